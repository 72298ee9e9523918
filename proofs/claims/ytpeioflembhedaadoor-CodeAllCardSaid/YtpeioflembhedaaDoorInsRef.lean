/-
  The document's reader: a byte, a number, an instruction. No conditions but on sizes.
-/
import Derived.Test.YtpeioflembhedaaDoorRdRef
namespace Go.Proofs.YtpeioflembhedaaDoor
open Go.RowKit

set_option maxRecDepth 100000 in
theorem oner_no (rb : Nat) (p : Option Addr) (l : List UInt8) (c : Nat) (e e1 : Int) (w : World) (h : Rd w rb p l c e) (hl : l.length ≤ 1000000) (he : askR (decide (1 ≤ l.length)) 2 e = e1) (h1 : e1 ≠ 0) : Calls Tryd.prog 41 #[.pointer (some ⟨rb, 0, none⟩)] w (RdPost rb p c 0 l e1 w) := by
  have HR := hid h
  have HE := hid he
  have H1 := hid h1
  clear h he h1
  go_enter Tryd.func41, Tryd.ntmps41
  go_wp2_with fail
  refine (somer_no rb p l c e 1 _ HR.out HE.out H1.out hl).mono ?_
  rintro x w1 ⟨rfl, hr, ht⟩
  have HR1 := hid hr
  have HT1 := hid ht
  clear hr ht
  go_wp2_with fail
  go_ret
  exact ⟨rfl, p, c, HR1.out, Sub.refl _ _, HT1.out⟩
set_option maxRecDepth 100000 in
theorem oner_yes (rb : Nat) (p : Option Addr) (b : UInt8) (r : List UInt8) (c : Nat) (w : World) (h : Rd w rb p (b :: r) c 0) (hl : (b :: r).length ≤ 1000000) : Calls Tryd.prog 41 #[.pointer (some ⟨rb, 0, none⟩)] w (RdPost rb p c b.toNat r 0 w) := by
  have HR := hid h
  clear h
  go_enter Tryd.func41, Tryd.ntmps41
  go_wp2_with fail
  refine (somer_yes rb p (b :: r) c 0 1 _ HR.out (by simp [askR]) hl).mono ?_
  rintro x w1 ⟨p1, c1, p2, c2, rfl, hb, hr, hs1, hs2, ht⟩
  obtain ⟨bk, off, rfl, hc, hc1⟩ := Bys.head (b := b) (r := []) hb
  have HR1 := hid hr
  have HT1 := hid ht
  have HS := hid hs2
  clear hr ht hs1 hs2 hb
  have hbl : (b.toNat : Int) ≤ 255 := by have := b.toNat_lt; omega
  go_wp2_with fail
  go_ret
  exact ⟨rfl, p2, c2, HR1.out, HS.out, HT1.out⟩
theorem oner_any (rb : Nat) (p : Option Addr) (l : List UInt8) (c : Nat) (e : Int) (w : World) (h : Rd w rb p l c e) (hl : l.length ≤ 1000000) : Calls Tryd.prog 41 #[.pointer (some ⟨rb, 0, none⟩)] w (RdPost rb p c (oneR l e).1 (oneR l e).2.1 (oneR l e).2.2 w) := by
  by_cases he : e = 0
  · subst he
    cases l with
    | nil => exact oner_no rb p [] c 0 2 w h hl rfl (by decide)
    | cons b r => exact oner_yes rb p b r c w h hl
  · have e1 : oneR l e = (0, l, e) := by simp [oneR, he]
    rw [e1]
    exact oner_no rb p l c e e w h hl (by simp [askR, he]) he
set_option maxRecDepth 100000 in
theorem numbr_no (rb : Nat) (p : Option Addr) (l : List UInt8) (c : Nat) (e e1 : Int) (w : World) (h : Rd w rb p l c e) (hl : l.length ≤ 1000000) (he : askR (decide (8 ≤ l.length)) 2 e = e1) (h1 : e1 ≠ 0) : Calls Tryd.prog 43 #[.pointer (some ⟨rb, 0, none⟩)] w (RdPost rb p c 0 l e1 w) := by
  have HR := hid h
  have HE := hid he
  have H1 := hid h1
  clear h he h1
  go_enter Tryd.func43, Tryd.ntmps43
  go_wp2_with fail
  refine (somer_no rb p l c e 8 _ HR.out HE.out H1.out hl).mono ?_
  rintro x w1 ⟨rfl, hr, ht⟩
  have HR1 := hid hr
  have HT1 := hid ht
  clear hr ht
  go_wp2_with fail
  go_loopg [4, 5] 0 (fun n m j wx => wx = w1 ∧ n = 0 ∧ m = .int .u64 0 ∧ j = .int .i64 0)
  case atStart => exact ⟨rfl, rfl, rfl, rfl⟩
  case round =>
    obtain ⟨rfl, rfl, rfl, rfl⟩ := hrel
    go_wp2_with fail
    go_ret
    exact ⟨rfl, p, c, HR1.out, Sub.refl _ _, HT1.out⟩
set_option maxRecDepth 100000 in
theorem numbr_yes (rb : Nat) (p : Option Addr) (l : List UInt8) (c : Nat) (w : World) (h : Rd w rb p l c 0) (hl : l.length ≤ 1000000) (h8 : 8 ≤ l.length) : Calls Tryd.prog 43 #[.pointer (some ⟨rb, 0, none⟩)] w (RdPost rb p c (signR (bigR (l.take 8))) (l.drop 8) 0 w) := by
  have HR := hid h
  clear h
  go_enter Tryd.func43, Tryd.ntmps43
  go_wp2_with fail
  refine (somer_yes rb p l c 0 8 _ HR.out (by simp [askR, h8]) hl).mono ?_
  rintro x w1 ⟨p1, c1, p2, c2, rfl, hb, hr, hs1, hs2, ht⟩
  have hbl := hb.1
  have h8l : (l.take 8).length = 8 := by rw [List.length_take]; omega
  rcases hb.2 with h0 | ⟨bk, off, rfl, _, hcell⟩
  · omega
  have HC := hid hcell
  have HR1 := hid hr
  have HT1 := hid ht
  have HS := hid hs2
  have H8 := hid h8l
  clear hr ht hs1 hs2 hb hbl h8l hcell
  go_wp2_with fail
  go_loopg [4, 5] 8 (fun n m j wx => wx = w1 ∧ ∃ k : Nat, k ≤ 8 ∧ n = 8 - k ∧ j = .int .i64 k ∧ ∃ M : Nat, M < 256 ^ k ∧ m = .int .u64 M ∧ Hid (M = bigR ((l.take 8).take k)))
  case atStart => exact ⟨rfl, 0, by omega, rfl, rfl, 0, by decide, rfl, rfl⟩
  case round =>
    obtain ⟨rfl, k, hk, rfl, rfl, M, hM, rfl, hMe⟩ := hrel
    by_cases hkl : k < 8
    · obtain ⟨b, hb⟩ : ∃ b, (l.take 8)[k]? = some b := ⟨(l.take 8)[k]'(by have := H8.out; omega), List.getElem?_eq_getElem _⟩
      have hc := HC.out k b hb
      have HB := hid hb
      have hkz : (k : Int) < 8 := by omega
      clear hb
      have h7 := pow_le7 hkl
      have hbl := b.toNat_lt
      have hMz : (M : Int) * 256 ≤ 18446744073709551360 := by omega
      have hMz0 : 0 ≤ (M : Int) * 256 := by omega
      have hMw : IntKind.u64.wrap ((M : Int) * 256) = (M : Int) * 256 := by rw [IntKind.wrap_u64]; omega
      have hBw : IntKind.u64.wrap (b.toNat : Int) = (b.toNat : Int) := by rw [IntKind.wrap_u64]; omega
      have hAw : IntKind.u64.wrap ((M : Int) * 256 + (b.toNat : Int)) = ((M * 256 + b.toNat : Nat) : Int) := by rw [IntKind.wrap_u64]; omega
      go_wp2_with fail
      have hsn := big_snoc (l.take 8) k b HB.out
      go_roundg (8 - (k + 1))
      case measure => go_light; omega
      case rel =>
        go_light
        refine ⟨rfl, k + 1, by omega, rfl, by go_num, M * 256 + b.toNat, ?_, ?_, ?_⟩
        · rw [Nat.pow_succ]
          omega
        · congr 1
        · rw [hsn, ← hMe]
          rfl
    · obtain rfl : k = 8 := by omega
      have hM2 : M < 18446744073709551616 := by simpa using hM
      have hsv := hid (sign_val M hM2)
      have hME := hid hMe.out
      clear hM hMe
      go_wp2_with fail
      go_ret
      refine ⟨?_, p2, c2, HR1.out, HS.out, HT1.out⟩
      have h8t : (l.take 8).take 8 = l.take 8 := List.take_of_length_le (by rw [H8.out]; exact Nat.le_refl _)
      rw [hsv.out, hME.out, h8t]
      rfl
theorem numbr_any (rb : Nat) (p : Option Addr) (l : List UInt8) (c : Nat) (e : Int) (w : World) (h : Rd w rb p l c e) (hl : l.length ≤ 1000000) : Calls Tryd.prog 43 #[.pointer (some ⟨rb, 0, none⟩)] w (RdPost rb p c (numbR l e).1 (numbR l e).2.1 (numbR l e).2.2 w) := by
  by_cases he : e = 0
  · subst he
    by_cases h8 : 8 ≤ l.length
    · have e1 : numbR l 0 = (signR (bigR (l.take 8)), l.drop 8, 0) := by simp [numbR, h8]
      rw [e1]
      exact numbr_yes rb p l c w h hl h8
    · have e1 : numbR l 0 = (0, l, 2) := by simp [numbR, h8]
      rw [e1]
      exact numbr_no rb p l c 0 2 w h hl (by simp [askR, h8]) (by decide)
  · have e1 : numbR l e = (0, l, e) := by simp [numbR, he]
    rw [e1]
    exact numbr_no rb p l c e e w h hl (by simp [askR, he]) he
set_option maxRecDepth 100000 in
set_option maxHeartbeats 2000000 in
theorem insr_lo (rb : Nat) (p : Option Addr) (l : List UInt8) (c : Nat) (e : Int) (w : World) (h : Rd w rb p l c e) (hl : l.length ≤ 1000000) (ho : (oneR l e).1 < 1) (hs : shapeR (oneR l e).1 = 0) : Calls Tryd.prog 44 #[.pointer (some ⟨rb, 0, none⟩)] w (InsPost rb p c (insT l e) w) := by
  obtain ⟨r, hr⟩ : ∃ r, Hid (insT l e = r) := ⟨_, rfl⟩
  have h0 := one_bd l e
  have hl1 := one_len l e
  have HO := hid (fun (X : Nat → Prop) (hX : ∀ k, X k → w.heap.size ≤ k) => h.bs.off hX)
  have HR := hid h
  have hrb := h.lt
  clear h
  rw [hr.out]
  have hr := hr.out
  unfold insT at hr
  obtain ⟨r0, hr0⟩ : ∃ r0, Hid (oneR l e = r0) := ⟨_, rfl⟩
  simp only [hr0.out] at hr h0 hl1 ho hs
  obtain ⟨o, l1, e1⟩ := r0
  simp only at hr h0 hl1 ho hs
  obtain ⟨h0, h255⟩ := h0
  have SA := hid (show hasA o = false by simp [hasA, hs])
  have SB := hid (show hasB o = false by simp [hasB, hs])
  have SS := hid (show hasS o = false by simp [hasS, hs])
  simp only [SA.out, SB.out, SS.out, if_true, Bool.false_eq_true, if_false] at hr
  have hok : (decide (1 ≤ o) && decide (o ≤ 23)) = false := by simp; omega
  rw [hok] at hr
  have HREC := hid hr
  clear hr hs hok
  go_enter Tryd.func44, Tryd.ntmps44
  go_wp2_with fail
  refine (oner_any rb p l c e _ (HR.out.on ((G.refl w).alloc _)) hl).mono ?_
  rintro x w1 ⟨rfl, p1, c1, hr1, hs1, ht1⟩
  rw [hr0.out] at hr1 ⊢
  have hsz : w.heap.size + 1 ≤ w1.heap.size := by have := ht1.size; simpa using this
  have hrv := (At.alloc w 0 0 0 E).turn ht1 (by omega)
  have htn : Turn (fun k => k = rb) w w1 := (Turn.of ((G.refl w).alloc _)).trans ht1
  have HR1 := hid hr1
  have HRV := hid hrv
  have HTN := hid htn
  have HS1 := hid hs1
  clear hr1 hs1 ht1 hrv htn
  go_wp2_with fail
  have HS : Hid (St w (w1.alloc (.cells #[.int .i64 o, .int .i64 0, .int .i64 0, .string ⟨#[]⟩] 23)) rb p c w1.heap.size l1 e1 o 0 0 E) := hid ⟨⟨p1, c1, HR1.out.on ((G.refl w1).alloc _), HS1.out⟩, HTN.out.trans (Turn.of ((G.refl w1).alloc _)), HRV.out.mono ((G.refl w1).alloc _), At.alloc w1 o 0 0 E, by omega, hrb, HO.out⟩
  obtain ⟨q1, d1, hrd, hsub⟩ := HS.out.rd
  refine (corrupt_any rb q1 l1 d1 e1 false _ hrd).mono ?_
  rintro x w2 ⟨rfl, hr2, ht2⟩
  replace HS := hid (HS.out.call hsub hr2 (Sub.refl _ _) ht2)
  clear hrd hsub hr2 ht2 HR1 HRV HTN HS1 hsz
  obtain ⟨e2, he2⟩ : ∃ e2, Hid (askR false 3 e1 = e2) := ⟨_, rfl⟩
  rw [he2.out] at HS HREC
  obtain ⟨lx, px, qx, rx, tx, fx⟩ := HS.out.bx
  simp at qx rx tx
  go_wp2_with fail
  refine (hasA_to SA.out _).mono ?_
  rintro x w3 ⟨rfl, g⟩
  clear lx px qx rx tx fx
  replace HS := hid (HS.out.g g)
  clear g
  obtain ⟨lx, px, qx, rx, tx, fx⟩ := HS.out.bx
  simp at qx rx tx
  go_wp2_with fail
  refine (hasB_to SB.out _).mono ?_
  rintro x wz ⟨rfl, rfl⟩
  go_wp2_with fail
  refine (hasS_to SS.out _).mono ?_
  rintro x wz ⟨rfl, rfl⟩
  go_wp2_with fail
  obtain ⟨mb, hmb⟩ : ∃ mb, Hid (mayI (o, 0, 0, E) = mb) := ⟨_, rfl⟩
  refine (may_to (x := (o, 0, 0, E)) hmb.out _).mono ?_
  rintro x wm ⟨rfl, g⟩
  clear lx px qx rx tx fx
  replace HS := hid (HS.out.g g)
  clear g
  obtain ⟨q8, d8, hrd, hsub⟩ := HS.out.rd
  go_wp2_with fail
  refine (corrupt_any rb q8 l1 d8 e2 mb _ hrd).mono ?_
  rintro x w8 ⟨rfl, hr2, ht2⟩
  replace HS := hid (HS.out.call hsub hr2 (Sub.refl _ _) ht2)
  clear hrd hsub hr2 ht2
  obtain ⟨lx, px, qx, rx, tx, fx⟩ := HS.out.bx
  simp at qx rx tx
  obtain ⟨lv, pv, qv, rv, tv, fv⟩ := HS.out.rv
  simp at qv rv tv
  go_wp2_with fail
  obtain ⟨hat, p9, c9, hr9, hs9, ht9⟩ := HS.out.last
  refine results_box Tryd.results44 rfl hat ?_
  have hR := HREC.out
  have hM : mayR o 0 0 E = mb := hmb.out
  rw [hM] at hR
  subst hR
  exact ⟨rfl, p9, c9, hr9, hs9, ht9⟩
set_option maxRecDepth 100000 in
set_option maxHeartbeats 2000000 in
theorem insr_hi (rb : Nat) (p : Option Addr) (l : List UInt8) (c : Nat) (e : Int) (w : World) (h : Rd w rb p l c e) (hl : l.length ≤ 1000000) (ho : 23 < (oneR l e).1) (hs : shapeR (oneR l e).1 = 0) : Calls Tryd.prog 44 #[.pointer (some ⟨rb, 0, none⟩)] w (InsPost rb p c (insT l e) w) := by
  obtain ⟨r, hr⟩ : ∃ r, Hid (insT l e = r) := ⟨_, rfl⟩
  have h0 := one_bd l e
  have hl1 := one_len l e
  have HO := hid (fun (X : Nat → Prop) (hX : ∀ k, X k → w.heap.size ≤ k) => h.bs.off hX)
  have HR := hid h
  have hrb := h.lt
  clear h
  rw [hr.out]
  have hr := hr.out
  unfold insT at hr
  obtain ⟨r0, hr0⟩ : ∃ r0, Hid (oneR l e = r0) := ⟨_, rfl⟩
  simp only [hr0.out] at hr h0 hl1 ho hs
  obtain ⟨o, l1, e1⟩ := r0
  simp only at hr h0 hl1 ho hs
  obtain ⟨h0, h255⟩ := h0
  have SA := hid (show hasA o = false by simp [hasA, hs])
  have SB := hid (show hasB o = false by simp [hasB, hs])
  have SS := hid (show hasS o = false by simp [hasS, hs])
  simp only [SA.out, SB.out, SS.out, if_true, Bool.false_eq_true, if_false] at hr
  have hok : (decide (1 ≤ o) && decide (o ≤ 23)) = false := by simp; omega
  rw [hok] at hr
  have HREC := hid hr
  clear hr hs hok
  have hd23 : decide (o ≤ 23) = false := by simp; omega
  go_enter Tryd.func44, Tryd.ntmps44
  go_wp2_with fail
  refine (oner_any rb p l c e _ (HR.out.on ((G.refl w).alloc _)) hl).mono ?_
  rintro x w1 ⟨rfl, p1, c1, hr1, hs1, ht1⟩
  rw [hr0.out] at hr1 ⊢
  have hsz : w.heap.size + 1 ≤ w1.heap.size := by have := ht1.size; simpa using this
  have hrv := (At.alloc w 0 0 0 E).turn ht1 (by omega)
  have htn : Turn (fun k => k = rb) w w1 := (Turn.of ((G.refl w).alloc _)).trans ht1
  have HR1 := hid hr1
  have HRV := hid hrv
  have HTN := hid htn
  have HS1 := hid hs1
  clear hr1 hs1 ht1 hrv htn
  go_wp2_with fail
  have HS : Hid (St w (w1.alloc (.cells #[.int .i64 o, .int .i64 0, .int .i64 0, .string ⟨#[]⟩] 23)) rb p c w1.heap.size l1 e1 o 0 0 E) := hid ⟨⟨p1, c1, HR1.out.on ((G.refl w1).alloc _), HS1.out⟩, HTN.out.trans (Turn.of ((G.refl w1).alloc _)), HRV.out.mono ((G.refl w1).alloc _), At.alloc w1 o 0 0 E, by omega, hrb, HO.out⟩
  obtain ⟨q1, d1, hrd, hsub⟩ := HS.out.rd
  refine (corrupt_any rb q1 l1 d1 e1 false _ hrd).mono ?_
  rintro x w2 ⟨rfl, hr2, ht2⟩
  replace HS := hid (HS.out.call hsub hr2 (Sub.refl _ _) ht2)
  clear hrd hsub hr2 ht2 HR1 HRV HTN HS1 hsz
  obtain ⟨e2, he2⟩ : ∃ e2, Hid (askR false 3 e1 = e2) := ⟨_, rfl⟩
  rw [he2.out] at HS HREC
  obtain ⟨lx, px, qx, rx, tx, fx⟩ := HS.out.bx
  simp at qx rx tx
  go_wp2_with fail
  refine (hasA_to SA.out _).mono ?_
  rintro x w3 ⟨rfl, g⟩
  clear lx px qx rx tx fx
  replace HS := hid (HS.out.g g)
  clear g
  obtain ⟨lx, px, qx, rx, tx, fx⟩ := HS.out.bx
  simp at qx rx tx
  go_wp2_with fail
  refine (hasB_to SB.out _).mono ?_
  rintro x wz ⟨rfl, rfl⟩
  go_wp2_with fail
  refine (hasS_to SS.out _).mono ?_
  rintro x wz ⟨rfl, rfl⟩
  go_wp2_with fail
  obtain ⟨mb, hmb⟩ : ∃ mb, Hid (mayI (o, 0, 0, E) = mb) := ⟨_, rfl⟩
  refine (may_to (x := (o, 0, 0, E)) hmb.out _).mono ?_
  rintro x wm ⟨rfl, g⟩
  clear lx px qx rx tx fx
  replace HS := hid (HS.out.g g)
  clear g
  obtain ⟨q8, d8, hrd, hsub⟩ := HS.out.rd
  go_wp2_with fail
  refine (corrupt_any rb q8 l1 d8 e2 mb _ hrd).mono ?_
  rintro x w8 ⟨rfl, hr2, ht2⟩
  replace HS := hid (HS.out.call hsub hr2 (Sub.refl _ _) ht2)
  clear hrd hsub hr2 ht2
  obtain ⟨lx, px, qx, rx, tx, fx⟩ := HS.out.bx
  simp at qx rx tx
  obtain ⟨lv, pv, qv, rv, tv, fv⟩ := HS.out.rv
  simp at qv rv tv
  go_wp2_with fail
  obtain ⟨hat, p9, c9, hr9, hs9, ht9⟩ := HS.out.last
  refine results_box Tryd.results44 rfl hat ?_
  have hR := HREC.out
  have hM : mayR o 0 0 E = mb := hmb.out
  rw [hM] at hR
  subst hR
  exact ⟨rfl, p9, c9, hr9, hs9, ht9⟩
set_option maxRecDepth 100000 in
set_option maxHeartbeats 2000000 in
theorem insr_in0 (rb : Nat) (p : Option Addr) (l : List UInt8) (c : Nat) (e : Int) (w : World) (h : Rd w rb p l c e) (hl : l.length ≤ 1000000) (ho : 1 ≤ (oneR l e).1) (ho2 : (oneR l e).1 ≤ 23) (hs : shapeR (oneR l e).1 = 0) : Calls Tryd.prog 44 #[.pointer (some ⟨rb, 0, none⟩)] w (InsPost rb p c (insT l e) w) := by
  obtain ⟨r, hr⟩ : ∃ r, Hid (insT l e = r) := ⟨_, rfl⟩
  have h0 := one_bd l e
  have hl1 := one_len l e
  have HO := hid (fun (X : Nat → Prop) (hX : ∀ k, X k → w.heap.size ≤ k) => h.bs.off hX)
  have HR := hid h
  have hrb := h.lt
  clear h
  rw [hr.out]
  have hr := hr.out
  unfold insT at hr
  obtain ⟨r0, hr0⟩ : ∃ r0, Hid (oneR l e = r0) := ⟨_, rfl⟩
  simp only [hr0.out] at hr h0 hl1 ho ho2 hs
  obtain ⟨o, l1, e1⟩ := r0
  simp only at hr h0 hl1 ho ho2 hs
  obtain ⟨h0, h255⟩ := h0
  have SA := hid (show hasA o = false by simp [hasA, hs])
  have SB := hid (show hasB o = false by simp [hasB, hs])
  have SS := hid (show hasS o = false by simp [hasS, hs])
  simp only [SA.out, SB.out, SS.out, if_true, Bool.false_eq_true, if_false] at hr
  have hok : (decide (1 ≤ o) && decide (o ≤ 23)) = true := by simp [ho, ho2]
  rw [hok] at hr
  have HREC := hid hr
  clear hr hs hok
  go_enter Tryd.func44, Tryd.ntmps44
  go_wp2_with fail
  refine (oner_any rb p l c e _ (HR.out.on ((G.refl w).alloc _)) hl).mono ?_
  rintro x w1 ⟨rfl, p1, c1, hr1, hs1, ht1⟩
  rw [hr0.out] at hr1 ⊢
  have hsz : w.heap.size + 1 ≤ w1.heap.size := by have := ht1.size; simpa using this
  have hrv := (At.alloc w 0 0 0 E).turn ht1 (by omega)
  have htn : Turn (fun k => k = rb) w w1 := (Turn.of ((G.refl w).alloc _)).trans ht1
  have HR1 := hid hr1
  have HRV := hid hrv
  have HTN := hid htn
  have HS1 := hid hs1
  clear hr1 hs1 ht1 hrv htn
  go_wp2_with fail
  have HS : Hid (St w (w1.alloc (.cells #[.int .i64 o, .int .i64 0, .int .i64 0, .string ⟨#[]⟩] 23)) rb p c w1.heap.size l1 e1 o 0 0 E) := hid ⟨⟨p1, c1, HR1.out.on ((G.refl w1).alloc _), HS1.out⟩, HTN.out.trans (Turn.of ((G.refl w1).alloc _)), HRV.out.mono ((G.refl w1).alloc _), At.alloc w1 o 0 0 E, by omega, hrb, HO.out⟩
  obtain ⟨q1, d1, hrd, hsub⟩ := HS.out.rd
  refine (corrupt_any rb q1 l1 d1 e1 true _ hrd).mono ?_
  rintro x w2 ⟨rfl, hr2, ht2⟩
  replace HS := hid (HS.out.call hsub hr2 (Sub.refl _ _) ht2)
  clear hrd hsub hr2 ht2 HR1 HRV HTN HS1 hsz
  obtain ⟨e2, he2⟩ : ∃ e2, Hid (askR true 3 e1 = e2) := ⟨_, rfl⟩
  rw [he2.out] at HS HREC
  obtain ⟨lx, px, qx, rx, tx, fx⟩ := HS.out.bx
  simp at qx rx tx
  go_wp2_with fail
  refine (hasA_to SA.out _).mono ?_
  rintro x w3 ⟨rfl, g⟩
  clear lx px qx rx tx fx
  replace HS := hid (HS.out.g g)
  clear g
  obtain ⟨lx, px, qx, rx, tx, fx⟩ := HS.out.bx
  simp at qx rx tx
  go_wp2_with fail
  refine (hasB_to SB.out _).mono ?_
  rintro x wz ⟨rfl, rfl⟩
  go_wp2_with fail
  refine (hasS_to SS.out _).mono ?_
  rintro x wz ⟨rfl, rfl⟩
  go_wp2_with fail
  obtain ⟨mb, hmb⟩ : ∃ mb, Hid (mayI (o, 0, 0, E) = mb) := ⟨_, rfl⟩
  refine (may_to (x := (o, 0, 0, E)) hmb.out _).mono ?_
  rintro x wm ⟨rfl, g⟩
  clear lx px qx rx tx fx
  replace HS := hid (HS.out.g g)
  clear g
  obtain ⟨q8, d8, hrd, hsub⟩ := HS.out.rd
  go_wp2_with fail
  refine (corrupt_any rb q8 l1 d8 e2 mb _ hrd).mono ?_
  rintro x w8 ⟨rfl, hr2, ht2⟩
  replace HS := hid (HS.out.call hsub hr2 (Sub.refl _ _) ht2)
  clear hrd hsub hr2 ht2
  obtain ⟨lx, px, qx, rx, tx, fx⟩ := HS.out.bx
  simp at qx rx tx
  obtain ⟨lv, pv, qv, rv, tv, fv⟩ := HS.out.rv
  simp at qv rv tv
  go_wp2_with fail
  obtain ⟨hat, p9, c9, hr9, hs9, ht9⟩ := HS.out.last
  refine results_box Tryd.results44 rfl hat ?_
  have hR := HREC.out
  have hM : mayR o 0 0 E = mb := hmb.out
  rw [hM] at hR
  subst hR
  exact ⟨rfl, p9, c9, hr9, hs9, ht9⟩
set_option maxRecDepth 100000 in
set_option maxHeartbeats 2000000 in
theorem insr_in1 (rb : Nat) (p : Option Addr) (l : List UInt8) (c : Nat) (e : Int) (w : World) (h : Rd w rb p l c e) (hl : l.length ≤ 1000000) (ho : 1 ≤ (oneR l e).1) (ho2 : (oneR l e).1 ≤ 23) (hs : shapeR (oneR l e).1 = 1) : Calls Tryd.prog 44 #[.pointer (some ⟨rb, 0, none⟩)] w (InsPost rb p c (insT l e) w) := by
  obtain ⟨r, hr⟩ : ∃ r, Hid (insT l e = r) := ⟨_, rfl⟩
  have h0 := one_bd l e
  have hl1 := one_len l e
  have HO := hid (fun (X : Nat → Prop) (hX : ∀ k, X k → w.heap.size ≤ k) => h.bs.off hX)
  have HR := hid h
  have hrb := h.lt
  clear h
  rw [hr.out]
  have hr := hr.out
  unfold insT at hr
  obtain ⟨r0, hr0⟩ : ∃ r0, Hid (oneR l e = r0) := ⟨_, rfl⟩
  simp only [hr0.out] at hr h0 hl1 ho ho2 hs
  obtain ⟨o, l1, e1⟩ := r0
  simp only at hr h0 hl1 ho ho2 hs
  obtain ⟨h0, h255⟩ := h0
  have SA := hid (show hasA o = true by simp [hasA, hs])
  have SB := hid (show hasB o = false by simp [hasB, hs])
  have SS := hid (show hasS o = false by simp [hasS, hs])
  simp only [SA.out, SB.out, SS.out, if_true, Bool.false_eq_true, if_false] at hr
  have hok : (decide (1 ≤ o) && decide (o ≤ 23)) = true := by simp [ho, ho2]
  rw [hok] at hr
  have HREC := hid hr
  clear hr hs hok
  go_enter Tryd.func44, Tryd.ntmps44
  go_wp2_with fail
  refine (oner_any rb p l c e _ (HR.out.on ((G.refl w).alloc _)) hl).mono ?_
  rintro x w1 ⟨rfl, p1, c1, hr1, hs1, ht1⟩
  rw [hr0.out] at hr1 ⊢
  have hsz : w.heap.size + 1 ≤ w1.heap.size := by have := ht1.size; simpa using this
  have hrv := (At.alloc w 0 0 0 E).turn ht1 (by omega)
  have htn : Turn (fun k => k = rb) w w1 := (Turn.of ((G.refl w).alloc _)).trans ht1
  have HR1 := hid hr1
  have HRV := hid hrv
  have HTN := hid htn
  have HS1 := hid hs1
  clear hr1 hs1 ht1 hrv htn
  go_wp2_with fail
  have HS : Hid (St w (w1.alloc (.cells #[.int .i64 o, .int .i64 0, .int .i64 0, .string ⟨#[]⟩] 23)) rb p c w1.heap.size l1 e1 o 0 0 E) := hid ⟨⟨p1, c1, HR1.out.on ((G.refl w1).alloc _), HS1.out⟩, HTN.out.trans (Turn.of ((G.refl w1).alloc _)), HRV.out.mono ((G.refl w1).alloc _), At.alloc w1 o 0 0 E, by omega, hrb, HO.out⟩
  obtain ⟨q1, d1, hrd, hsub⟩ := HS.out.rd
  refine (corrupt_any rb q1 l1 d1 e1 true _ hrd).mono ?_
  rintro x w2 ⟨rfl, hr2, ht2⟩
  replace HS := hid (HS.out.call hsub hr2 (Sub.refl _ _) ht2)
  clear hrd hsub hr2 ht2 HR1 HRV HTN HS1 hsz
  obtain ⟨e2, he2⟩ : ∃ e2, Hid (askR true 3 e1 = e2) := ⟨_, rfl⟩
  rw [he2.out] at HS HREC
  obtain ⟨lx, px, qx, rx, tx, fx⟩ := HS.out.bx
  simp at qx rx tx
  go_wp2_with fail
  refine (hasA_to SA.out _).mono ?_
  rintro x w3 ⟨rfl, g⟩
  clear lx px qx rx tx fx
  replace HS := hid (HS.out.g g)
  clear g
  obtain ⟨lx, px, qx, rx, tx, fx⟩ := HS.out.bx
  simp at qx rx tx
  obtain ⟨q4, d4, hrd, hsub⟩ := HS.out.rd
  go_wp2_with fail
  refine (numbr_any rb q4 l1 d4 e2 _ hrd (by omega)).mono ?_
  rintro x w4 ⟨rfl, p4, c4, hr2, hs2, ht2⟩
  clear lx px qx rx tx fx
  replace HS := hid (HS.out.call hsub hr2 hs2 ht2)
  clear hrd hsub hr2 hs2 ht2
  have hn4 := numb_bd l1 e2
  have hm4 := numb_len l1 e2
  obtain ⟨rr, hrr⟩ : ∃ rr, Hid (numbR l1 e2 = rr) := ⟨_, rfl⟩
  rw [hrr.out] at HS hn4 hm4 ⊢
  have HREC2 := HREC.out
  simp only [hrr.out] at HREC2
  obtain ⟨n4, l4, e4⟩ := rr
  simp only at hn4 hm4 HREC2
  replace HREC := hid HREC2
  clear HREC2 hrr
  replace HS : Hid (St w w4 rb p c w1.heap.size l4 e4 o 0 0 E) := hid HS.out
  obtain ⟨lx, px, qx, rx, tx, fx⟩ := HS.out.bx
  simp at qx rx tx
  have PA := hid (HS.out.put (HS.out.bx.set1 n4))
  go_wp2_with fail
  clear lx px qx rx tx fx
  replace HS : Hid (St w (w4.setCell ⟨w1.heap.size, 1, none⟩ (.int .i64 n4)) rb p c w1.heap.size l4 e4 o n4 0 E) := PA
  clear PA
  obtain ⟨lx, px, qx, rx, tx, fx⟩ := HS.out.bx
  simp at qx rx tx
  refine (hasB_to SB.out _).mono ?_
  rintro x wz ⟨rfl, rfl⟩
  go_wp2_with fail
  refine (hasS_to SS.out _).mono ?_
  rintro x wz ⟨rfl, rfl⟩
  go_wp2_with fail
  obtain ⟨mb, hmb⟩ : ∃ mb, Hid (mayI (o, n4, 0, E) = mb) := ⟨_, rfl⟩
  refine (may_to (x := (o, n4, 0, E)) hmb.out _).mono ?_
  rintro x wm ⟨rfl, g⟩
  clear lx px qx rx tx fx
  replace HS := hid (HS.out.g g)
  clear g
  obtain ⟨q8, d8, hrd, hsub⟩ := HS.out.rd
  go_wp2_with fail
  refine (corrupt_any rb q8 l4 d8 e4 mb _ hrd).mono ?_
  rintro x w8 ⟨rfl, hr2, ht2⟩
  replace HS := hid (HS.out.call hsub hr2 (Sub.refl _ _) ht2)
  clear hrd hsub hr2 ht2
  obtain ⟨lx, px, qx, rx, tx, fx⟩ := HS.out.bx
  simp at qx rx tx
  obtain ⟨lv, pv, qv, rv, tv, fv⟩ := HS.out.rv
  simp at qv rv tv
  go_wp2_with fail
  obtain ⟨hat, p9, c9, hr9, hs9, ht9⟩ := HS.out.last
  refine results_box Tryd.results44 rfl hat ?_
  have hR := HREC.out
  have hM : mayR o n4 0 E = mb := hmb.out
  rw [hM] at hR
  subst hR
  exact ⟨rfl, p9, c9, hr9, hs9, ht9⟩
set_option maxRecDepth 100000 in
set_option maxHeartbeats 2000000 in
theorem insr_in3 (rb : Nat) (p : Option Addr) (l : List UInt8) (c : Nat) (e : Int) (w : World) (h : Rd w rb p l c e) (hl : l.length ≤ 1000000) (ho : 1 ≤ (oneR l e).1) (ho2 : (oneR l e).1 ≤ 23) (hs : shapeR (oneR l e).1 = 3) : Calls Tryd.prog 44 #[.pointer (some ⟨rb, 0, none⟩)] w (InsPost rb p c (insT l e) w) := by
  obtain ⟨r, hr⟩ : ∃ r, Hid (insT l e = r) := ⟨_, rfl⟩
  have h0 := one_bd l e
  have hl1 := one_len l e
  have HO := hid (fun (X : Nat → Prop) (hX : ∀ k, X k → w.heap.size ≤ k) => h.bs.off hX)
  have HR := hid h
  have hrb := h.lt
  clear h
  rw [hr.out]
  have hr := hr.out
  unfold insT at hr
  obtain ⟨r0, hr0⟩ : ∃ r0, Hid (oneR l e = r0) := ⟨_, rfl⟩
  simp only [hr0.out] at hr h0 hl1 ho ho2 hs
  obtain ⟨o, l1, e1⟩ := r0
  simp only at hr h0 hl1 ho ho2 hs
  obtain ⟨h0, h255⟩ := h0
  have SA := hid (show hasA o = true by simp [hasA, hs])
  have SB := hid (show hasB o = true by simp [hasB, hs])
  have SS := hid (show hasS o = false by simp [hasS, hs])
  simp only [SA.out, SB.out, SS.out, if_true, Bool.false_eq_true, if_false] at hr
  have hok : (decide (1 ≤ o) && decide (o ≤ 23)) = true := by simp [ho, ho2]
  rw [hok] at hr
  have HREC := hid hr
  clear hr hs hok
  go_enter Tryd.func44, Tryd.ntmps44
  go_wp2_with fail
  refine (oner_any rb p l c e _ (HR.out.on ((G.refl w).alloc _)) hl).mono ?_
  rintro x w1 ⟨rfl, p1, c1, hr1, hs1, ht1⟩
  rw [hr0.out] at hr1 ⊢
  have hsz : w.heap.size + 1 ≤ w1.heap.size := by have := ht1.size; simpa using this
  have hrv := (At.alloc w 0 0 0 E).turn ht1 (by omega)
  have htn : Turn (fun k => k = rb) w w1 := (Turn.of ((G.refl w).alloc _)).trans ht1
  have HR1 := hid hr1
  have HRV := hid hrv
  have HTN := hid htn
  have HS1 := hid hs1
  clear hr1 hs1 ht1 hrv htn
  go_wp2_with fail
  have HS : Hid (St w (w1.alloc (.cells #[.int .i64 o, .int .i64 0, .int .i64 0, .string ⟨#[]⟩] 23)) rb p c w1.heap.size l1 e1 o 0 0 E) := hid ⟨⟨p1, c1, HR1.out.on ((G.refl w1).alloc _), HS1.out⟩, HTN.out.trans (Turn.of ((G.refl w1).alloc _)), HRV.out.mono ((G.refl w1).alloc _), At.alloc w1 o 0 0 E, by omega, hrb, HO.out⟩
  obtain ⟨q1, d1, hrd, hsub⟩ := HS.out.rd
  refine (corrupt_any rb q1 l1 d1 e1 true _ hrd).mono ?_
  rintro x w2 ⟨rfl, hr2, ht2⟩
  replace HS := hid (HS.out.call hsub hr2 (Sub.refl _ _) ht2)
  clear hrd hsub hr2 ht2 HR1 HRV HTN HS1 hsz
  obtain ⟨e2, he2⟩ : ∃ e2, Hid (askR true 3 e1 = e2) := ⟨_, rfl⟩
  rw [he2.out] at HS HREC
  obtain ⟨lx, px, qx, rx, tx, fx⟩ := HS.out.bx
  simp at qx rx tx
  go_wp2_with fail
  refine (hasA_to SA.out _).mono ?_
  rintro x w3 ⟨rfl, g⟩
  clear lx px qx rx tx fx
  replace HS := hid (HS.out.g g)
  clear g
  obtain ⟨lx, px, qx, rx, tx, fx⟩ := HS.out.bx
  simp at qx rx tx
  obtain ⟨q4, d4, hrd, hsub⟩ := HS.out.rd
  go_wp2_with fail
  refine (numbr_any rb q4 l1 d4 e2 _ hrd (by omega)).mono ?_
  rintro x w4 ⟨rfl, p4, c4, hr2, hs2, ht2⟩
  clear lx px qx rx tx fx
  replace HS := hid (HS.out.call hsub hr2 hs2 ht2)
  clear hrd hsub hr2 hs2 ht2
  have hn4 := numb_bd l1 e2
  have hm4 := numb_len l1 e2
  obtain ⟨rr, hrr⟩ : ∃ rr, Hid (numbR l1 e2 = rr) := ⟨_, rfl⟩
  rw [hrr.out] at HS hn4 hm4 ⊢
  have HREC2 := HREC.out
  simp only [hrr.out] at HREC2
  obtain ⟨n4, l4, e4⟩ := rr
  simp only at hn4 hm4 HREC2
  replace HREC := hid HREC2
  clear HREC2 hrr
  replace HS : Hid (St w w4 rb p c w1.heap.size l4 e4 o 0 0 E) := hid HS.out
  obtain ⟨lx, px, qx, rx, tx, fx⟩ := HS.out.bx
  simp at qx rx tx
  have PA := hid (HS.out.put (HS.out.bx.set1 n4))
  go_wp2_with fail
  clear lx px qx rx tx fx
  replace HS : Hid (St w (w4.setCell ⟨w1.heap.size, 1, none⟩ (.int .i64 n4)) rb p c w1.heap.size l4 e4 o n4 0 E) := PA
  clear PA
  obtain ⟨lx, px, qx, rx, tx, fx⟩ := HS.out.bx
  simp at qx rx tx
  refine (hasB_to SB.out _).mono ?_
  rintro x wz ⟨rfl, rfl⟩
  obtain ⟨q5, d5, hrd, hsub⟩ := HS.out.rd
  go_wp2_with fail
  refine (numbr_any rb q5 l4 d5 e4 _ hrd (by omega)).mono ?_
  rintro x w5 ⟨rfl, p5, c5, hr2, hs2, ht2⟩
  clear lx px qx rx tx fx
  replace HS := hid (HS.out.call hsub hr2 hs2 ht2)
  clear hrd hsub hr2 hs2 ht2
  have hn5 := numb_bd l4 e4
  have hm5 := numb_len l4 e4
  obtain ⟨rr, hrr⟩ : ∃ rr, Hid (numbR l4 e4 = rr) := ⟨_, rfl⟩
  rw [hrr.out] at HS hn5 hm5 ⊢
  have HREC2 := HREC.out
  simp only [hrr.out] at HREC2
  obtain ⟨n5, l5, e5⟩ := rr
  simp only at hn5 hm5 HREC2
  replace HREC := hid HREC2
  clear HREC2 hrr
  replace HS : Hid (St w w5 rb p c w1.heap.size l5 e5 o n4 0 E) := hid HS.out
  obtain ⟨lx, px, qx, rx, tx, fx⟩ := HS.out.bx
  simp at qx rx tx
  have PA := hid (HS.out.put (HS.out.bx.set2 n5))
  go_wp2_with fail
  clear lx px qx rx tx fx
  replace HS : Hid (St w (w5.setCell ⟨w1.heap.size, 2, none⟩ (.int .i64 n5)) rb p c w1.heap.size l5 e5 o n4 n5 E) := PA
  clear PA
  obtain ⟨lx, px, qx, rx, tx, fx⟩ := HS.out.bx
  simp at qx rx tx
  refine (hasS_to SS.out _).mono ?_
  rintro x wz ⟨rfl, rfl⟩
  go_wp2_with fail
  obtain ⟨mb, hmb⟩ : ∃ mb, Hid (mayI (o, n4, n5, E) = mb) := ⟨_, rfl⟩
  refine (may_to (x := (o, n4, n5, E)) hmb.out _).mono ?_
  rintro x wm ⟨rfl, g⟩
  clear lx px qx rx tx fx
  replace HS := hid (HS.out.g g)
  clear g
  obtain ⟨q8, d8, hrd, hsub⟩ := HS.out.rd
  go_wp2_with fail
  refine (corrupt_any rb q8 l5 d8 e5 mb _ hrd).mono ?_
  rintro x w8 ⟨rfl, hr2, ht2⟩
  replace HS := hid (HS.out.call hsub hr2 (Sub.refl _ _) ht2)
  clear hrd hsub hr2 ht2
  obtain ⟨lx, px, qx, rx, tx, fx⟩ := HS.out.bx
  simp at qx rx tx
  obtain ⟨lv, pv, qv, rv, tv, fv⟩ := HS.out.rv
  simp at qv rv tv
  go_wp2_with fail
  obtain ⟨hat, p9, c9, hr9, hs9, ht9⟩ := HS.out.last
  refine results_box Tryd.results44 rfl hat ?_
  have hR := HREC.out
  have hM : mayR o n4 n5 E = mb := hmb.out
  rw [hM] at hR
  subst hR
  exact ⟨rfl, p9, c9, hr9, hs9, ht9⟩
set_option maxRecDepth 100000 in
set_option maxHeartbeats 2000000 in
theorem insr_in4 (rb : Nat) (p : Option Addr) (l : List UInt8) (c : Nat) (e : Int) (w : World) (h : Rd w rb p l c e) (hl : l.length ≤ 1000000) (ho : 1 ≤ (oneR l e).1) (ho2 : (oneR l e).1 ≤ 23) (hs : shapeR (oneR l e).1 = 4) : Calls Tryd.prog 44 #[.pointer (some ⟨rb, 0, none⟩)] w (InsPost rb p c (insT l e) w) := by
  obtain ⟨r, hr⟩ : ∃ r, Hid (insT l e = r) := ⟨_, rfl⟩
  have h0 := one_bd l e
  have hl1 := one_len l e
  have HO := hid (fun (X : Nat → Prop) (hX : ∀ k, X k → w.heap.size ≤ k) => h.bs.off hX)
  have HR := hid h
  have hrb := h.lt
  clear h
  rw [hr.out]
  have hr := hr.out
  unfold insT at hr
  obtain ⟨r0, hr0⟩ : ∃ r0, Hid (oneR l e = r0) := ⟨_, rfl⟩
  simp only [hr0.out] at hr h0 hl1 ho ho2 hs
  obtain ⟨o, l1, e1⟩ := r0
  simp only at hr h0 hl1 ho ho2 hs
  obtain ⟨h0, h255⟩ := h0
  have SA := hid (show hasA o = false by simp [hasA, hs])
  have SB := hid (show hasB o = false by simp [hasB, hs])
  have SS := hid (show hasS o = true by simp [hasS, hs])
  simp only [SA.out, SB.out, SS.out, if_true, Bool.false_eq_true, if_false] at hr
  have hok : (decide (1 ≤ o) && decide (o ≤ 23)) = true := by simp [ho, ho2]
  rw [hok] at hr
  have HREC := hid hr
  clear hr hs hok
  go_enter Tryd.func44, Tryd.ntmps44
  go_wp2_with fail
  refine (oner_any rb p l c e _ (HR.out.on ((G.refl w).alloc _)) hl).mono ?_
  rintro x w1 ⟨rfl, p1, c1, hr1, hs1, ht1⟩
  rw [hr0.out] at hr1 ⊢
  have hsz : w.heap.size + 1 ≤ w1.heap.size := by have := ht1.size; simpa using this
  have hrv := (At.alloc w 0 0 0 E).turn ht1 (by omega)
  have htn : Turn (fun k => k = rb) w w1 := (Turn.of ((G.refl w).alloc _)).trans ht1
  have HR1 := hid hr1
  have HRV := hid hrv
  have HTN := hid htn
  have HS1 := hid hs1
  clear hr1 hs1 ht1 hrv htn
  go_wp2_with fail
  have HS : Hid (St w (w1.alloc (.cells #[.int .i64 o, .int .i64 0, .int .i64 0, .string ⟨#[]⟩] 23)) rb p c w1.heap.size l1 e1 o 0 0 E) := hid ⟨⟨p1, c1, HR1.out.on ((G.refl w1).alloc _), HS1.out⟩, HTN.out.trans (Turn.of ((G.refl w1).alloc _)), HRV.out.mono ((G.refl w1).alloc _), At.alloc w1 o 0 0 E, by omega, hrb, HO.out⟩
  obtain ⟨q1, d1, hrd, hsub⟩ := HS.out.rd
  refine (corrupt_any rb q1 l1 d1 e1 true _ hrd).mono ?_
  rintro x w2 ⟨rfl, hr2, ht2⟩
  replace HS := hid (HS.out.call hsub hr2 (Sub.refl _ _) ht2)
  clear hrd hsub hr2 ht2 HR1 HRV HTN HS1 hsz
  obtain ⟨e2, he2⟩ : ∃ e2, Hid (askR true 3 e1 = e2) := ⟨_, rfl⟩
  rw [he2.out] at HS HREC
  obtain ⟨lx, px, qx, rx, tx, fx⟩ := HS.out.bx
  simp at qx rx tx
  go_wp2_with fail
  refine (hasA_to SA.out _).mono ?_
  rintro x w3 ⟨rfl, g⟩
  clear lx px qx rx tx fx
  replace HS := hid (HS.out.g g)
  clear g
  obtain ⟨lx, px, qx, rx, tx, fx⟩ := HS.out.bx
  simp at qx rx tx
  go_wp2_with fail
  refine (hasB_to SB.out _).mono ?_
  rintro x wz ⟨rfl, rfl⟩
  go_wp2_with fail
  refine (hasS_to SS.out _).mono ?_
  rintro x wz ⟨rfl, rfl⟩
  obtain ⟨q4, d4, hrd, hsub⟩ := HS.out.rd
  go_wp2_with fail
  refine (oner_any rb q4 l1 d4 e2 _ hrd (by omega)).mono ?_
  rintro x w4 ⟨rfl, p4, c4, hr2, hs2, ht2⟩
  clear lx px qx rx tx fx
  replace HS := hid (HS.out.call hsub hr2 hs2 ht2)
  clear hrd hsub hr2 hs2 ht2
  have hn4 := one_bd l1 e2
  have hm4 := one_len l1 e2
  obtain ⟨rr, hrr⟩ : ∃ rr, Hid (oneR l1 e2 = rr) := ⟨_, rfl⟩
  rw [hrr.out] at HS hn4 hm4 ⊢
  have HREC2 := HREC.out
  simp only [hrr.out] at HREC2
  obtain ⟨n4, l4, e4⟩ := rr
  simp only at hn4 hm4 HREC2
  obtain ⟨hn40, hn41⟩ := hn4
  obtain ⟨n, rfl⟩ : ∃ n : Nat, n4 = (n : Int) := ⟨n4.toNat, by omega⟩
  rw [show ((n : Int)).toNat = n from rfl] at HREC2
  replace HS : Hid (St w w4 rb p c w1.heap.size l4 e4 o 0 0 E) := hid HS.out
  obtain ⟨ok4, hok4⟩ : ∃ ok4, Hid (decide ((n : Int) ≤ 40) = ok4) := ⟨_, rfl⟩
  rw [hok4.out] at HREC2
  have hd4 := hok4.out
  replace HREC := hid HREC2
  clear HREC2 hrr
  obtain ⟨q5, d5, hrd, hsub⟩ := HS.out.rd
  go_wp2_with fail
  refine (corrupt_any rb q5 l4 d5 e4 ok4 _ hrd).mono ?_
  rintro x w5 ⟨rfl, hr2, ht2⟩
  replace HS := hid (HS.out.call hsub hr2 (Sub.refl _ _) ht2)
  clear hrd hsub hr2 ht2 hd4
  obtain ⟨e5, he5⟩ : ∃ e5, Hid (askR ok4 3 e4 = e5) := ⟨_, rfl⟩
  rw [he5.out] at HS HREC
  obtain ⟨q6, d6, hrd, hsub⟩ := HS.out.rd
  go_wp2_with fail
  by_cases h6 : askR (decide (n ≤ l4.length)) 2 e5 = 0
  · have H6 := hid h6
    have hR := HREC.out
    rw [show textR n l4 e5 = (⟨(l4.take n).toArray⟩, l4.drop n, 0) by unfold textR; rw [if_pos h6]] at hR
    replace HREC := hid hR
    refine (somer_yes rb q6 l4 d6 e5 n _ hrd h6 (by omega)).mono ?_
    rintro x w6 ⟨p6, c6, p7, c7, rfl, hby, hr2, hs2, hs3, ht2⟩
    replace HS := hid (HS.out.call hsub hr2 hs3 ht2)
    have hnl := (some_ok h6).1
    have hcv := conv_text hby
    rw [show (l4.take n).length = n by rw [List.length_take]; omega] at hcv
    clear hrd hsub hr2 hs2 hs3 ht2 hby h6 hR
    obtain ⟨lx, px, qx, rx, tx, fx⟩ := HS.out.bx
    simp at qx rx tx
    obtain ⟨tt, htt⟩ : ∃ tt : ByteArray, Hid ((⟨(l4.take n).toArray⟩ : ByteArray) = tt) := ⟨_, rfl⟩
    rw [htt.out] at HREC hcv
    obtain ⟨ld, hld⟩ : ∃ ld, Hid (l4.drop n = ld) := ⟨_, rfl⟩
    rw [hld.out] at HREC HS
    have PA := hid (HS.out.put (HS.out.bx.set3 tt))
    go_wp2_with fail
    clear lx px qx rx tx fx hcv
    replace HS : Hid (St w (w6.setCell ⟨w1.heap.size, 3, none⟩ (.string tt)) rb p c w1.heap.size ld 0 o 0 0 tt) := PA
    clear PA
    obtain ⟨lx, px, qx, rx, tx, fx⟩ := HS.out.bx
    simp at qx rx tx
    obtain ⟨mb, hmb⟩ : ∃ mb, Hid (mayI (o, 0, 0, tt) = mb) := ⟨_, rfl⟩
    refine (may_to (x := (o, 0, 0, tt)) hmb.out _).mono ?_
    rintro x wm ⟨rfl, g⟩
    clear lx px qx rx tx fx
    replace HS := hid (HS.out.g g)
    clear g
    obtain ⟨q8, d8, hrd, hsub⟩ := HS.out.rd
    go_wp2_with fail
    refine (corrupt_any rb q8 ld d8 0 mb _ hrd).mono ?_
    rintro x w8 ⟨rfl, hr2, ht2⟩
    replace HS := hid (HS.out.call hsub hr2 (Sub.refl _ _) ht2)
    clear hrd hsub hr2 ht2
    obtain ⟨lx, px, qx, rx, tx, fx⟩ := HS.out.bx
    simp at qx rx tx
    obtain ⟨lv, pv, qv, rv, tv, fv⟩ := HS.out.rv
    simp at qv rv tv
    go_wp2_with fail
    obtain ⟨hat, p9, c9, hr9, hs9, ht9⟩ := HS.out.last
    refine results_box Tryd.results44 rfl hat ?_
    have hR := HREC.out
    have hM : mayR o 0 0 tt = mb := hmb.out
    rw [hM] at hR
    subst hR
    exact ⟨rfl, p9, c9, hr9, hs9, ht9⟩
  · obtain ⟨e6, he6⟩ : ∃ e6, Hid (askR (decide (n ≤ l4.length)) 2 e5 = e6) := ⟨_, rfl⟩
    have hR := HREC.out
    rw [show textR n l4 e5 = (E, l4, e6) by unfold textR; rw [if_neg h6, he6.out]] at hR
    replace HREC := hid hR
    refine (somer_no rb q6 l4 d6 e5 n _ hrd he6.out (by rw [← he6.out]; exact h6) (by omega)).mono ?_
    rintro x w6 ⟨rfl, hr2, ht2⟩
    replace HS := hid (HS.out.call hsub hr2 (Sub.refl _ _) ht2)
    have hcv := conv_text (w := w6) (p := none) (l := []) (c := 0) ⟨Nat.le_refl _, .inl rfl⟩
    rw [List.length_nil] at hcv
    clear hrd hsub hr2 ht2 h6 hR
    obtain ⟨lx, px, qx, rx, tx, fx⟩ := HS.out.bx
    simp at qx rx tx
    have PA := hid (HS.out.put (HS.out.bx.set3 E))
    go_wp2_with fail
    clear lx px qx rx tx fx hcv
    replace HS : Hid (St w (w6.setCell ⟨w1.heap.size, 3, none⟩ (.string E)) rb p c w1.heap.size l4 e6 o 0 0 E) := PA
    clear PA
    obtain ⟨lx, px, qx, rx, tx, fx⟩ := HS.out.bx
    simp at qx rx tx
    obtain ⟨mb, hmb⟩ : ∃ mb, Hid (mayI (o, 0, 0, E) = mb) := ⟨_, rfl⟩
    refine (may_to (x := (o, 0, 0, E)) hmb.out _).mono ?_
    rintro x wm ⟨rfl, g⟩
    clear lx px qx rx tx fx
    replace HS := hid (HS.out.g g)
    clear g
    obtain ⟨q8, d8, hrd, hsub⟩ := HS.out.rd
    go_wp2_with fail
    refine (corrupt_any rb q8 l4 d8 e6 mb _ hrd).mono ?_
    rintro x w8 ⟨rfl, hr2, ht2⟩
    replace HS := hid (HS.out.call hsub hr2 (Sub.refl _ _) ht2)
    clear hrd hsub hr2 ht2
    obtain ⟨lx, px, qx, rx, tx, fx⟩ := HS.out.bx
    simp at qx rx tx
    obtain ⟨lv, pv, qv, rv, tv, fv⟩ := HS.out.rv
    simp at qv rv tv
    go_wp2_with fail
    obtain ⟨hat, p9, c9, hr9, hs9, ht9⟩ := HS.out.last
    refine results_box Tryd.results44 rfl hat ?_
    have hR := HREC.out
    have hM : mayR o 0 0 E = mb := hmb.out
    rw [hM] at hR
    subst hR
    exact ⟨rfl, p9, c9, hr9, hs9, ht9⟩
theorem insr_any (rb : Nat) (p : Option Addr) (l : List UInt8) (c : Nat) (e : Int) (w : World) (h : Rd w rb p l c e) (hl : l.length ≤ 1000000) : Calls Tryd.prog 44 #[.pointer (some ⟨rb, 0, none⟩)] w (InsPost rb p c (insT l e) w) := by
  have hno : ∀ o : Int, o < 1 ∨ 23 < o → shapeR o = 0 := by
    intro o ho
    unfold shapeR
    rw [if_neg (by omega), if_neg (by omega), if_neg (by omega)]
  rcases (show (oneR l e).1 < 1 ∨ 23 < (oneR l e).1 ∨ (1 ≤ (oneR l e).1 ∧ (oneR l e).1 ≤ 23) by omega) with ho | ho | ⟨ho, ho2⟩
  · exact insr_lo rb p l c e w h hl ho (hno _ (.inl ho))
  · exact insr_hi rb p l c e w h hl ho (hno _ (.inr ho))
  · rcases shapes4 (oneR l e).1 with hs | hs | hs | hs
    · exact insr_in0 rb p l c e w h hl ho ho2 hs
    · exact insr_in1 rb p l c e w h hl ho ho2 hs
    · exact insr_in3 rb p l c e w h hl ho ho2 hs
    · exact insr_in4 rb p l c e w h hl ho ho2 hs
end Go.Proofs.YtpeioflembhedaaDoor
