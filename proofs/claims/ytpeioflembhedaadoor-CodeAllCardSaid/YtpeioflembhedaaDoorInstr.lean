/-
  The reader's instr: an instruction, taken; what is left, and the first error. No conditions but on sizes.
-/
import Derived.Test.YtpeioflembhedaaDoorInstrD
namespace Go.Proofs.YtpeioflembhedaaDoor
open Go.RowKit

/-- What stands while an instruction is taken: the reader, the two variables of the call's own. -/
structure St (w wc : World) (rb : Nat) (p : Option Addr) (c : Nat) (xb : Nat) (l : List UInt8) (e : Int) (o a b : Int) (s : ByteArray) : Prop where
  rd : ∃ p' c', Rd wc rb p' l c' e ∧ Sub p' c' p c
  tn : Turn (fun k => k = rb) w wc
  rv : At wc w.heap.size 0 0 0 0 E
  bx : At wc xb 0 o a b s
  hx : w.heap.size < xb
  hr : rb < w.heap.size
  off : ∀ X : Nat → Prop, (∀ k, X k → w.heap.size ≤ k) → Off X p c
theorem St.call {w wc w' : World} {rb : Nat} {p : Option Addr} {c xb : Nat} {l : List UInt8} {e : Int} {o a b : Int} {s : ByteArray} (h : St w wc rb p c xb l e o a b s) {p1 p2 : Option Addr} {c1 c2 : Nat} {l' : List UInt8} {e' : Int} (h1 : Sub p1 c1 p c) (hr : Rd w' rb p2 l' c2 e') (hs : Sub p2 c2 p1 c1) (ht : Turn (fun k => k = rb) wc w') : St w w' rb p c xb l' e' o a b s :=
  have hr0 := h.hr
  have hx0 := h.hx
  ⟨⟨p2, c2, hr, hs.trans h1⟩, h.tn.trans ht, h.rv.turn ht (by omega), h.bx.turn ht (by omega), h.hx, h.hr, h.off⟩
theorem St.g {w wc w' : World} {rb : Nat} {p : Option Addr} {c xb : Nat} {l : List UInt8} {e : Int} {o a b : Int} {s : ByteArray} (h : St w wc rb p c xb l e o a b s) (g : G wc w') : St w w' rb p c xb l e o a b s :=
  have ⟨p1, c1, hr, hs⟩ := h.rd
  ⟨⟨p1, c1, hr.on g, hs⟩, h.tn.trans (Turn.of g), h.rv.mono g, h.bx.mono g, h.hx, h.hr, h.off⟩
theorem St.put {w wc : World} {rb : Nat} {p : Option Addr} {c xb : Nat} {l : List UInt8} {e : Int} {o a b : Int} {s : ByteArray} (h : St w wc rb p c xb l e o a b s) {f : Nat} {v : Value} {o' a' b' : Int} {s' : ByteArray} (ha : At (wc.setCell ⟨xb, f, none⟩ v) xb 0 o' a' b' s') : St w (wc.setCell ⟨xb, f, none⟩ v) rb p c xb l e o' a' b' s' := by
  obtain ⟨p1, c1, hr, hs⟩ := h.rd
  have hr0 := h.hr
  have hx0 := h.hx
  have ht : Turn (fun k => k = xb) wc (wc.setCell ⟨xb, f, none⟩ v) := Turn.set (X := fun k => k = xb) _ rfl _
  exact ⟨⟨p1, c1, hr.turn ht (by omega) (hs.off (h.off _ (fun k hk => by omega))), hs⟩, h.tn.own (by omega) _, h.rv.turn ht (by omega), ha, h.hx, h.hr, h.off⟩
def InsPost (rb : Nat) (p : Option Addr) (c : Nat) (r : I × List UInt8 × Int) (w : World) (x : Ending) (w' : World) : Prop :=
  x = .returned (.agg #[.int .i64 r.1.1, .int .i64 r.1.2.1, .int .i64 r.1.2.2.1, .string r.1.2.2.2]) ∧ ∃ p' c', Rd w' rb p' r.2.1 c' r.2.2 ∧ Sub p' c' p c ∧ Turn (fun k => k = rb) w w'
/-- The result laid into its variable. -/
theorem St.last {w wc : World} {rb : Nat} {p : Option Addr} {c xb : Nat} {l : List UInt8} {e : Int} {o a b : Int} {s : ByteArray} (h : St w wc rb p c xb l e o a b s) :
    At ((((wc.setCell ⟨w.heap.size, 0, none⟩ (.int .i64 o)).setCell ⟨w.heap.size, 1, none⟩ (.int .i64 a)).setCell ⟨w.heap.size, 2, none⟩ (.int .i64 b)).setCell ⟨w.heap.size, 3, none⟩ (.string s)) w.heap.size 0 o a b s ∧
      (∃ p' c', Rd ((((wc.setCell ⟨w.heap.size, 0, none⟩ (.int .i64 o)).setCell ⟨w.heap.size, 1, none⟩ (.int .i64 a)).setCell ⟨w.heap.size, 2, none⟩ (.int .i64 b)).setCell ⟨w.heap.size, 3, none⟩ (.string s)) rb p' l c' e ∧ Sub p' c' p c ∧
        Turn (fun k => k = rb) w ((((wc.setCell ⟨w.heap.size, 0, none⟩ (.int .i64 o)).setCell ⟨w.heap.size, 1, none⟩ (.int .i64 a)).setCell ⟨w.heap.size, 2, none⟩ (.int .i64 b)).setCell ⟨w.heap.size, 3, none⟩ (.string s))) := by
  obtain ⟨p1, c1, hr, hs⟩ := h.rd
  have hr0 := h.hr
  have ht : Turn (fun k => k = w.heap.size) wc ((((wc.setCell ⟨w.heap.size, 0, none⟩ (.int .i64 o)).setCell ⟨w.heap.size, 1, none⟩ (.int .i64 a)).setCell ⟨w.heap.size, 2, none⟩ (.int .i64 b)).setCell ⟨w.heap.size, 3, none⟩ (.string s)) :=
    (((Turn.set (X := fun k => k = w.heap.size) _ rfl _).trans (Turn.set (X := fun k => k = w.heap.size) _ rfl _)).trans (Turn.set (X := fun k => k = w.heap.size) _ rfl _)).trans (Turn.set (X := fun k => k = w.heap.size) _ rfl _)
  refine ⟨(((h.rv.set0 o).set1 a).set2 b).set3 s, p1, c1, hr.turn ht (by omega) (hs.off (h.off _ (fun k hk => by omega))), hs, h.tn.late ht (fun b hb => .inr (by omega))⟩
set_option maxRecDepth 100000 in
set_option maxHeartbeats 2000000 in
theorem instr_lo (rb : Nat) (p : Option Addr) (l : List UInt8) (c : Nat) (e : Int) (w : World) (h : Rd w rb p l c e) (hl : l.length ≤ 1000000) (ho : (oneR l e).1 < 1) (hs : shapeR (oneR l e).1 = 0) : Calls Tryd.prog 40 #[.pointer (some ⟨rb, 0, none⟩)] w (InsPost rb p c (insT l e) w) := by
  obtain ⟨r, hr⟩ : ∃ r, Hid (insT l e = r) := ⟨_, rfl⟩
  have h0 := one_bd l e
  have hl1 := one_len l e
  have HO := hid (fun (X : Nat → Prop) (hX : ∀ k, X k → w.heap.size ≤ k) => h.bs.off hX)
  have HR := hid h
  have hrb := h.lt
  clear h
  rw [hr.out]
  have hr := hr.out
  unfold insT at hr
  obtain ⟨r0, hr0⟩ : ∃ r0, Hid (oneR l e = r0) := ⟨_, rfl⟩
  simp only [hr0.out] at hr h0 hl1 ho hs
  obtain ⟨o, l1, e1⟩ := r0
  simp only at hr h0 hl1 ho hs
  obtain ⟨h0, h255⟩ := h0
  have hsh := hid hs
  have b1 := bits01
  have b2 := bits02
  have b4 := bits04
  have hA : hasA o = false := by simp [hasA, hs]
  have hB : hasB o = false := by simp [hasB, hs]
  have hS : hasS o = false := by simp [hasS, hs]
  simp only [hA, hB, hS, if_true, Bool.false_eq_true, if_false] at hr
  clear hA hB hS
  have hok : (decide (1 ≤ o) && decide (o ≤ 23)) = false := by simp; omega
  rw [hok] at hr
  have HREC := hid hr
  clear hr hs hok
  go_enter Tryd.func40, Tryd.ntmps40
  go_wp2_with fail
  refine (one_any rb p l c e _ (HR.out.on ((G.refl w).alloc _)) hl).mono ?_
  rintro x w1 ⟨rfl, p1, c1, hr1, hs1, ht1⟩
  rw [hr0.out] at hr1 ⊢
  have hsz : w.heap.size + 1 ≤ w1.heap.size := by have := ht1.size; simpa using this
  have hrv := (At.alloc w 0 0 0 E).turn ht1 (by omega)
  have htn : Turn (fun k => k = rb) w w1 := (Turn.of ((G.refl w).alloc _)).trans ht1
  have HR1 := hid hr1
  have HRV := hid hrv
  have HTN := hid htn
  have HS1 := hid hs1
  clear hr1 hs1 ht1 hrv htn
  go_wp2_with fail
  have HS : Hid (St w (w1.alloc (.cells #[.int .i64 o, .int .i64 0, .int .i64 0, .string ⟨#[]⟩] 23)) rb p c w1.heap.size l1 e1 o 0 0 E) := hid ⟨⟨p1, c1, HR1.out.on ((G.refl w1).alloc _), HS1.out⟩, HTN.out.trans (Turn.of ((G.refl w1).alloc _)), HRV.out.mono ((G.refl w1).alloc _), At.alloc w1 o 0 0 E, by omega, hrb, HO.out⟩
  obtain ⟨q1, d1, hrd, hsub⟩ := HS.out.rd
  refine (ask_any rb q1 l1 d1 e1 3 false _ hrd).mono ?_
  rintro x w2 ⟨rfl, hr2, ht2⟩
  replace HS := hid (HS.out.call hsub hr2 (Sub.refl _ _) ht2)
  clear hrd hsub hr2 ht2 HR1 HRV HTN HS1 hsz
  obtain ⟨e2, he2⟩ : ∃ e2, Hid (askR false 3 e1 = e2) := ⟨_, rfl⟩
  rw [he2.out] at HS HREC ⊢
  obtain ⟨lx, px, qx, rx, tx, fx⟩ := HS.out.bx
  simp at qx rx tx
  go_wp2_with fail
  refine (shape_to hsh.out (by omega) (by omega) _).mono ?_
  rintro x w3 ⟨rfl, g⟩
  clear lx px qx rx tx fx
  replace HS := hid (HS.out.g g)
  clear g
  obtain ⟨lx, px, qx, rx, tx, fx⟩ := HS.out.bx
  simp at qx rx tx
  go_wp2_with fail
  obtain ⟨mb, hmb⟩ : ∃ mb, Hid (mayR o 0 0 E = mb) := ⟨_, rfl⟩
  refine (may_raw o 0 0 E _ (by omega) (by omega)).mono ?_
  rintro x wm ⟨rfl, g⟩
  rw [hmb.out]
  clear lx px qx rx tx fx
  replace HS := hid (HS.out.g g)
  clear g
  obtain ⟨q8, d8, hrd, hsub⟩ := HS.out.rd
  go_wp2_with fail
  refine (ask_any rb q8 l1 d8 e2 3 mb _ hrd).mono ?_
  rintro x w8 ⟨rfl, hr2, ht2⟩
  replace HS := hid (HS.out.call hsub hr2 (Sub.refl _ _) ht2)
  clear hrd hsub hr2 ht2
  obtain ⟨lx, px, qx, rx, tx, fx⟩ := HS.out.bx
  simp at qx rx tx
  obtain ⟨lv, pv, qv, rv, tv, fv⟩ := HS.out.rv
  simp at qv rv tv
  go_wp2_with fail
  obtain ⟨hat, p9, c9, hr9, hs9, ht9⟩ := HS.out.last
  refine results_box Tryd.results40 rfl hat ?_
  have hR := HREC.out
  rw [hmb.out] at hR
  subst hR
  exact ⟨rfl, p9, c9, hr9, hs9, ht9⟩
set_option maxRecDepth 100000 in
set_option maxHeartbeats 2000000 in
theorem instr_hi (rb : Nat) (p : Option Addr) (l : List UInt8) (c : Nat) (e : Int) (w : World) (h : Rd w rb p l c e) (hl : l.length ≤ 1000000) (ho : 23 < (oneR l e).1) (hs : shapeR (oneR l e).1 = 0) : Calls Tryd.prog 40 #[.pointer (some ⟨rb, 0, none⟩)] w (InsPost rb p c (insT l e) w) := by
  obtain ⟨r, hr⟩ : ∃ r, Hid (insT l e = r) := ⟨_, rfl⟩
  have h0 := one_bd l e
  have hl1 := one_len l e
  have HO := hid (fun (X : Nat → Prop) (hX : ∀ k, X k → w.heap.size ≤ k) => h.bs.off hX)
  have HR := hid h
  have hrb := h.lt
  clear h
  rw [hr.out]
  have hr := hr.out
  unfold insT at hr
  obtain ⟨r0, hr0⟩ : ∃ r0, Hid (oneR l e = r0) := ⟨_, rfl⟩
  simp only [hr0.out] at hr h0 hl1 ho hs
  obtain ⟨o, l1, e1⟩ := r0
  simp only at hr h0 hl1 ho hs
  obtain ⟨h0, h255⟩ := h0
  have hsh := hid hs
  have b1 := bits01
  have b2 := bits02
  have b4 := bits04
  have hA : hasA o = false := by simp [hasA, hs]
  have hB : hasB o = false := by simp [hasB, hs]
  have hS : hasS o = false := by simp [hasS, hs]
  simp only [hA, hB, hS, if_true, Bool.false_eq_true, if_false] at hr
  clear hA hB hS
  have hok : (decide (1 ≤ o) && decide (o ≤ 23)) = false := by simp; omega
  rw [hok] at hr
  have HREC := hid hr
  clear hr hs hok
  have hd23 : decide (o ≤ 23) = false := by simp; omega
  go_enter Tryd.func40, Tryd.ntmps40
  go_wp2_with fail
  refine (one_any rb p l c e _ (HR.out.on ((G.refl w).alloc _)) hl).mono ?_
  rintro x w1 ⟨rfl, p1, c1, hr1, hs1, ht1⟩
  rw [hr0.out] at hr1 ⊢
  have hsz : w.heap.size + 1 ≤ w1.heap.size := by have := ht1.size; simpa using this
  have hrv := (At.alloc w 0 0 0 E).turn ht1 (by omega)
  have htn : Turn (fun k => k = rb) w w1 := (Turn.of ((G.refl w).alloc _)).trans ht1
  have HR1 := hid hr1
  have HRV := hid hrv
  have HTN := hid htn
  have HS1 := hid hs1
  clear hr1 hs1 ht1 hrv htn
  go_wp2_with fail
  have HS : Hid (St w (w1.alloc (.cells #[.int .i64 o, .int .i64 0, .int .i64 0, .string ⟨#[]⟩] 23)) rb p c w1.heap.size l1 e1 o 0 0 E) := hid ⟨⟨p1, c1, HR1.out.on ((G.refl w1).alloc _), HS1.out⟩, HTN.out.trans (Turn.of ((G.refl w1).alloc _)), HRV.out.mono ((G.refl w1).alloc _), At.alloc w1 o 0 0 E, by omega, hrb, HO.out⟩
  obtain ⟨q1, d1, hrd, hsub⟩ := HS.out.rd
  refine (ask_any rb q1 l1 d1 e1 3 false _ hrd).mono ?_
  rintro x w2 ⟨rfl, hr2, ht2⟩
  replace HS := hid (HS.out.call hsub hr2 (Sub.refl _ _) ht2)
  clear hrd hsub hr2 ht2 HR1 HRV HTN HS1 hsz
  obtain ⟨e2, he2⟩ : ∃ e2, Hid (askR false 3 e1 = e2) := ⟨_, rfl⟩
  rw [he2.out] at HS HREC ⊢
  obtain ⟨lx, px, qx, rx, tx, fx⟩ := HS.out.bx
  simp at qx rx tx
  go_wp2_with fail
  refine (shape_to hsh.out (by omega) (by omega) _).mono ?_
  rintro x w3 ⟨rfl, g⟩
  clear lx px qx rx tx fx
  replace HS := hid (HS.out.g g)
  clear g
  obtain ⟨lx, px, qx, rx, tx, fx⟩ := HS.out.bx
  simp at qx rx tx
  go_wp2_with fail
  obtain ⟨mb, hmb⟩ : ∃ mb, Hid (mayR o 0 0 E = mb) := ⟨_, rfl⟩
  refine (may_raw o 0 0 E _ (by omega) (by omega)).mono ?_
  rintro x wm ⟨rfl, g⟩
  rw [hmb.out]
  clear lx px qx rx tx fx
  replace HS := hid (HS.out.g g)
  clear g
  obtain ⟨q8, d8, hrd, hsub⟩ := HS.out.rd
  go_wp2_with fail
  refine (ask_any rb q8 l1 d8 e2 3 mb _ hrd).mono ?_
  rintro x w8 ⟨rfl, hr2, ht2⟩
  replace HS := hid (HS.out.call hsub hr2 (Sub.refl _ _) ht2)
  clear hrd hsub hr2 ht2
  obtain ⟨lx, px, qx, rx, tx, fx⟩ := HS.out.bx
  simp at qx rx tx
  obtain ⟨lv, pv, qv, rv, tv, fv⟩ := HS.out.rv
  simp at qv rv tv
  go_wp2_with fail
  obtain ⟨hat, p9, c9, hr9, hs9, ht9⟩ := HS.out.last
  refine results_box Tryd.results40 rfl hat ?_
  have hR := HREC.out
  rw [hmb.out] at hR
  subst hR
  exact ⟨rfl, p9, c9, hr9, hs9, ht9⟩
set_option maxRecDepth 100000 in
set_option maxHeartbeats 2000000 in
theorem instr_in0 (rb : Nat) (p : Option Addr) (l : List UInt8) (c : Nat) (e : Int) (w : World) (h : Rd w rb p l c e) (hl : l.length ≤ 1000000) (ho : 1 ≤ (oneR l e).1) (ho2 : (oneR l e).1 ≤ 23) (hs : shapeR (oneR l e).1 = 0) : Calls Tryd.prog 40 #[.pointer (some ⟨rb, 0, none⟩)] w (InsPost rb p c (insT l e) w) := by
  obtain ⟨r, hr⟩ : ∃ r, Hid (insT l e = r) := ⟨_, rfl⟩
  have h0 := one_bd l e
  have hl1 := one_len l e
  have HO := hid (fun (X : Nat → Prop) (hX : ∀ k, X k → w.heap.size ≤ k) => h.bs.off hX)
  have HR := hid h
  have hrb := h.lt
  clear h
  rw [hr.out]
  have hr := hr.out
  unfold insT at hr
  obtain ⟨r0, hr0⟩ : ∃ r0, Hid (oneR l e = r0) := ⟨_, rfl⟩
  simp only [hr0.out] at hr h0 hl1 ho ho2 hs
  obtain ⟨o, l1, e1⟩ := r0
  simp only at hr h0 hl1 ho ho2 hs
  obtain ⟨h0, h255⟩ := h0
  have hsh := hid hs
  have b1 := bits01
  have b2 := bits02
  have b4 := bits04
  have hA : hasA o = false := by simp [hasA, hs]
  have hB : hasB o = false := by simp [hasB, hs]
  have hS : hasS o = false := by simp [hasS, hs]
  simp only [hA, hB, hS, if_true, Bool.false_eq_true, if_false] at hr
  clear hA hB hS
  have hok : (decide (1 ≤ o) && decide (o ≤ 23)) = true := by simp [ho, ho2]
  rw [hok] at hr
  have HREC := hid hr
  clear hr hs hok
  go_enter Tryd.func40, Tryd.ntmps40
  go_wp2_with fail
  refine (one_any rb p l c e _ (HR.out.on ((G.refl w).alloc _)) hl).mono ?_
  rintro x w1 ⟨rfl, p1, c1, hr1, hs1, ht1⟩
  rw [hr0.out] at hr1 ⊢
  have hsz : w.heap.size + 1 ≤ w1.heap.size := by have := ht1.size; simpa using this
  have hrv := (At.alloc w 0 0 0 E).turn ht1 (by omega)
  have htn : Turn (fun k => k = rb) w w1 := (Turn.of ((G.refl w).alloc _)).trans ht1
  have HR1 := hid hr1
  have HRV := hid hrv
  have HTN := hid htn
  have HS1 := hid hs1
  clear hr1 hs1 ht1 hrv htn
  go_wp2_with fail
  have HS : Hid (St w (w1.alloc (.cells #[.int .i64 o, .int .i64 0, .int .i64 0, .string ⟨#[]⟩] 23)) rb p c w1.heap.size l1 e1 o 0 0 E) := hid ⟨⟨p1, c1, HR1.out.on ((G.refl w1).alloc _), HS1.out⟩, HTN.out.trans (Turn.of ((G.refl w1).alloc _)), HRV.out.mono ((G.refl w1).alloc _), At.alloc w1 o 0 0 E, by omega, hrb, HO.out⟩
  obtain ⟨q1, d1, hrd, hsub⟩ := HS.out.rd
  refine (ask_any rb q1 l1 d1 e1 3 true _ hrd).mono ?_
  rintro x w2 ⟨rfl, hr2, ht2⟩
  replace HS := hid (HS.out.call hsub hr2 (Sub.refl _ _) ht2)
  clear hrd hsub hr2 ht2 HR1 HRV HTN HS1 hsz
  obtain ⟨e2, he2⟩ : ∃ e2, Hid (askR true 3 e1 = e2) := ⟨_, rfl⟩
  rw [he2.out] at HS HREC ⊢
  obtain ⟨lx, px, qx, rx, tx, fx⟩ := HS.out.bx
  simp at qx rx tx
  go_wp2_with fail
  refine (shape_to hsh.out (by omega) (by omega) _).mono ?_
  rintro x w3 ⟨rfl, g⟩
  clear lx px qx rx tx fx
  replace HS := hid (HS.out.g g)
  clear g
  obtain ⟨lx, px, qx, rx, tx, fx⟩ := HS.out.bx
  simp at qx rx tx
  go_wp2_with fail
  obtain ⟨mb, hmb⟩ : ∃ mb, Hid (mayR o 0 0 E = mb) := ⟨_, rfl⟩
  refine (may_raw o 0 0 E _ (by omega) (by omega)).mono ?_
  rintro x wm ⟨rfl, g⟩
  rw [hmb.out]
  clear lx px qx rx tx fx
  replace HS := hid (HS.out.g g)
  clear g
  obtain ⟨q8, d8, hrd, hsub⟩ := HS.out.rd
  go_wp2_with fail
  refine (ask_any rb q8 l1 d8 e2 3 mb _ hrd).mono ?_
  rintro x w8 ⟨rfl, hr2, ht2⟩
  replace HS := hid (HS.out.call hsub hr2 (Sub.refl _ _) ht2)
  clear hrd hsub hr2 ht2
  obtain ⟨lx, px, qx, rx, tx, fx⟩ := HS.out.bx
  simp at qx rx tx
  obtain ⟨lv, pv, qv, rv, tv, fv⟩ := HS.out.rv
  simp at qv rv tv
  go_wp2_with fail
  obtain ⟨hat, p9, c9, hr9, hs9, ht9⟩ := HS.out.last
  refine results_box Tryd.results40 rfl hat ?_
  have hR := HREC.out
  rw [hmb.out] at hR
  subst hR
  exact ⟨rfl, p9, c9, hr9, hs9, ht9⟩
set_option maxRecDepth 100000 in
set_option maxHeartbeats 2000000 in
theorem instr_in1 (rb : Nat) (p : Option Addr) (l : List UInt8) (c : Nat) (e : Int) (w : World) (h : Rd w rb p l c e) (hl : l.length ≤ 1000000) (ho : 1 ≤ (oneR l e).1) (ho2 : (oneR l e).1 ≤ 23) (hs : shapeR (oneR l e).1 = 1) : Calls Tryd.prog 40 #[.pointer (some ⟨rb, 0, none⟩)] w (InsPost rb p c (insT l e) w) := by
  obtain ⟨r, hr⟩ : ∃ r, Hid (insT l e = r) := ⟨_, rfl⟩
  have h0 := one_bd l e
  have hl1 := one_len l e
  have HO := hid (fun (X : Nat → Prop) (hX : ∀ k, X k → w.heap.size ≤ k) => h.bs.off hX)
  have HR := hid h
  have hrb := h.lt
  clear h
  rw [hr.out]
  have hr := hr.out
  unfold insT at hr
  obtain ⟨r0, hr0⟩ : ∃ r0, Hid (oneR l e = r0) := ⟨_, rfl⟩
  simp only [hr0.out] at hr h0 hl1 ho ho2 hs
  obtain ⟨o, l1, e1⟩ := r0
  simp only at hr h0 hl1 ho ho2 hs
  obtain ⟨h0, h255⟩ := h0
  have hsh := hid hs
  have b1 := bits11
  have b2 := bits12
  have b4 := bits14
  have hA : hasA o = true := by simp [hasA, hs]
  have hB : hasB o = false := by simp [hasB, hs]
  have hS : hasS o = false := by simp [hasS, hs]
  simp only [hA, hB, hS, if_true, Bool.false_eq_true, if_false] at hr
  clear hA hB hS
  have hok : (decide (1 ≤ o) && decide (o ≤ 23)) = true := by simp [ho, ho2]
  rw [hok] at hr
  have HREC := hid hr
  clear hr hs hok
  go_enter Tryd.func40, Tryd.ntmps40
  go_wp2_with fail
  refine (one_any rb p l c e _ (HR.out.on ((G.refl w).alloc _)) hl).mono ?_
  rintro x w1 ⟨rfl, p1, c1, hr1, hs1, ht1⟩
  rw [hr0.out] at hr1 ⊢
  have hsz : w.heap.size + 1 ≤ w1.heap.size := by have := ht1.size; simpa using this
  have hrv := (At.alloc w 0 0 0 E).turn ht1 (by omega)
  have htn : Turn (fun k => k = rb) w w1 := (Turn.of ((G.refl w).alloc _)).trans ht1
  have HR1 := hid hr1
  have HRV := hid hrv
  have HTN := hid htn
  have HS1 := hid hs1
  clear hr1 hs1 ht1 hrv htn
  go_wp2_with fail
  have HS : Hid (St w (w1.alloc (.cells #[.int .i64 o, .int .i64 0, .int .i64 0, .string ⟨#[]⟩] 23)) rb p c w1.heap.size l1 e1 o 0 0 E) := hid ⟨⟨p1, c1, HR1.out.on ((G.refl w1).alloc _), HS1.out⟩, HTN.out.trans (Turn.of ((G.refl w1).alloc _)), HRV.out.mono ((G.refl w1).alloc _), At.alloc w1 o 0 0 E, by omega, hrb, HO.out⟩
  obtain ⟨q1, d1, hrd, hsub⟩ := HS.out.rd
  refine (ask_any rb q1 l1 d1 e1 3 true _ hrd).mono ?_
  rintro x w2 ⟨rfl, hr2, ht2⟩
  replace HS := hid (HS.out.call hsub hr2 (Sub.refl _ _) ht2)
  clear hrd hsub hr2 ht2 HR1 HRV HTN HS1 hsz
  obtain ⟨e2, he2⟩ : ∃ e2, Hid (askR true 3 e1 = e2) := ⟨_, rfl⟩
  rw [he2.out] at HS HREC ⊢
  obtain ⟨lx, px, qx, rx, tx, fx⟩ := HS.out.bx
  simp at qx rx tx
  go_wp2_with fail
  refine (shape_to hsh.out (by omega) (by omega) _).mono ?_
  rintro x w3 ⟨rfl, g⟩
  clear lx px qx rx tx fx
  replace HS := hid (HS.out.g g)
  clear g
  obtain ⟨lx, px, qx, rx, tx, fx⟩ := HS.out.bx
  simp at qx rx tx
  obtain ⟨q4, d4, hrd, hsub⟩ := HS.out.rd
  go_wp2_with fail
  refine (numb_any rb q4 l1 d4 e2 _ hrd (by omega)).mono ?_
  rintro x w4 ⟨rfl, p4, c4, hr2, hs2, ht2⟩
  clear lx px qx rx tx fx
  replace HS := hid (HS.out.call hsub hr2 hs2 ht2)
  clear hrd hsub hr2 hs2 ht2
  have hn4 := numb_bd l1 e2
  have hm4 := numb_len l1 e2
  obtain ⟨rr, hrr⟩ : ∃ rr, Hid (numbR l1 e2 = rr) := ⟨_, rfl⟩
  rw [hrr.out] at HS hn4 hm4 ⊢
  have HREC2 := HREC.out
  simp only [hrr.out] at HREC2
  obtain ⟨n4, l4, e4⟩ := rr
  simp only at hn4 hm4 HREC2
  replace HREC := hid HREC2
  clear HREC2 hrr
  replace HS : Hid (St w w4 rb p c w1.heap.size l4 e4 o 0 0 E) := hid HS.out
  obtain ⟨lx, px, qx, rx, tx, fx⟩ := HS.out.bx
  simp at qx rx tx
  go_wp2_with fail
  replace HS : Hid (St w (w4.setCell ⟨w1.heap.size, 1, none⟩ (.int .i64 n4)) rb p c w1.heap.size l4 e4 o n4 0 E) := hid (HS.out.put (HS.out.bx.set1 n4))
  obtain ⟨mb, hmb⟩ : ∃ mb, Hid (mayR o n4 0 E = mb) := ⟨_, rfl⟩
  refine (may_raw o n4 0 E _ (by omega) (by omega)).mono ?_
  rintro x wm ⟨rfl, g⟩
  rw [hmb.out]
  clear lx px qx rx tx fx
  replace HS := hid (HS.out.g g)
  clear g
  obtain ⟨q8, d8, hrd, hsub⟩ := HS.out.rd
  go_wp2_with fail
  refine (ask_any rb q8 l4 d8 e4 3 mb _ hrd).mono ?_
  rintro x w8 ⟨rfl, hr2, ht2⟩
  replace HS := hid (HS.out.call hsub hr2 (Sub.refl _ _) ht2)
  clear hrd hsub hr2 ht2
  obtain ⟨lx, px, qx, rx, tx, fx⟩ := HS.out.bx
  simp at qx rx tx
  obtain ⟨lv, pv, qv, rv, tv, fv⟩ := HS.out.rv
  simp at qv rv tv
  go_wp2_with fail
  obtain ⟨hat, p9, c9, hr9, hs9, ht9⟩ := HS.out.last
  refine results_box Tryd.results40 rfl hat ?_
  have hR := HREC.out
  rw [hmb.out] at hR
  subst hR
  exact ⟨rfl, p9, c9, hr9, hs9, ht9⟩
set_option maxRecDepth 100000 in
set_option maxHeartbeats 2000000 in
theorem instr_in3 (rb : Nat) (p : Option Addr) (l : List UInt8) (c : Nat) (e : Int) (w : World) (h : Rd w rb p l c e) (hl : l.length ≤ 1000000) (ho : 1 ≤ (oneR l e).1) (ho2 : (oneR l e).1 ≤ 23) (hs : shapeR (oneR l e).1 = 3) : Calls Tryd.prog 40 #[.pointer (some ⟨rb, 0, none⟩)] w (InsPost rb p c (insT l e) w) := by
  obtain ⟨r, hr⟩ : ∃ r, Hid (insT l e = r) := ⟨_, rfl⟩
  have h0 := one_bd l e
  have hl1 := one_len l e
  have HO := hid (fun (X : Nat → Prop) (hX : ∀ k, X k → w.heap.size ≤ k) => h.bs.off hX)
  have HR := hid h
  have hrb := h.lt
  clear h
  rw [hr.out]
  have hr := hr.out
  unfold insT at hr
  obtain ⟨r0, hr0⟩ : ∃ r0, Hid (oneR l e = r0) := ⟨_, rfl⟩
  simp only [hr0.out] at hr h0 hl1 ho ho2 hs
  obtain ⟨o, l1, e1⟩ := r0
  simp only at hr h0 hl1 ho ho2 hs
  obtain ⟨h0, h255⟩ := h0
  have hsh := hid hs
  have b1 := bits31
  have b2 := bits32
  have b4 := bits34
  have hA : hasA o = true := by simp [hasA, hs]
  have hB : hasB o = true := by simp [hasB, hs]
  have hS : hasS o = false := by simp [hasS, hs]
  simp only [hA, hB, hS, if_true, Bool.false_eq_true, if_false] at hr
  clear hA hB hS
  have hok : (decide (1 ≤ o) && decide (o ≤ 23)) = true := by simp [ho, ho2]
  rw [hok] at hr
  have HREC := hid hr
  clear hr hs hok
  go_enter Tryd.func40, Tryd.ntmps40
  go_wp2_with fail
  refine (one_any rb p l c e _ (HR.out.on ((G.refl w).alloc _)) hl).mono ?_
  rintro x w1 ⟨rfl, p1, c1, hr1, hs1, ht1⟩
  rw [hr0.out] at hr1 ⊢
  have hsz : w.heap.size + 1 ≤ w1.heap.size := by have := ht1.size; simpa using this
  have hrv := (At.alloc w 0 0 0 E).turn ht1 (by omega)
  have htn : Turn (fun k => k = rb) w w1 := (Turn.of ((G.refl w).alloc _)).trans ht1
  have HR1 := hid hr1
  have HRV := hid hrv
  have HTN := hid htn
  have HS1 := hid hs1
  clear hr1 hs1 ht1 hrv htn
  go_wp2_with fail
  have HS : Hid (St w (w1.alloc (.cells #[.int .i64 o, .int .i64 0, .int .i64 0, .string ⟨#[]⟩] 23)) rb p c w1.heap.size l1 e1 o 0 0 E) := hid ⟨⟨p1, c1, HR1.out.on ((G.refl w1).alloc _), HS1.out⟩, HTN.out.trans (Turn.of ((G.refl w1).alloc _)), HRV.out.mono ((G.refl w1).alloc _), At.alloc w1 o 0 0 E, by omega, hrb, HO.out⟩
  obtain ⟨q1, d1, hrd, hsub⟩ := HS.out.rd
  refine (ask_any rb q1 l1 d1 e1 3 true _ hrd).mono ?_
  rintro x w2 ⟨rfl, hr2, ht2⟩
  replace HS := hid (HS.out.call hsub hr2 (Sub.refl _ _) ht2)
  clear hrd hsub hr2 ht2 HR1 HRV HTN HS1 hsz
  obtain ⟨e2, he2⟩ : ∃ e2, Hid (askR true 3 e1 = e2) := ⟨_, rfl⟩
  rw [he2.out] at HS HREC ⊢
  obtain ⟨lx, px, qx, rx, tx, fx⟩ := HS.out.bx
  simp at qx rx tx
  go_wp2_with fail
  refine (shape_to hsh.out (by omega) (by omega) _).mono ?_
  rintro x w3 ⟨rfl, g⟩
  clear lx px qx rx tx fx
  replace HS := hid (HS.out.g g)
  clear g
  obtain ⟨lx, px, qx, rx, tx, fx⟩ := HS.out.bx
  simp at qx rx tx
  obtain ⟨q4, d4, hrd, hsub⟩ := HS.out.rd
  go_wp2_with fail
  refine (numb_any rb q4 l1 d4 e2 _ hrd (by omega)).mono ?_
  rintro x w4 ⟨rfl, p4, c4, hr2, hs2, ht2⟩
  clear lx px qx rx tx fx
  replace HS := hid (HS.out.call hsub hr2 hs2 ht2)
  clear hrd hsub hr2 hs2 ht2
  have hn4 := numb_bd l1 e2
  have hm4 := numb_len l1 e2
  obtain ⟨rr, hrr⟩ : ∃ rr, Hid (numbR l1 e2 = rr) := ⟨_, rfl⟩
  rw [hrr.out] at HS hn4 hm4 ⊢
  have HREC2 := HREC.out
  simp only [hrr.out] at HREC2
  obtain ⟨n4, l4, e4⟩ := rr
  simp only at hn4 hm4 HREC2
  replace HREC := hid HREC2
  clear HREC2 hrr
  replace HS : Hid (St w w4 rb p c w1.heap.size l4 e4 o 0 0 E) := hid HS.out
  obtain ⟨lx, px, qx, rx, tx, fx⟩ := HS.out.bx
  simp at qx rx tx
  have HS0 := HS
  replace HS : Hid (St w (w4.setCell ⟨w1.heap.size, 1, none⟩ (.int .i64 n4)) rb p c w1.heap.size l4 e4 o n4 0 E) := hid (HS.out.put (HS.out.bx.set1 n4))
  obtain ⟨q5, d5, hrd, hsub⟩ := HS.out.rd
  go_wp2_with fail
  refine (numb_any rb q5 l4 d5 e4 _ hrd (by omega)).mono ?_
  rintro x w5 ⟨rfl, p5, c5, hr2, hs2, ht2⟩
  clear lx px qx rx tx fx
  replace HS := hid (HS.out.call hsub hr2 hs2 ht2)
  clear hrd hsub hr2 hs2 ht2
  have hn5 := numb_bd l4 e4
  have hm5 := numb_len l4 e4
  obtain ⟨rr, hrr⟩ : ∃ rr, Hid (numbR l4 e4 = rr) := ⟨_, rfl⟩
  rw [hrr.out] at HS hn5 hm5 ⊢
  have HREC2 := HREC.out
  simp only [hrr.out] at HREC2
  obtain ⟨n5, l5, e5⟩ := rr
  simp only at hn5 hm5 HREC2
  replace HREC := hid HREC2
  clear HREC2 hrr
  replace HS : Hid (St w w5 rb p c w1.heap.size l5 e5 o n4 0 E) := hid HS.out
  obtain ⟨lx, px, qx, rx, tx, fx⟩ := HS.out.bx
  simp at qx rx tx
  go_wp2_with fail
  replace HS : Hid (St w (w5.setCell ⟨w1.heap.size, 2, none⟩ (.int .i64 n5)) rb p c w1.heap.size l5 e5 o n4 n5 E) := hid (HS.out.put (HS.out.bx.set2 n5))
  obtain ⟨mb, hmb⟩ : ∃ mb, Hid (mayR o n4 n5 E = mb) := ⟨_, rfl⟩
  refine (may_raw o n4 n5 E _ (by omega) (by omega)).mono ?_
  rintro x wm ⟨rfl, g⟩
  rw [hmb.out]
  clear lx px qx rx tx fx
  replace HS := hid (HS.out.g g)
  clear g
  obtain ⟨q8, d8, hrd, hsub⟩ := HS.out.rd
  go_wp2_with fail
  refine (ask_any rb q8 l5 d8 e5 3 mb _ hrd).mono ?_
  rintro x w8 ⟨rfl, hr2, ht2⟩
  replace HS := hid (HS.out.call hsub hr2 (Sub.refl _ _) ht2)
  clear hrd hsub hr2 ht2
  obtain ⟨lx, px, qx, rx, tx, fx⟩ := HS.out.bx
  simp at qx rx tx
  obtain ⟨lv, pv, qv, rv, tv, fv⟩ := HS.out.rv
  simp at qv rv tv
  go_wp2_with fail
  obtain ⟨hat, p9, c9, hr9, hs9, ht9⟩ := HS.out.last
  refine results_box Tryd.results40 rfl hat ?_
  have hR := HREC.out
  rw [hmb.out] at hR
  subst hR
  exact ⟨rfl, p9, c9, hr9, hs9, ht9⟩
set_option maxRecDepth 100000 in
set_option maxHeartbeats 2000000 in
theorem instr_in4 (rb : Nat) (p : Option Addr) (l : List UInt8) (c : Nat) (e : Int) (w : World) (h : Rd w rb p l c e) (hl : l.length ≤ 1000000) (ho : 1 ≤ (oneR l e).1) (ho2 : (oneR l e).1 ≤ 23) (hs : shapeR (oneR l e).1 = 4) : Calls Tryd.prog 40 #[.pointer (some ⟨rb, 0, none⟩)] w (InsPost rb p c (insT l e) w) := by
  obtain ⟨r, hr⟩ : ∃ r, Hid (insT l e = r) := ⟨_, rfl⟩
  have h0 := one_bd l e
  have hl1 := one_len l e
  have HO := hid (fun (X : Nat → Prop) (hX : ∀ k, X k → w.heap.size ≤ k) => h.bs.off hX)
  have HR := hid h
  have hrb := h.lt
  clear h
  rw [hr.out]
  have hr := hr.out
  unfold insT at hr
  obtain ⟨r0, hr0⟩ : ∃ r0, Hid (oneR l e = r0) := ⟨_, rfl⟩
  simp only [hr0.out] at hr h0 hl1 ho ho2 hs
  obtain ⟨o, l1, e1⟩ := r0
  simp only at hr h0 hl1 ho ho2 hs
  obtain ⟨h0, h255⟩ := h0
  have hsh := hid hs
  have b1 := bits41
  have b2 := bits42
  have b4 := bits44
  have hA : hasA o = false := by simp [hasA, hs]
  have hB : hasB o = false := by simp [hasB, hs]
  have hS : hasS o = true := by simp [hasS, hs]
  simp only [hA, hB, hS, if_true, Bool.false_eq_true, if_false] at hr
  clear hA hB hS
  have hok : (decide (1 ≤ o) && decide (o ≤ 23)) = true := by simp [ho, ho2]
  rw [hok] at hr
  have HREC := hid hr
  clear hr hs hok
  go_enter Tryd.func40, Tryd.ntmps40
  go_wp2_with fail
  refine (one_any rb p l c e _ (HR.out.on ((G.refl w).alloc _)) hl).mono ?_
  rintro x w1 ⟨rfl, p1, c1, hr1, hs1, ht1⟩
  rw [hr0.out] at hr1 ⊢
  have hsz : w.heap.size + 1 ≤ w1.heap.size := by have := ht1.size; simpa using this
  have hrv := (At.alloc w 0 0 0 E).turn ht1 (by omega)
  have htn : Turn (fun k => k = rb) w w1 := (Turn.of ((G.refl w).alloc _)).trans ht1
  have HR1 := hid hr1
  have HRV := hid hrv
  have HTN := hid htn
  have HS1 := hid hs1
  clear hr1 hs1 ht1 hrv htn
  go_wp2_with fail
  have HS : Hid (St w (w1.alloc (.cells #[.int .i64 o, .int .i64 0, .int .i64 0, .string ⟨#[]⟩] 23)) rb p c w1.heap.size l1 e1 o 0 0 E) := hid ⟨⟨p1, c1, HR1.out.on ((G.refl w1).alloc _), HS1.out⟩, HTN.out.trans (Turn.of ((G.refl w1).alloc _)), HRV.out.mono ((G.refl w1).alloc _), At.alloc w1 o 0 0 E, by omega, hrb, HO.out⟩
  obtain ⟨q1, d1, hrd, hsub⟩ := HS.out.rd
  refine (ask_any rb q1 l1 d1 e1 3 true _ hrd).mono ?_
  rintro x w2 ⟨rfl, hr2, ht2⟩
  replace HS := hid (HS.out.call hsub hr2 (Sub.refl _ _) ht2)
  clear hrd hsub hr2 ht2 HR1 HRV HTN HS1 hsz
  obtain ⟨e2, he2⟩ : ∃ e2, Hid (askR true 3 e1 = e2) := ⟨_, rfl⟩
  rw [he2.out] at HS HREC ⊢
  obtain ⟨lx, px, qx, rx, tx, fx⟩ := HS.out.bx
  simp at qx rx tx
  go_wp2_with fail
  refine (shape_to hsh.out (by omega) (by omega) _).mono ?_
  rintro x w3 ⟨rfl, g⟩
  clear lx px qx rx tx fx
  replace HS := hid (HS.out.g g)
  clear g
  obtain ⟨lx, px, qx, rx, tx, fx⟩ := HS.out.bx
  simp at qx rx tx
  obtain ⟨q4, d4, hrd, hsub⟩ := HS.out.rd
  go_wp2_with fail
  refine (one_any rb q4 l1 d4 e2 _ hrd (by omega)).mono ?_
  rintro x w4 ⟨rfl, p4, c4, hr2, hs2, ht2⟩
  clear lx px qx rx tx fx
  replace HS := hid (HS.out.call hsub hr2 hs2 ht2)
  clear hrd hsub hr2 hs2 ht2
  have hn4 := one_bd l1 e2
  have hm4 := one_len l1 e2
  obtain ⟨rr, hrr⟩ : ∃ rr, Hid (oneR l1 e2 = rr) := ⟨_, rfl⟩
  rw [hrr.out] at HS hn4 hm4 ⊢
  have HREC2 := HREC.out
  simp only [hrr.out] at HREC2
  obtain ⟨n4, l4, e4⟩ := rr
  simp only at hn4 hm4 HREC2
  obtain ⟨hn40, hn41⟩ := hn4
  obtain ⟨n, rfl⟩ : ∃ n : Nat, n4 = (n : Int) := ⟨n4.toNat, by omega⟩
  rw [show ((n : Int)).toNat = n from rfl] at HREC2
  replace HS : Hid (St w w4 rb p c w1.heap.size l4 e4 o 0 0 E) := hid HS.out
  obtain ⟨ok4, hok4⟩ : ∃ ok4, Hid (decide ((n : Int) ≤ 40) = ok4) := ⟨_, rfl⟩
  rw [hok4.out] at HREC2
  have hd4 := hok4.out
  replace HREC := hid HREC2
  clear HREC2 hrr
  obtain ⟨q5, d5, hrd, hsub⟩ := HS.out.rd
  go_wp2_with fail
  refine (ask_any rb q5 l4 d5 e4 3 ok4 _ hrd).mono ?_
  rintro x w5 ⟨rfl, hr2, ht2⟩
  replace HS := hid (HS.out.call hsub hr2 (Sub.refl _ _) ht2)
  clear hrd hsub hr2 ht2 hd4
  obtain ⟨e5, he5⟩ : ∃ e5, Hid (askR ok4 3 e4 = e5) := ⟨_, rfl⟩
  rw [he5.out] at HS HREC ⊢
  obtain ⟨q6, d6, hrd, hsub⟩ := HS.out.rd
  go_wp2_with fail
  by_cases h6 : askR (decide (n ≤ l4.length)) 2 e5 = 0
  · have H6 := hid h6
    have hR := HREC.out
    rw [show textR n l4 e5 = (⟨(l4.take n).toArray⟩, l4.drop n, 0) by unfold textR; rw [if_pos h6]] at hR
    replace HREC := hid hR
    refine (some_yes rb q6 l4 d6 e5 n _ hrd h6 (by omega)).mono ?_
    rintro x w6 ⟨p6, c6, p7, c7, rfl, hby, hr2, hs2, hs3, ht2⟩
    replace HS := hid (HS.out.call hsub hr2 hs3 ht2)
    have hnl := (some_ok h6).1
    have hcv := conv_text hby
    rw [show (l4.take n).length = n by rw [List.length_take]; omega] at hcv
    clear hrd hsub hr2 hs2 hs3 ht2 hby h6 hR
    obtain ⟨lx, px, qx, rx, tx, fx⟩ := HS.out.bx
    simp at qx rx tx
    obtain ⟨tt, htt⟩ : ∃ tt : ByteArray, Hid ((⟨(l4.take n).toArray⟩ : ByteArray) = tt) := ⟨_, rfl⟩
    rw [htt.out] at HREC hcv
    obtain ⟨ld, hld⟩ : ∃ ld, Hid (l4.drop n = ld) := ⟨_, rfl⟩
    rw [hld.out] at HREC HS
    go_wp2_with fail
    replace HS : Hid (St w (w6.setCell ⟨w1.heap.size, 3, none⟩ (.string tt)) rb p c w1.heap.size ld 0 o 0 0 tt) := hid (HS.out.put (HS.out.bx.set3 tt))
    obtain ⟨mb, hmb⟩ : ∃ mb, Hid (mayR o 0 0 tt = mb) := ⟨_, rfl⟩
    refine (may_raw o 0 0 tt _ (by omega) (by omega)).mono ?_
    rintro x wm ⟨rfl, g⟩
    rw [hmb.out]
    clear lx px qx rx tx fx
    replace HS := hid (HS.out.g g)
    clear g
    obtain ⟨q8, d8, hrd, hsub⟩ := HS.out.rd
    go_wp2_with fail
    refine (ask_any rb q8 ld d8 0 3 mb _ hrd).mono ?_
    rintro x w8 ⟨rfl, hr2, ht2⟩
    replace HS := hid (HS.out.call hsub hr2 (Sub.refl _ _) ht2)
    clear hrd hsub hr2 ht2
    obtain ⟨lx, px, qx, rx, tx, fx⟩ := HS.out.bx
    simp at qx rx tx
    obtain ⟨lv, pv, qv, rv, tv, fv⟩ := HS.out.rv
    simp at qv rv tv
    go_wp2_with fail
    obtain ⟨hat, p9, c9, hr9, hs9, ht9⟩ := HS.out.last
    refine results_box Tryd.results40 rfl hat ?_
    have hR := HREC.out
    rw [hmb.out] at hR
    subst hR
    exact ⟨rfl, p9, c9, hr9, hs9, ht9⟩
  · obtain ⟨e6, he6⟩ : ∃ e6, Hid (askR (decide (n ≤ l4.length)) 2 e5 = e6) := ⟨_, rfl⟩
    have hR := HREC.out
    rw [show textR n l4 e5 = (E, l4, e6) by unfold textR; rw [if_neg h6, he6.out]] at hR
    replace HREC := hid hR
    refine (some_no rb q6 l4 d6 e5 n _ hrd he6.out (by rw [← he6.out]; exact h6) (by omega)).mono ?_
    rintro x w6 ⟨rfl, hr2, ht2⟩
    replace HS := hid (HS.out.call hsub hr2 (Sub.refl _ _) ht2)
    have hcv := conv_text (w := w6) (p := none) (l := []) (c := 0) ⟨Nat.le_refl _, .inl rfl⟩
    rw [List.length_nil] at hcv
    clear hrd hsub hr2 ht2 h6 hR
    obtain ⟨lx, px, qx, rx, tx, fx⟩ := HS.out.bx
    simp at qx rx tx
    go_wp2_with fail
    replace HS : Hid (St w (w6.setCell ⟨w1.heap.size, 3, none⟩ (.string E)) rb p c w1.heap.size l4 e6 o 0 0 E) := hid (HS.out.put (HS.out.bx.set3 E))
    obtain ⟨mb, hmb⟩ : ∃ mb, Hid (mayR o 0 0 E = mb) := ⟨_, rfl⟩
    refine (may_raw o 0 0 E _ (by omega) (by omega)).mono ?_
    rintro x wm ⟨rfl, g⟩
    rw [hmb.out]
    clear lx px qx rx tx fx
    replace HS := hid (HS.out.g g)
    clear g
    obtain ⟨q8, d8, hrd, hsub⟩ := HS.out.rd
    go_wp2_with fail
    refine (ask_any rb q8 l4 d8 e6 3 mb _ hrd).mono ?_
    rintro x w8 ⟨rfl, hr2, ht2⟩
    replace HS := hid (HS.out.call hsub hr2 (Sub.refl _ _) ht2)
    clear hrd hsub hr2 ht2
    obtain ⟨lx, px, qx, rx, tx, fx⟩ := HS.out.bx
    simp at qx rx tx
    obtain ⟨lv, pv, qv, rv, tv, fv⟩ := HS.out.rv
    simp at qv rv tv
    go_wp2_with fail
    obtain ⟨hat, p9, c9, hr9, hs9, ht9⟩ := HS.out.last
    refine results_box Tryd.results40 rfl hat ?_
    have hR := HREC.out
    rw [hmb.out] at hR
    subst hR
    exact ⟨rfl, p9, c9, hr9, hs9, ht9⟩
theorem instr_any (rb : Nat) (p : Option Addr) (l : List UInt8) (c : Nat) (e : Int) (w : World) (h : Rd w rb p l c e) (hl : l.length ≤ 1000000) : Calls Tryd.prog 40 #[.pointer (some ⟨rb, 0, none⟩)] w (InsPost rb p c (insT l e) w) := by
  have hno : ∀ o : Int, o < 1 ∨ 23 < o → shapeR o = 0 := by
    intro o ho
    unfold shapeR
    rw [if_neg (by omega), if_neg (by omega), if_neg (by omega)]
  rcases (show (oneR l e).1 < 1 ∨ 23 < (oneR l e).1 ∨ (1 ≤ (oneR l e).1 ∧ (oneR l e).1 ≤ 23) by omega) with ho | ho | ⟨ho, ho2⟩
  · exact instr_lo rb p l c e w h hl ho (hno _ (.inl ho))
  · exact instr_hi rb p l c e w h hl ho (hno _ (.inr ho))
  · rcases shapes4 (oneR l e).1 with hs | hs | hs | hs
    · exact instr_in0 rb p l c e w h hl ho ho2 hs
    · exact instr_in1 rb p l c e w h hl ho ho2 hs
    · exact instr_in3 rb p l c e w h hl ho ho2 hs
    · exact instr_in4 rb p l c e w h hl ho ho2 hs
end Go.Proofs.YtpeioflembhedaaDoor
