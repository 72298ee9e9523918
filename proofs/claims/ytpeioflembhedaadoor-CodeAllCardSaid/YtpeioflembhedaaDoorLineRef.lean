/-
  The document's Name and Line. No conditions but the library's own (its table of the powers of ten stands as laid).
-/
import Derived.Test.YtpeioflembhedaaDoorMayRef
namespace Go.Proofs.YtpeioflembhedaaDoor
open Go.RowKit

abbrev namesC : Obj := .cells #[.string ⟨#[]⟩, .string ⟨#[109, 97, 114, 107]⟩, .string ⟨#[105, 110, 116]⟩, .string ⟨#[98, 111, 111, 108]⟩, .string ⟨#[116, 101, 120, 116]⟩, .string ⟨#[108, 111, 97, 100]⟩, .string ⟨#[115, 116, 111, 114, 101]⟩, .string ⟨#[98, 105, 110]⟩, .string ⟨#[110, 101, 103]⟩, .string ⟨#[110, 111, 116]⟩, .string ⟨#[108, 101, 110]⟩, .string ⟨#[105, 110, 100, 101, 120]⟩, .string ⟨#[112, 117, 116]⟩, .string ⟨#[110, 101, 119]⟩, .string ⟨#[105, 110, 112, 117, 116]⟩, .string ⟨#[112, 114, 105, 110, 116]⟩, .string ⟨#[106, 117, 109, 112]⟩, .string ⟨#[102, 97, 108, 115, 101]⟩, .string ⟨#[97, 110, 100]⟩, .string ⟨#[111, 114]⟩, .string ⟨#[99, 97, 108, 108]⟩, .string ⟨#[114, 101, 116]⟩, .string ⟨#[110, 111, 110, 101]⟩, .string ⟨#[112, 111, 112]⟩] 9
theorem names_cell (w : World) (k : Nat) (hk : k < 24) : (w.alloc namesC).cell? ⟨w.heap.size, k, none⟩ = some (.string (nameR k)) := by
  rcases (show k = 0 ∨ k = 1 ∨ k = 2 ∨ k = 3 ∨ k = 4 ∨ k = 5 ∨ k = 6 ∨ k = 7 ∨ k = 8 ∨ k = 9 ∨ k = 10 ∨ k = 11 ∨ k = 12 ∨ k = 13 ∨ k = 14 ∨ k = 15 ∨ k = 16 ∨ k = 17 ∨ k = 18 ∨ k = 19 ∨ k = 20 ∨ k = 21 ∨ k = 22 ∨ k = 23 by omega) with rfl | rfl | rfl | rfl | rfl | rfl | rfl | rfl | rfl | rfl | rfl | rfl | rfl | rfl | rfl | rfl | rfl | rfl | rfl | rfl | rfl | rfl | rfl | rfl
  all_goals (simp [go_sem, nameR, namesL, E])
set_option maxRecDepth 100000 in
set_option maxHeartbeats 2000000 in
theorem name_ref (o : Int) (w : World) : Calls Tryd.prog 20 #[.int .i64 o] w fun e w' => e = .returned (.string (nameR o)) ∧ G w w' := by
  have HG := hid ((G.refl w).alloc namesC)
  rcases (show o < 0 ∨ (¬ o < 0 ∧ 24 ≤ o) ∨ (0 ≤ o ∧ o < 24) by omega) with h | ⟨h, h2⟩ | ⟨h, h2⟩
  · have e : nameR o = E := by unfold nameR; rw [if_neg (by omega)]
    rw [e]
    go_enter Tryd.func20, Tryd.ntmps20
    go_wp2_with fail
    go_ret
    exact ⟨rfl, HG.out⟩
  · have e : nameR o = E := by unfold nameR; rw [if_neg (by omega)]
    rw [e]
    go_enter Tryd.func20, Tryd.ntmps20
    go_wp2_with fail
    go_ret
    exact ⟨rfl, HG.out⟩
  · obtain ⟨k, rfl⟩ := Int.eq_ofNat_of_zero_le h
    have hk : k < 24 := by omega
    have hc := names_cell w k hk
    obtain ⟨nm, hnm⟩ : ∃ nm, Hid (nameR (k : Int) = nm) := ⟨_, rfl⟩
    rw [hnm.out] at hc ⊢
    go_enter Tryd.func20, Tryd.ntmps20
    go_wp2_with fail
    go_ret
    exact ⟨rfl, HG.out⟩
theorem name_ref_to {o : Int} {nm : ByteArray} (h : nameR o = nm) (w : World) : Calls Tryd.prog 20 #[.int .i64 o] w fun e w' => e = .returned (.string nm) ∧ G w w' := by
  subst h
  exact name_ref o w
theorem hasA_to {o : Int} {y : Bool} (h : hasA o = y) (w : World) : Calls Tryd.prog 33 #[.int .i64 o] w fun e w' => e = .returned (.bool y) ∧ G w w' := by
  subst h
  exact hasA_any o w
theorem hasB_to {o : Int} {y : Bool} (h : hasB o = y) (w : World) : Calls Tryd.prog 34 #[.int .i64 o] w fun e w' => e = .returned (.bool y) ∧ w = w' := by
  subst h
  exact hasB_any o w
set_option maxRecDepth 100000 in
set_option maxHeartbeats 2000000 in
theorem lineref0 (o a b : Int) (tx nm ia ib : ByteArray) (w : World) (hs : shapeR o = 0) (hn : nameR o = nm) (ha : (⟨(Lib.itoa a).toArray⟩ : ByteArray) = ia) (hb : (⟨(Lib.itoa b).toArray⟩ : ByteArray) = ib) (a0 : -9223372036854775808 ≤ a) (a1 : a ≤ 9223372036854775807) (c0 : -9223372036854775808 ≤ b) (c1 : b ≤ 9223372036854775807)
    (ht : Tab w) (l1 : nm.size ≤ 10) (l2 : ia.size ≤ 30) (l3 : ib.size ≤ 30) (l4 : tx.size ≤ 60) : Calls Tryd.prog 19 #[V o a b tx] w fun e w' => e = .returned (.string nm) ∧ G w w' := by
  have HT := hid ht
  have HN := hid hn
  have HA := hid ha
  have HB := hid hb
  have SA := hid (show hasA o = false by simp [hasA, hs])
  have SB := hid (show hasB o = false by simp [hasB, hs])
  have SS := hid (show hasS o = false by simp [hasS, hs])
  clear ht hn ha hb hs
  unfold V
  have BX := hid (At.alloc w o a b tx)
  have HG := hid ((G.refl w).alloc (.cells #[.int .i64 o, .int .i64 a, .int .i64 b, .string tx] 23))
  go_enter Tryd.func19, Tryd.ntmps19
  go_wp2_with fail
  refine (name_ref_to HN.out _).mono ?_
  rintro e w1 ⟨rfl, g⟩
  replace BX := hid (BX.out.mono g)
  replace HG := hid (HG.out.trans g)
  clear g
  obtain ⟨lx, px, qx, rx, tx0, fx⟩ := BX.out
  simp at qx rx tx0
  go_wp2_with fail
  refine (hasA_to SA.out _).mono ?_
  rintro e w2 ⟨rfl, g⟩
  clear lx px qx rx tx0 fx
  replace BX := hid (BX.out.mono g)
  replace HG := hid (HG.out.trans g)
  clear g
  obtain ⟨lx, px, qx, rx, tx0, fx⟩ := BX.out
  simp at qx rx tx0
  go_wp2_with fail
  refine (hasB_to SB.out _).mono ?_
  rintro e wz ⟨rfl, rfl⟩
  go_wp2_with fail
  refine (hasS_to SS.out _).mono ?_
  rintro e wz ⟨rfl, rfl⟩
  go_wp2_with fail
  go_ret
  exact ⟨rfl, HG.out⟩
set_option maxRecDepth 100000 in
set_option maxHeartbeats 2000000 in
theorem lineref1 (o a b : Int) (tx nm ia ib : ByteArray) (w : World) (hs : shapeR o = 1) (hn : nameR o = nm) (ha : (⟨(Lib.itoa a).toArray⟩ : ByteArray) = ia) (hb : (⟨(Lib.itoa b).toArray⟩ : ByteArray) = ib) (a0 : -9223372036854775808 ≤ a) (a1 : a ≤ 9223372036854775807) (c0 : -9223372036854775808 ≤ b) (c1 : b ≤ 9223372036854775807)
    (ht : Tab w) (l1 : nm.size ≤ 10) (l2 : ia.size ≤ 30) (l3 : ib.size ≤ 30) (l4 : tx.size ≤ 60) : Calls Tryd.prog 19 #[V o a b tx] w fun e w' => e = .returned (.string (nm ++ (⟨#[32]⟩ : ByteArray) ++ ia)) ∧ G w w' := by
  have HT := hid ht
  have HN := hid hn
  have HA := hid ha
  have HB := hid hb
  have SA := hid (show hasA o = true by simp [hasA, hs])
  have SB := hid (show hasB o = false by simp [hasB, hs])
  have SS := hid (show hasS o = false by simp [hasS, hs])
  clear ht hn ha hb hs
  unfold V
  have BX := hid (At.alloc w o a b tx)
  have HG := hid ((G.refl w).alloc (.cells #[.int .i64 o, .int .i64 a, .int .i64 b, .string tx] 23))
  go_enter Tryd.func19, Tryd.ntmps19
  go_wp2_with fail
  refine (name_ref_to HN.out _).mono ?_
  rintro e w1 ⟨rfl, g⟩
  replace BX := hid (BX.out.mono g)
  replace HG := hid (HG.out.trans g)
  clear g
  obtain ⟨lx, px, qx, rx, tx0, fx⟩ := BX.out
  simp at qx rx tx0
  go_wp2_with fail
  refine (hasA_to SA.out _).mono ?_
  rintro e w2 ⟨rfl, g⟩
  clear lx px qx rx tx0 fx
  replace BX := hid (BX.out.mono g)
  replace HG := hid (HG.out.trans g)
  clear g
  obtain ⟨lx, px, qx, rx, tx0, fx⟩ := BX.out
  simp at qx rx tx0
  go_wp2_with fail
  refine (itoa_any a a0 a1 _ (tab_on HT.out HG.out)).mono ?_
  rw [HA.out]
  rintro e w3 ⟨rfl, g⟩
  clear lx px qx rx tx0 fx
  replace BX := hid (BX.out.mono g)
  replace HG := hid (HG.out.trans g)
  clear g
  obtain ⟨lx, px, qx, rx, tx0, fx⟩ := BX.out
  simp at qx rx tx0
  go_wp2_with fail
  refine (hasB_to SB.out _).mono ?_
  rintro e wz ⟨rfl, rfl⟩
  go_wp2_with fail
  refine (hasS_to SS.out _).mono ?_
  rintro e wz ⟨rfl, rfl⟩
  go_wp2_with fail
  go_ret
  exact ⟨rfl, HG.out⟩
set_option maxRecDepth 100000 in
set_option maxHeartbeats 2000000 in
theorem lineref3 (o a b : Int) (tx nm ia ib : ByteArray) (w : World) (hs : shapeR o = 3) (hn : nameR o = nm) (ha : (⟨(Lib.itoa a).toArray⟩ : ByteArray) = ia) (hb : (⟨(Lib.itoa b).toArray⟩ : ByteArray) = ib) (a0 : -9223372036854775808 ≤ a) (a1 : a ≤ 9223372036854775807) (c0 : -9223372036854775808 ≤ b) (c1 : b ≤ 9223372036854775807)
    (ht : Tab w) (l1 : nm.size ≤ 10) (l2 : ia.size ≤ 30) (l3 : ib.size ≤ 30) (l4 : tx.size ≤ 60) : Calls Tryd.prog 19 #[V o a b tx] w fun e w' => e = .returned (.string (nm ++ (⟨#[32]⟩ : ByteArray) ++ ia ++ (⟨#[32]⟩ : ByteArray) ++ ib)) ∧ G w w' := by
  have HT := hid ht
  have HN := hid hn
  have HA := hid ha
  have HB := hid hb
  have SA := hid (show hasA o = true by simp [hasA, hs])
  have SB := hid (show hasB o = true by simp [hasB, hs])
  have SS := hid (show hasS o = false by simp [hasS, hs])
  clear ht hn ha hb hs
  unfold V
  have BX := hid (At.alloc w o a b tx)
  have HG := hid ((G.refl w).alloc (.cells #[.int .i64 o, .int .i64 a, .int .i64 b, .string tx] 23))
  go_enter Tryd.func19, Tryd.ntmps19
  go_wp2_with fail
  refine (name_ref_to HN.out _).mono ?_
  rintro e w1 ⟨rfl, g⟩
  replace BX := hid (BX.out.mono g)
  replace HG := hid (HG.out.trans g)
  clear g
  obtain ⟨lx, px, qx, rx, tx0, fx⟩ := BX.out
  simp at qx rx tx0
  go_wp2_with fail
  refine (hasA_to SA.out _).mono ?_
  rintro e w2 ⟨rfl, g⟩
  clear lx px qx rx tx0 fx
  replace BX := hid (BX.out.mono g)
  replace HG := hid (HG.out.trans g)
  clear g
  obtain ⟨lx, px, qx, rx, tx0, fx⟩ := BX.out
  simp at qx rx tx0
  go_wp2_with fail
  refine (itoa_any a a0 a1 _ (tab_on HT.out HG.out)).mono ?_
  rw [HA.out]
  rintro e w3 ⟨rfl, g⟩
  clear lx px qx rx tx0 fx
  replace BX := hid (BX.out.mono g)
  replace HG := hid (HG.out.trans g)
  clear g
  obtain ⟨lx, px, qx, rx, tx0, fx⟩ := BX.out
  simp at qx rx tx0
  go_wp2_with fail
  refine (hasB_to SB.out _).mono ?_
  rintro e wz ⟨rfl, rfl⟩
  go_wp2_with fail
  refine (itoa_any b c0 c1 _ (tab_on HT.out HG.out)).mono ?_
  rw [HB.out]
  rintro e w4 ⟨rfl, g⟩
  clear lx px qx rx tx0 fx
  replace BX := hid (BX.out.mono g)
  replace HG := hid (HG.out.trans g)
  clear g
  obtain ⟨lx, px, qx, rx, tx0, fx⟩ := BX.out
  simp at qx rx tx0
  go_wp2_with fail
  refine (hasS_to SS.out _).mono ?_
  rintro e wz ⟨rfl, rfl⟩
  go_wp2_with fail
  go_ret
  exact ⟨rfl, HG.out⟩
set_option maxRecDepth 100000 in
set_option maxHeartbeats 2000000 in
theorem lineref4 (o a b : Int) (tx nm ia ib : ByteArray) (w : World) (hs : shapeR o = 4) (hn : nameR o = nm) (ha : (⟨(Lib.itoa a).toArray⟩ : ByteArray) = ia) (hb : (⟨(Lib.itoa b).toArray⟩ : ByteArray) = ib) (a0 : -9223372036854775808 ≤ a) (a1 : a ≤ 9223372036854775807) (c0 : -9223372036854775808 ≤ b) (c1 : b ≤ 9223372036854775807)
    (ht : Tab w) (l1 : nm.size ≤ 10) (l2 : ia.size ≤ 30) (l3 : ib.size ≤ 30) (l4 : tx.size ≤ 60) : Calls Tryd.prog 19 #[V o a b tx] w fun e w' => e = .returned (.string (nm ++ (⟨#[32]⟩ : ByteArray) ++ tx)) ∧ G w w' := by
  have HT := hid ht
  have HN := hid hn
  have HA := hid ha
  have HB := hid hb
  have SA := hid (show hasA o = false by simp [hasA, hs])
  have SB := hid (show hasB o = false by simp [hasB, hs])
  have SS := hid (show hasS o = true by simp [hasS, hs])
  clear ht hn ha hb hs
  unfold V
  have BX := hid (At.alloc w o a b tx)
  have HG := hid ((G.refl w).alloc (.cells #[.int .i64 o, .int .i64 a, .int .i64 b, .string tx] 23))
  go_enter Tryd.func19, Tryd.ntmps19
  go_wp2_with fail
  refine (name_ref_to HN.out _).mono ?_
  rintro e w1 ⟨rfl, g⟩
  replace BX := hid (BX.out.mono g)
  replace HG := hid (HG.out.trans g)
  clear g
  obtain ⟨lx, px, qx, rx, tx0, fx⟩ := BX.out
  simp at qx rx tx0
  go_wp2_with fail
  refine (hasA_to SA.out _).mono ?_
  rintro e w2 ⟨rfl, g⟩
  clear lx px qx rx tx0 fx
  replace BX := hid (BX.out.mono g)
  replace HG := hid (HG.out.trans g)
  clear g
  obtain ⟨lx, px, qx, rx, tx0, fx⟩ := BX.out
  simp at qx rx tx0
  go_wp2_with fail
  refine (hasB_to SB.out _).mono ?_
  rintro e wz ⟨rfl, rfl⟩
  go_wp2_with fail
  refine (hasS_to SS.out _).mono ?_
  rintro e wz ⟨rfl, rfl⟩
  go_wp2_with fail
  go_ret
  exact ⟨rfl, HG.out⟩
theorem ba_ext {a b : ByteArray} (h : a.data.toList = b.data.toList) : a = b := by
  cases a with
  | mk x => cases b with
    | mk y => simp at h; subst h; rfl
theorem line_ref (o a b : Int) (tx : ByteArray) (w : World) (a0 : -9223372036854775808 ≤ a) (a1 : a ≤ 9223372036854775807) (c0 : -9223372036854775808 ≤ b) (c1 : b ≤ 9223372036854775807)
    (ht : Tab w) (hx : tx.size ≤ 60) : Calls Tryd.prog 19 #[V o a b tx] w fun e w' => e = .returned (.string (lineR o a b tx)) ∧ G w w' := by
  have l1 : (nameR o).size ≤ 10 := by simpa using name_len o
  have l2 : (⟨(Lib.itoa a).toArray⟩ : ByteArray).size ≤ 30 := by have := Lib.itoa_length_le a a0 a1; simp [ByteArray.size]; omega
  have l3 : (⟨(Lib.itoa b).toArray⟩ : ByteArray).size ≤ 30 := by have := Lib.itoa_length_le b c0 c1; simp [ByteArray.size]; omega
  rcases shapes4 o with hs | hs | hs | hs
  · have h := lineref0 o a b tx _ _ _ w hs rfl rfl rfl a0 a1 c0 c1 ht l1 l2 l3 hx
    have e : lineR o a b tx = nameR o := by
      refine ba_ext ?_
      unfold lineR wordsR
      rw [if_pos hs]
      simp [Lib.join]
    rw [e]
    exact h
  · have h := lineref1 o a b tx _ _ _ w hs rfl rfl rfl a0 a1 c0 c1 ht l1 l2 l3 hx
    refine h.mono ?_
    rintro e w' ⟨rfl, g⟩
    refine ⟨?_, g⟩
    congr 2
    refine ba_ext ?_
    unfold lineR wordsR
    rw [if_neg (by omega), if_pos hs]
    simp [Lib.join, itoaS]
  · have h := lineref3 o a b tx _ _ _ w hs rfl rfl rfl a0 a1 c0 c1 ht l1 l2 l3 hx
    refine h.mono ?_
    rintro e w' ⟨rfl, g⟩
    refine ⟨?_, g⟩
    congr 2
    refine ba_ext ?_
    unfold lineR wordsR
    rw [if_neg (by omega), if_neg (by omega), if_pos hs]
    simp [Lib.join, itoaS]
  · have h := lineref4 o a b tx _ _ _ w hs rfl rfl rfl a0 a1 c0 c1 ht l1 l2 l3 hx
    refine h.mono ?_
    rintro e w' ⟨rfl, g⟩
    refine ⟨?_, g⟩
    congr 2
    refine ba_ext ?_
    unfold lineR wordsR
    rw [if_neg (by omega), if_neg (by omega), if_neg (by omega)]
    simp [Lib.join]
end Go.Proofs.YtpeioflembhedaaDoor
