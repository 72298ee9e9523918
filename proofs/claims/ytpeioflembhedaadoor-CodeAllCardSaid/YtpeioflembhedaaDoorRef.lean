/-
  The document's own small functions: a number's bytes, what a kind has, which numbers may be. No conditions but that numbers are ints.
-/
import Derived.Test.YtpeioflembhedaaDoorBackD
namespace Go.Proofs.YtpeioflembhedaaDoor
open Go.RowKit

set_option maxRecDepth 100000 in
set_option maxHeartbeats 2000000 in
theorem eight_any (n : Int) (w : World) (h0 : -9223372036854775808 ≤ n) (h1 : n ≤ 9223372036854775807) :
    Calls Tryd.prog 32 #[.int .i64 n] w fun e w' => ∃ v, e = .returned v ∧ w'.ownsRow w.heap.size 5 1 v 8 (bys (eightR n)) ∧ G w w' := by
  obtain ⟨i, i1, i2, i3, i4⟩ := info5
  go_enter Tryd.func32, Tryd.ntmps32
  go_wp2_with fail
  go_loopw [3, 4] (fun v j wr => ∃ k : Nat, k ≤ 8 ∧ j = .int .i64 (7 - k) ∧ wr.ownsRow w.heap.size 5 1 v k (bys ((List.range k).map (eightAt n))) ∧ G w wr) (fun _ j _ => (intOf j + 1).toNat)
  case atStart => exact ⟨0, by omega, rfl, own_empty w, (G.refl w).alloc _⟩
  case round =>
    obtain ⟨k, hk, rfl, hv, hg⟩ := hrel
    have HG := hid hg
    have HV := hid hv
    clear hg hv
    by_cases hk8 : k < 8
    · obtain ⟨m, hm⟩ : ∃ m : Nat, 7 - (k : Int) = m := ⟨7 - k, by omega⟩
      have hm2 : m = 7 - k := by omega
      rw [hm]
      have CB := hid HV.out.lt
      have hs := HG.out.size
      have hw8 : wrap64 (8 * (m : Int)) = ((8 * (7 - k) : Nat) : Int) := by unfold wrap64; omega
      go_wp2_with (first | (at_builtin; refine wpList_append_own _ rfl _ _ 34 rfl w.heap.size 5 i (.int .u8 0) 1 1 Tryd.underlying34 i1 i2 i3 i4 rfl (by decide) _ _ _ rfl (HV.out.alloc _) ⟨wr.heap.size, 0, none⟩ 1 1 [.int .u8 (IntKind.u64.wrap n / 2 ^ (8 * (7 - k)) % 256)] rfl rfl (cell_new1 _ _ _) (by simp [Value.oneCell']) (by unfold maxLen; omega) (by omega) (by simp; omega) ?_; intro v1 y1 own1 gr1 _))
      refine ⟨⟨k + 1, by omega, by congr 1; omega, ?_, (HG.out.alloc _).grown gr1 (fun j hj => (CB.out j hj).1)⟩, by simp [intOf]; omega⟩
      rw [eight_val] at own1
      rw [List.range_succ, List.map_append, bys_append]
      exact own1
    · obtain rfl : k = 8 := by omega
      go_wp2_with fail
      go_ret
      exact ⟨_, rfl, HV.out, HG.out⟩

/-- The kinds that have a first number, as the document lists them. -/
def kindsA : List Int := [1, 2, 3, 5, 6, 11, 12, 16, 17, 18, 19, 20, 22]
theorem hasA_mem (o : Int) : hasA o = decide (o ∈ kindsA) := by
  unfold hasA shapeR
  by_cases h1 : o = 1 ∨ o = 2 ∨ o = 3 ∨ o = 6 ∨ o = 11 ∨ o = 12 ∨ o = 16 ∨ o = 17 ∨ o = 18 ∨ o = 19 ∨ o = 22
  · rw [if_pos h1]
    simp [kindsA]
    omega
  · rw [if_neg h1]
    by_cases h2 : o = 5 ∨ o = 20
    · rw [if_pos h2]
      simp [kindsA]
      omega
    · rw [if_neg h2]
      have h3 : o ∉ kindsA := by simp [kindsA]; omega
      simp only [h3]
      split <;> simp
theorem kinds_cell (w : World) (k : Nat) (x : Int) (h : kindsA[k]? = some x) : (w.alloc (.cells #[.int .i64 1, .int .i64 2, .int .i64 3, .int .i64 5, .int .i64 6, .int .i64 11, .int .i64 12, .int .i64 16, .int .i64 17, .int .i64 18, .int .i64 19, .int .i64 20, .int .i64 22] 3)).cell? ⟨w.heap.size, k, none⟩ = some (.int .i64 x) := by
  have hk : k < 13 := (List.getElem?_eq_some_iff.1 h).1
  rcases (show k = 0 ∨ k = 1 ∨ k = 2 ∨ k = 3 ∨ k = 4 ∨ k = 5 ∨ k = 6 ∨ k = 7 ∨ k = 8 ∨ k = 9 ∨ k = 10 ∨ k = 11 ∨ k = 12 by omega) with rfl | rfl | rfl | rfl | rfl | rfl | rfl | rfl | rfl | rfl | rfl | rfl | rfl
  all_goals (simp [kindsA] at h; subst h; simp [go_sem])
set_option maxRecDepth 100000 in
set_option maxHeartbeats 2000000 in
theorem hasA_any (o : Int) (w : World) : Calls Tryd.prog 33 #[.int .i64 o] w fun e w' => e = .returned (.bool (hasA o)) ∧ G w w' := by
  have HM := hid (hasA_mem o)
  go_enter Tryd.func33, Tryd.ntmps33
  go_wp2_with fail
  have HC := hid (kinds_cell w)
  have HG := hid ((G.refl w).alloc (.cells #[.int .i64 1, .int .i64 2, .int .i64 3, .int .i64 5, .int .i64 6, .int .i64 11, .int .i64 12, .int .i64 16, .int .i64 17, .int .i64 18, .int .i64 19, .int .i64 20, .int .i64 22] 3))
  generalize w.alloc (.cells #[.int .i64 1, .int .i64 2, .int .i64 3, .int .i64 5, .int .i64 6, .int .i64 11, .int .i64 12, .int .i64 16, .int .i64 17, .int .i64 18, .int .i64 19, .int .i64 20, .int .i64 22] 3) = w1 at HC HG ⊢
  go_loopg [4] 13 (fun n j wr => wr = w1 ∧ ∃ k : Nat, k ≤ 13 ∧ n = 13 - k ∧ j = .int .i64 k ∧ Hid (o ∉ kindsA.take k))
  case atStart => exact ⟨rfl, 0, by omega, rfl, rfl, hid (by simp)⟩
  case round =>
    obtain ⟨rfl, k, hk, rfl, rfl, hno⟩ := hrel
    by_cases hkl : k < 13
    · obtain ⟨x, hx⟩ : ∃ x, Hid (kindsA[k]? = some x) := ⟨kindsA[k]'(by simpa [kindsA] using hkl), hid (List.getElem?_eq_getElem _)⟩
      have hc := HC.out k x hx.out
      have hkz : (k : Int) < 13 := by omega
      by_cases hxo : x = o
      · have HX := hid hxo
        have hb : (x == o) = true := by simp [hxo]
        clear hxo
        go_wp2_with fail
        go_ret
        refine ⟨?_, HG.out⟩
        rw [HM.out, decide_eq_true (by rw [← HX.out]; exact List.mem_of_getElem? hx.out)]
        rfl
      · have HX := hid hxo
        have hb : (x == o) = false := by simp [hxo]
        clear hxo
        go_wp2_with fail
        go_roundg (13 - (k + 1))
        case measure => go_light; omega
        case rel =>
          go_light
          refine ⟨rfl, k + 1, by omega, rfl, by go_num, hid ?_⟩
          rw [List.take_add_one, hx.out]
          simp only [List.mem_append, not_or]
          exact ⟨hno.out, by simpa using Ne.symm HX.out⟩
    · obtain rfl : k = 13 := by omega
      have hkz : ¬ (13 : Int) < 13 := by omega
      go_wp2_with fail
      go_ret
      refine ⟨?_, HG.out⟩
      rw [HM.out, decide_eq_false (by simpa [kindsA] using hno.out)]
      rfl
theorem hasB_any (o : Int) (w : World) : Calls Tryd.prog 34 #[.int .i64 o] w fun e w' => e = .returned (.bool (hasB o)) ∧ w = w' := by
  have HM : Hid (hasB o = (decide (o = 5) || decide (o = 20))) := hid (by
    unfold hasB shapeR
    by_cases h1 : o = 1 ∨ o = 2 ∨ o = 3 ∨ o = 6 ∨ o = 11 ∨ o = 12 ∨ o = 16 ∨ o = 17 ∨ o = 18 ∨ o = 19 ∨ o = 22
    · rw [if_pos h1, decide_eq_false (show ¬ o = 5 by omega), decide_eq_false (show ¬ o = 20 by omega)]
      rfl
    · rw [if_neg h1]
      by_cases h2 : o = 5 ∨ o = 20
      · rw [if_pos h2]
        rcases h2 with rfl | rfl <;> rfl
      · rw [if_neg h2, decide_eq_false (show ¬ o = 5 by omega), decide_eq_false (show ¬ o = 20 by omega)]
        split <;> rfl)
  rw [HM.out]
  by_cases h5 : o = 5
  · subst h5
    go_enter Tryd.func34, Tryd.ntmps34
    go_wp2_with fail
    go_ret
    exact ⟨rfl, rfl⟩
  · have hb : (o == 5) = false := by simp [h5]
    have H5 := hid h5
    clear h5
    obtain ⟨z, hz⟩ : ∃ z, decide (o = 20) = z := ⟨_, rfl⟩
    have hz2 : (o == 20) = z := by rw [← hz]; by_cases h : o = 20 <;> simp [h]
    rw [hz, decide_eq_false H5.out]
    go_enter Tryd.func34, Tryd.ntmps34
    go_wp2_with fail
    go_ret
    exact ⟨by simp, rfl⟩
theorem hasS_any (o : Int) (w : World) : Calls Tryd.prog 35 #[.int .i64 o] w fun e w' => e = .returned (.bool (hasS o)) ∧ w = w' := by
  have HM : Hid (hasS o = (decide (o = 4) || decide (o = 7))) := hid (by
    unfold hasS shapeR
    by_cases h1 : o = 1 ∨ o = 2 ∨ o = 3 ∨ o = 6 ∨ o = 11 ∨ o = 12 ∨ o = 16 ∨ o = 17 ∨ o = 18 ∨ o = 19 ∨ o = 22
    · rw [if_pos h1, decide_eq_false (show ¬ o = 4 by omega), decide_eq_false (show ¬ o = 7 by omega)]
      rfl
    · rw [if_neg h1]
      by_cases h2 : o = 5 ∨ o = 20
      · rw [if_pos h2, decide_eq_false (show ¬ o = 4 by omega), decide_eq_false (show ¬ o = 7 by omega)]
        rfl
      · rw [if_neg h2]
        by_cases h3 : o = 4 ∨ o = 7
        · rw [if_pos h3]
          rcases h3 with rfl | rfl <;> rfl
        · rw [if_neg h3, decide_eq_false (show ¬ o = 4 by omega), decide_eq_false (show ¬ o = 7 by omega)]
          rfl)
  rw [HM.out]
  by_cases h5 : o = 4
  · subst h5
    go_enter Tryd.func35, Tryd.ntmps35
    go_wp2_with fail
    go_ret
    exact ⟨rfl, rfl⟩
  · have hb : (o == 4) = false := by simp [h5]
    have H5 := hid h5
    clear h5
    obtain ⟨z, hz⟩ : ∃ z, decide (o = 7) = z := ⟨_, rfl⟩
    have hz2 : (o == 7) = z := by rw [← hz]; by_cases h : o = 7 <;> simp [h]
    rw [hz, decide_eq_false H5.out]
    go_enter Tryd.func35, Tryd.ntmps35
    go_wp2_with fail
    go_ret
    exact ⟨by simp, rfl⟩
/-- May a number be, by the document. -/
theorem numb_ref (had : Bool) (n : Int) (w : World) : Calls Tryd.prog 45 #[.bool had, .int .i64 n] w fun e w' => e = .returned (.bool (numR had n)) ∧ w = w' := by
  cases had
  · have HM : Hid (numR false n = decide (n = 0)) := hid (by simp [numR])
    rw [HM.out]
    obtain ⟨z, hz⟩ : ∃ z, decide (n = 0) = z := ⟨_, rfl⟩
    have hz2 : (n == 0) = z := by rw [← hz]; by_cases h : n = 0 <;> simp [h]
    rw [hz]
    go_enter Tryd.func45, Tryd.ntmps45
    go_wp2_with fail
    go_ret
    exact ⟨rfl, rfl⟩
  · have HM : Hid (numR true n = (decide (0 ≤ n) && decide (n ≤ 1073741824))) := hid (by
      unfold numR
      rcases (show n < 0 ∨ n = 0 ∨ 0 < n by omega) with h | h | h
      · simp [show ¬ n = 0 by omega, show ¬ 0 < n by omega, show ¬ 0 ≤ n by omega]
      · subst h; rfl
      · simp [show ¬ n = 0 by omega, h, show 0 ≤ n by omega])
    rw [HM.out]
    rcases (show n < 0 ∨ (0 ≤ n ∧ n ≤ 1073741824) ∨ (0 ≤ n ∧ 1073741824 < n) by omega) with h | ⟨h, k⟩ | ⟨h, k⟩
    all_goals (
      go_enter Tryd.func45, Tryd.ntmps45
      go_wp2_with fail
      go_ret
      refine ⟨?_, rfl⟩
      simp <;> omega)
end Go.Proofs.YtpeioflembhedaaDoor
