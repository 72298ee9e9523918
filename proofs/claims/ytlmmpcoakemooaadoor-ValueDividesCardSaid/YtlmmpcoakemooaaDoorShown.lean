/-
  The statements' head: the document's example. No conditions.
-/
import Derived.Test.YtlmmpcoakemooaaDoorSays
import Derived.Test.YtlmmpcoakemooaaDoorWord
import Derived.Test.YtlmmpcoakemooaaDoorBin
namespace Go.Proofs.YtlmmpcoakemooaaDoor
open Go.RowKit

theorem half : binR ⟨#[47]⟩ 1 (-7) E 1 2 E = ⟨1, -3, E, 0⟩ := by
  simp [binR, numR, wrap64]

set_option maxRecDepth 100000 in
set_option maxHeartbeats 1000000 in
theorem shown_any (w : World) : Calls Tryd.prog 10 #[] w fun e w' => e = .returned (.bool true) ∧ G w w' := by
  have hb := bin_any ⟨#[47]⟩ 1 (-7) E 1 2 E
  rw [half] at hb
  go_enter Tryd.func10, Tryd.ntmps10
  go_upto_region 2 with (first | (go_at_call 11; refine (int_any _ _).mono ?_; rintro e x1 ⟨rfl, hg1⟩; (try simp only [R.v, V]); have H1 := hid hg1; clear hg1) | (go_at_call 12; refine (hb _ (by decide) (by decide)).mono ?_; rintro e x2 ⟨rfl, hg1⟩; (try simp only [R.v, V]); have H2 := hid hg1; clear hg1))
  have HA : Hid (At (x2.alloc (.cells #[.int .i64 1, .int .i64 (-3), .string ⟨#[]⟩] 24)) x2.heap.size 1 (-3) E) := hid (At.alloc _ _ _ _)
  refine wp_region_grows (says [Say.is (V 1 (-3) E), Say.is (V 1 (-3) E), Say.is (.bool true), Say.is (.bool true), Say.is (.int .i64 0), Say.is (.bool true), Say.is (.bool true), Say.is (.bool true), Say.is (V 1 2 E), Say.is (.int .i64 2), Say.is (.bool true), Say.is (.bool true), Say.is (.bool true), Say.is (V 2 (one true) E), Say.is (.string (boolS true)), Say.is (.bool true), Say.is (.bool true), Say.is (.bool true)]) 26 (by kernel_rfl) (by kernel_rfl) rfl (says_mono _) (allSteps_take ⟨?_, ?_, ?_, ?_, ?_, ?_, ?_, ?_, ?_, ?_, ?_, ?_, ?_, ?_, ?_, ?_, ?_, ?_, trivial⟩) ?_
  · intro a w1 hG hin
    have h1 : a.eval (.tmp 1) = .pointer (some ⟨x2.heap.size, 0, none⟩) := slot_out (hin 1 (by decide)) rfl
    clear hin
    refine .inl ⟨wanted_none rfl, ?_⟩
    exact grow_load rfl ((HA.out).mono hG) h1 rfl
  · intro a w1 hG hin
    clear hin
    exact .inl ⟨wanted_none rfl, grow_call Tryd.call11 #[a.eval (.const (Value.int IntKind.i64 (-3)))] (by simp only [List.map_toArray, List.map_cons, List.map_nil]) ((int_any _ _).mono (by rintro e w2 ⟨rfl, hg⟩; exact ⟨_, rfl, hg, rfl⟩))⟩
  · intro a w1 hG hin
    have h9 : a.eval (.tmp 9) = V 1 (-3) E := slot_in (hin 9 (by decide)) rfl
    have h10 : a.eval (.tmp 10) = V 1 (-3) E := slot_in (hin 10 (by decide)) rfl
    clear hin
    refine .inl ⟨wanted_none rfl, ?_⟩
    exact grow_eqV rfl h9 h10 (congrArg Value.bool (by simp [sameV]))
  · intro a w1 hG hin
    have h11 : a.eval (.tmp 11) = .bool true := slot_in (hin 11 (by decide)) rfl
    clear hin
    exact .inl ⟨wanted_none rfl, grow_move rfl h11⟩
  · intro a w1 hG hin
    have h2 : a.eval (.tmp 2) = .int .i64 0 := slot_out (hin 2 (by decide)) rfl
    have h12 : a.eval (.tmp 12) = .bool true := slot_in (hin 12 (by decide)) rfl
    clear hin
    exact .inl ⟨wanted_yes rfl rfl h12, grow_move rfl h2⟩
  · intro a w1 hG hin
    have h13 : a.eval (.tmp 13) = .int .i64 0 := slot_in (hin 13 (by decide)) rfl
    have h12 : a.eval (.tmp 12) = .bool true := slot_in (hin 12 (by decide)) rfl
    clear hin
    refine .inl ⟨wanted_yes rfl rfl h12, ?_⟩
    exact grow_eqint rfl h13 rfl rfl
  · intro a w1 hG hin
    have h12 : a.eval (.tmp 12) = .bool true := slot_in (hin 12 (by decide)) rfl
    have h14 : a.eval (.tmp 14) = .bool true := slot_in (hin 14 (by decide)) rfl
    clear hin
    exact .inl ⟨wanted_none rfl, grow_pick rfl h12 h14⟩
  · intro a w1 hG hin
    have h15 : a.eval (.tmp 15) = .bool true := slot_in (hin 15 (by decide)) rfl
    clear hin
    exact .inl ⟨wanted_none rfl, grow_move rfl h15⟩
  · intro a w1 hG hin
    have h16 : a.eval (.tmp 16) = .bool true := slot_in (hin 16 (by decide)) rfl
    clear hin
    exact .inl ⟨wanted_yes rfl rfl h16, grow_call Tryd.call11 #[a.eval (.const (.int .i64 2))] (by simp only [List.map_toArray, List.map_cons, List.map_nil]) ((int_any _ _).mono (by rintro e w2 ⟨rfl, hg⟩; exact ⟨_, rfl, hg, rfl⟩))⟩
  · intro a w1 hG hin
    have h17 : a.eval (.tmp 17) = V 1 2 E := slot_in (hin 17 (by decide)) rfl
    have h16 : a.eval (.tmp 16) = .bool true := slot_in (hin 16 (by decide)) rfl
    clear hin
    refine .inl ⟨wanted_yes rfl rfl h16, ?_⟩
    exact grow_field1 rfl h17 rfl
  · intro a w1 hG hin
    have h18 : a.eval (.tmp 18) = .int .i64 2 := slot_in (hin 18 (by decide)) rfl
    have h16 : a.eval (.tmp 16) = .bool true := slot_in (hin 16 (by decide)) rfl
    clear hin
    refine .inl ⟨wanted_yes rfl rfl h16, ?_⟩
    exact grow_eqint rfl h18 rfl rfl
  · intro a w1 hG hin
    have h16 : a.eval (.tmp 16) = .bool true := slot_in (hin 16 (by decide)) rfl
    have h19 : a.eval (.tmp 19) = .bool true := slot_in (hin 19 (by decide)) rfl
    clear hin
    exact .inl ⟨wanted_none rfl, grow_pick rfl h16 h19⟩
  · intro a w1 hG hin
    have h20 : a.eval (.tmp 20) = .bool true := slot_in (hin 20 (by decide)) rfl
    clear hin
    exact .inl ⟨wanted_none rfl, grow_move rfl h20⟩
  · intro a w1 hG hin
    have h21 : a.eval (.tmp 21) = .bool true := slot_in (hin 21 (by decide)) rfl
    clear hin
    exact .inl ⟨wanted_yes rfl rfl h21, grow_call Tryd.call14 #[a.eval (.const (Value.bool true))] (by simp only [List.map_toArray, List.map_cons, List.map_nil]) ((bool_any _ _).mono (by rintro e w2 ⟨rfl, hg⟩; exact ⟨_, rfl, hg, rfl⟩))⟩
  · intro a w1 hG hin
    have h22 : a.eval (.tmp 22) = V 2 (one true) E := slot_in (hin 22 (by decide)) rfl
    have h21 : a.eval (.tmp 21) = .bool true := slot_in (hin 21 (by decide)) rfl
    clear hin
    exact .inl ⟨wanted_yes rfl rfl h21, grow_call Tryd.call27 #[a.eval (.tmp 22)] (by simp only [List.map_toArray, List.map_cons, List.map_nil]) (by rw [h22]; exact (word_bool _ _ _).mono (by rintro e w2 ⟨rfl, hg⟩; exact ⟨_, rfl, hg, rfl⟩))⟩
  · intro a w1 hG hin
    have h23 : a.eval (.tmp 23) = .string (boolS true) := slot_in (hin 23 (by decide)) rfl
    have h21 : a.eval (.tmp 21) = .bool true := slot_in (hin 21 (by decide)) rfl
    clear hin
    refine .inl ⟨wanted_yes rfl rfl h21, ?_⟩
    exact grow_eqtext rfl h23 rfl (congrArg Value.bool (by simp [boolS, go_sem]))
  · intro a w1 hG hin
    have h21 : a.eval (.tmp 21) = .bool true := slot_in (hin 21 (by decide)) rfl
    have h24 : a.eval (.tmp 24) = .bool true := slot_in (hin 24 (by decide)) rfl
    clear hin
    exact .inl ⟨wanted_none rfl, grow_pick rfl h21 h24⟩
  · intro a w1 hG hin
    have h25 : a.eval (.tmp 25) = .bool true := slot_in (hin 25 (by decide)) rfl
    clear hin
    exact .inl ⟨wanted_none rfl, grow_assign rfl h25⟩
  · intro s w2 hG hin hs
    have f0 : s 0 = .bool true := (hs 0 (by decide)).symm.trans (slot_in (hin 0) rfl)
    clear hin hs
    rw [show List.range 26 = [0, 1, 2, 3, 4, 5, 6, 7, 8, 9, 10, 11, 12, 13, 14, 15, 16, 17, 18, 19, 20, 21, 22, 23, 24, 25] from rfl]
    simp only [List.map_cons, List.map_nil]
    rw [f0]
    go_wp2_with fail
    go_ret
    refine ⟨rfl, ?_⟩
    refine G.then ?_ (hid hG)
    repeat first | exact G.refl _ | refine G.then ?_ (by assumption) | refine G.alloc ?_ _ | refine G.set ?_ (by simp <;> omega) _
end Go.Proofs.YtlmmpcoakemooaaDoor
