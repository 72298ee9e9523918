/-
  The walk over ValueLogic: it returns true, and writes nothing that was there. No conditions.
-/
import Derived.Test.YtlmmpcoakemooaaDoorTruths
import Derived.Test.YtlmmpcoakemooaaDoorSaysB
import Derived.Test.YtlmmpcoakemooaaDoorLate
namespace Go.Proofs.YtlmmpcoakemooaaDoor
open Go.RowKit

namespace Bx

set_option maxRecDepth 100000 in
set_option maxHeartbeats 4000000 in
theorem logic_TT (w : World) : Calls Tryd.prog 6 #[.bool true, .bool true] w fun e w' => e = .returned (.bool true) ∧ G w w' := by
  go_enter Tryd.func6, Tryd.ntmps6
  go_wp2_with fail
  refine (shown_any _).mono ?_
  rintro e x1 ⟨rfl, g1⟩
  (try simp only [R.v, R.u, V])
  have h1 : G w x1 := g1
  have HG := hid h1
  clear h1 g1
  go_wp2_with fail
  refine (truth_any (p := 1) rfl _).mono ?_
  rintro e x2 ⟨rfl, g2⟩
  (try simp only [R.v, R.u, V])
  have h2 : G x1 x2 := g2
  replace HG := hid (HG.out.trans h2)
  clear h2 g2
  go_wp2_with fail
  refine (truth_any (p := 1) rfl _).mono ?_
  rintro e x3 ⟨rfl, g3⟩
  (try simp only [R.v, R.u, V])
  have h3 : G x2 x3 := ((G.refl _).alloc _).trans g3
  have B1 := hid (At.after g3)
  replace HG := hid (HG.out.trans h3)
  clear h3 g3
  obtain ⟨l1, p1, q1, r1, f1⟩ := B1.out
  go_wp2_with fail
  refine (and_any (p := 1) (by decide) _).mono ?_
  rintro e x4 ⟨rfl, g4⟩
  (try simp only [R.v, R.u, V])
  clear l1 p1 q1 r1 f1
  have h4 : G x3 x4 := ((G.refl _).alloc _).trans g4
  replace B1 := hid (B1.out.mono h4)
  have B2 := hid (At.after g4)
  replace HG := hid (HG.out.trans h4)
  clear h4 g4
  obtain ⟨l1, p1, q1, r1, f1⟩ := B1.out
  obtain ⟨l2, p2, q2, r2, f2⟩ := B2.out
  have B3 := hid (At.alloc x4 2 1 E)
  replace B1 := hid (B1.out.more (.cells #[.int .i64 2, .int .i64 1, .string ⟨#[]⟩] 24))
  replace B2 := hid (B2.out.more (.cells #[.int .i64 2, .int .i64 1, .string ⟨#[]⟩] 24))
  replace HG := hid (HG.out.alloc (.cells #[.int .i64 2, .int .i64 1, .string ⟨#[]⟩] 24))
  go_upto_region 5 with (fail)
  clear l1 p1 q1 r1 f1 l2 p2 q2 r2 f2
  refine wp_region_late (says [Say.is (V 2 1 E), Say.is (V 2 0 E), Say.is (V 2 1 E), Say.is (V 2 0 E), Say.is (.tuple #[V 2 0 E, .int .i64 0]), Say.is (.tuple #[V 2 0 E, .int .i64 0]), Say.is (V 2 0 E), Say.is (.int .i64 0), Say.box (x4.heap.size + 1)]) 9 7 83 (by kernel_rfl) (by kernel_rfl) rfl (says_mono _) (allSteps_take ⟨?_, ?_, ?_, ?_, ?_, ?_, ?_, ?_, ?_, trivial⟩) _ _ rfl rfl ?_
  · intro a w1 hG hin
    have h6 : a.eval (.tmp 6) = .pointer (some ⟨x2.heap.size, 0, none⟩) := slot_out (hin 6 (by decide)) rfl
    clear hin
    refine .inl ⟨wanted_none rfl, ?_⟩
    exact grow_load rfl (B1.out.mono hG) h6 rfl
  · intro a w1 hG hin
    have h26 : a.eval (.tmp 26) = V 2 1 E := slot_in (hin 26 (by decide)) rfl
    clear hin
    refine .inl ⟨wanted_none rfl, ?_⟩
    exact grow_call Tryd.call13 #[.string ⟨#[33]⟩, V 2 1 E] (by simp only [List.map_toArray, List.map_cons, List.map_nil, h26]; rfl) ((not_any (p := 0) (by decide) _).mono (by rintro e w2 ⟨rfl, hg⟩; exact ⟨_, rfl, hg, rfl⟩))
  · intro a w1 hG hin
    have h7 : a.eval (.tmp 7) = .pointer (some ⟨x3.heap.size, 0, none⟩) := slot_out (hin 7 (by decide)) rfl
    clear hin
    refine .inl ⟨wanted_none rfl, ?_⟩
    exact grow_load rfl (B2.out.mono hG) h7 rfl
  · intro a w1 hG hin
    have h28 : a.eval (.tmp 28) = V 2 1 E := slot_in (hin 28 (by decide)) rfl
    clear hin
    refine .inl ⟨wanted_none rfl, ?_⟩
    exact grow_call Tryd.call13 #[.string ⟨#[33]⟩, V 2 1 E] (by simp only [List.map_toArray, List.map_cons, List.map_nil, h28]; rfl) ((not_any (p := 0) (by decide) _).mono (by rintro e w2 ⟨rfl, hg⟩; exact ⟨_, rfl, hg, rfl⟩))
  · intro a w1 hG hin
    have h27 : a.eval (.tmp 27) = V 2 0 E := slot_in (hin 27 (by decide)) rfl
    have h29 : a.eval (.tmp 29) = V 2 0 E := slot_in (hin 29 (by decide)) rfl
    clear hin
    refine .inl ⟨wanted_none rfl, ?_⟩
    exact grow_call Tryd.call12 #[.string ⟨#[124, 124]⟩, V 2 0 E, V 2 0 E] (by simp only [List.map_toArray, List.map_cons, List.map_nil, h27, h29]; rfl) ((or_any (p := 0) (by decide) _).mono (by rintro e w2 ⟨rfl, hg⟩; exact ⟨_, rfl, hg, rfl⟩))
  · intro a w1 hG hin
    have h30 : a.eval (.tmp 30) = .tuple #[V 2 0 E, .int .i64 0] := slot_in (hin 30 (by decide)) rfl
    clear hin
    exact .inl ⟨wanted_none rfl, grow_move rfl h30⟩
  · intro a w1 hG hin
    have h25 : a.eval (.tmp 25) = .tuple #[V 2 0 E, .int .i64 0] := slot_in (hin 25 (by decide)) rfl
    clear hin
    refine .inl ⟨wanted_none rfl, ?_⟩
    exact grow_extract rfl h25 (.inl ⟨rfl, rfl⟩)
  · intro a w1 hG hin
    have h25 : a.eval (.tmp 25) = .tuple #[V 2 0 E, .int .i64 0] := slot_in (hin 25 (by decide)) rfl
    clear hin
    refine .inl ⟨wanted_none rfl, ?_⟩
    exact grow_extract rfl h25 (.inr ⟨rfl, rfl⟩)
  · intro a w1 hG hin
    clear hin
    refine .inl ⟨wanted_none rfl, ?_⟩
    refine grow_box (B := x4.heap.size + 1) rfl (by have h := hG.size; simpa using h) fun w9 h9 => ⟨_, rfl, (by have h := hG.size; simpa using h), h9⟩
  · intro s w2 l hG hl hs
    rw [show List.range 83 = [0, 1, 2, 3, 4, 5, 6, 7, 8, 9, 10, 11, 12, 13, 14, 15, 16, 17, 18, 19, 20, 21, 22, 23, 24, 25, 26, 27, 28, 29, 30, 31, 32, 33, 34, 35, 36, 37, 38, 39, 40, 41, 42, 43, 44, 45, 46, 47, 48, 49, 50, 51, 52, 53, 54, 55, 56, 57, 58, 59, 60, 61, 62, 63, 64, 65, 66, 67, 68, 69, 70, 71, 72, 73, 74, 75, 76, 77, 78, 79, 80, 81, 82] from rfl]
    simp only [List.map_cons, List.map_nil]
    rw [show List.range 83 = [0, 1, 2, 3, 4, 5, 6, 7, 8, 9, 10, 11, 12, 13, 14, 15, 16, 17, 18, 19, 20, 21, 22, 23, 24, 25, 26, 27, 28, 29, 30, 31, 32, 33, 34, 35, 36, 37, 38, 39, 40, 41, 42, 43, 44, 45, 46, 47, 48, 49, 50, 51, 52, 53, 54, 55, 56, 57, 58, 59, 60, 61, 62, 63, 64, 65, 66, 67, 68, 69, 70, 71, 72, 73, 74, 75, 76, 77, 78, 79, 80, 81, 82] from rfl] at hl hs
    simp only [List.map_cons, List.map_nil] at hl hs
    rcases hl with ⟨rfl, hin⟩ | ⟨rfl, hin⟩
    all_goals (
      have f0 : s 0 = .bool true := by first | exact (hs 0 (by decide)).symm.trans (slot_out (hin 0) rfl) | exact (hs 0 (by decide)).symm.trans (slot_out (hin 0 (fun e => absurd ((show writer _ _ 0 = none from rfl).symm.trans e) (by decide))) rfl)
      have f1 : s 1 = .bool true := by first | exact (hs 1 (by decide)).symm.trans (slot_out (hin 1) rfl) | exact (hs 1 (by decide)).symm.trans (slot_out (hin 1 (fun e => absurd ((show writer _ _ 1 = none from rfl).symm.trans e) (by decide))) rfl)
      have f2 : s 2 = undef := by first | exact (hs 2 (by decide)).symm.trans (slot_out (hin 2) rfl) | exact (hs 2 (by decide)).symm.trans (slot_out (hin 2 (fun e => absurd ((show writer _ _ 2 = none from rfl).symm.trans e) (by decide))) rfl)
      have f3 : s 3 = undef := by first | exact (hs 3 (by decide)).symm.trans (slot_out (hin 3) rfl) | exact (hs 3 (by decide)).symm.trans (slot_out (hin 3 (fun e => absurd ((show writer _ _ 3 = none from rfl).symm.trans e) (by decide))) rfl)
      have f4 : s 4 = .bool false := by first | exact (hs 4 (by decide)).symm.trans (slot_out (hin 4) rfl) | exact (hs 4 (by decide)).symm.trans (slot_out (hin 4 (fun e => absurd ((show writer _ _ 4 = none from rfl).symm.trans e) (by decide))) rfl)
      have f5 : s 5 = .bool true := by first | exact (hs 5 (by decide)).symm.trans (slot_out (hin 5) rfl) | exact (hs 5 (by decide)).symm.trans (slot_out (hin 5 (fun e => absurd ((show writer _ _ 5 = none from rfl).symm.trans e) (by decide))) rfl)
      have f6 : s 6 = .pointer (some ⟨x2.heap.size, 0, none⟩) := by first | exact (hs 6 (by decide)).symm.trans (slot_out (hin 6) rfl) | exact (hs 6 (by decide)).symm.trans (slot_out (hin 6 (fun e => absurd ((show writer _ _ 6 = none from rfl).symm.trans e) (by decide))) rfl)
      have f7 : s 7 = .pointer (some ⟨x3.heap.size, 0, none⟩) := by first | exact (hs 7 (by decide)).symm.trans (slot_out (hin 7) rfl) | exact (hs 7 (by decide)).symm.trans (slot_out (hin 7 (fun e => absurd ((show writer _ _ 7 = none from rfl).symm.trans e) (by decide))) rfl)
      have f8 : s 8 = .pointer (some ⟨x4.heap.size, 0, none⟩) := by first | exact (hs 8 (by decide)).symm.trans (slot_out (hin 8) rfl) | exact (hs 8 (by decide)).symm.trans (slot_out (hin 8 (fun e => absurd ((show writer _ _ 8 = none from rfl).symm.trans e) (by decide))) rfl)
      have f9 : s 9 = .int .i64 0 := by first | exact (hs 9 (by decide)).symm.trans (slot_out (hin 9) rfl) | exact (hs 9 (by decide)).symm.trans (slot_out (hin 9 (fun e => absurd ((show writer _ _ 9 = none from rfl).symm.trans e) (by decide))) rfl)
      have f10 : ∃ bb, s 10 = .pointer (some ⟨bb, 0, none⟩) ∧ x4.heap.size + 1 ≤ bb ∧ At w2 bb 0 0 E := by first | (have h := (slot_in (hin 10) rfl); rw [hs 10 (by decide)] at h; exact h) | (have h := (slot_in (hin 10 (fun e => absurd ((show writer _ _ 10 = some 8 from rfl).symm.trans e) (by decide))) rfl); rw [hs 10 (by decide)] at h; exact h)
      have f11 : s 11 = undef := by first | exact (hs 11 (by decide)).symm.trans (slot_out (hin 11) rfl) | exact (hs 11 (by decide)).symm.trans (slot_out (hin 11 (fun e => absurd ((show writer _ _ 11 = none from rfl).symm.trans e) (by decide))) rfl)
      have f12 : s 12 = undef := by first | exact (hs 12 (by decide)).symm.trans (slot_out (hin 12) rfl) | exact (hs 12 (by decide)).symm.trans (slot_out (hin 12 (fun e => absurd ((show writer _ _ 12 = none from rfl).symm.trans e) (by decide))) rfl)
      have f13 : s 13 = undef := by first | exact (hs 13 (by decide)).symm.trans (slot_out (hin 13) rfl) | exact (hs 13 (by decide)).symm.trans (slot_out (hin 13 (fun e => absurd ((show writer _ _ 13 = none from rfl).symm.trans e) (by decide))) rfl)
      have f14 : s 14 = .bool true := by first | exact (hs 14 (by decide)).symm.trans (slot_out (hin 14) rfl) | exact (hs 14 (by decide)).symm.trans (slot_out (hin 14 (fun e => absurd ((show writer _ _ 14 = none from rfl).symm.trans e) (by decide))) rfl)
      have f15 : s 15 = .bool true := by first | exact (hs 15 (by decide)).symm.trans (slot_out (hin 15) rfl) | exact (hs 15 (by decide)).symm.trans (slot_out (hin 15 (fun e => absurd ((show writer _ _ 15 = none from rfl).symm.trans e) (by decide))) rfl)
      have f16 : s 16 = V 2 1 E := by first | exact (hs 16 (by decide)).symm.trans (slot_out (hin 16) rfl) | exact (hs 16 (by decide)).symm.trans (slot_out (hin 16 (fun e => absurd ((show writer _ _ 16 = none from rfl).symm.trans e) (by decide))) rfl)
      have f17 : s 17 = .bool true := by first | exact (hs 17 (by decide)).symm.trans (slot_out (hin 17) rfl) | exact (hs 17 (by decide)).symm.trans (slot_out (hin 17 (fun e => absurd ((show writer _ _ 17 = none from rfl).symm.trans e) (by decide))) rfl)
      have f18 : s 18 = V 2 1 E := by first | exact (hs 18 (by decide)).symm.trans (slot_out (hin 18) rfl) | exact (hs 18 (by decide)).symm.trans (slot_out (hin 18 (fun e => absurd ((show writer _ _ 18 = none from rfl).symm.trans e) (by decide))) rfl)
      have f19 : s 19 = .tuple #[V 2 1 E, .int .i64 0] := by first | exact (hs 19 (by decide)).symm.trans (slot_out (hin 19) rfl) | exact (hs 19 (by decide)).symm.trans (slot_out (hin 19 (fun e => absurd ((show writer _ _ 19 = none from rfl).symm.trans e) (by decide))) rfl)
      have f20 : s 20 = V 2 1 E := by first | exact (hs 20 (by decide)).symm.trans (slot_out (hin 20) rfl) | exact (hs 20 (by decide)).symm.trans (slot_out (hin 20 (fun e => absurd ((show writer _ _ 20 = none from rfl).symm.trans e) (by decide))) rfl)
      have f21 : s 21 = V 2 1 E := by first | exact (hs 21 (by decide)).symm.trans (slot_out (hin 21) rfl) | exact (hs 21 (by decide)).symm.trans (slot_out (hin 21 (fun e => absurd ((show writer _ _ 21 = none from rfl).symm.trans e) (by decide))) rfl)
      have f22 : s 22 = .tuple #[V 2 1 E, .int .i64 0] := by first | exact (hs 22 (by decide)).symm.trans (slot_out (hin 22) rfl) | exact (hs 22 (by decide)).symm.trans (slot_out (hin 22 (fun e => absurd ((show writer _ _ 22 = none from rfl).symm.trans e) (by decide))) rfl)
      have f23 : s 23 = V 2 1 E := by first | exact (hs 23 (by decide)).symm.trans (slot_out (hin 23) rfl) | exact (hs 23 (by decide)).symm.trans (slot_out (hin 23 (fun e => absurd ((show writer _ _ 23 = none from rfl).symm.trans e) (by decide))) rfl)
      have f24 : s 24 = .int .i64 0 := by first | exact (hs 24 (by decide)).symm.trans (slot_out (hin 24) rfl) | exact (hs 24 (by decide)).symm.trans (slot_out (hin 24 (fun e => absurd ((show writer _ _ 24 = none from rfl).symm.trans e) (by decide))) rfl)
      have f25 : s 25 = .tuple #[V 2 0 E, .int .i64 0] := by first | exact (hs 25 (by decide)).symm.trans (slot_in (hin 25) rfl) | exact (hs 25 (by decide)).symm.trans (slot_in (hin 25 (fun e => absurd ((show writer _ _ 25 = some 5 from rfl).symm.trans e) (by decide))) rfl)
      have f31 : s 31 = V 2 0 E := by first | exact (hs 31 (by decide)).symm.trans (slot_in (hin 31) rfl) | exact (hs 31 (by decide)).symm.trans (slot_in (hin 31 (fun e => absurd ((show writer _ _ 31 = some 6 from rfl).symm.trans e) (by decide))) rfl)
      have f33 : s 33 = undef := by first | exact (hs 33 (by decide)).symm.trans (slot_out (hin 33) rfl) | exact (hs 33 (by decide)).symm.trans (slot_out (hin 33 (fun e => absurd ((show writer _ _ 33 = none from rfl).symm.trans e) (by decide))) rfl)
      have f34 : s 34 = undef := by first | exact (hs 34 (by decide)).symm.trans (slot_out (hin 34) rfl) | exact (hs 34 (by decide)).symm.trans (slot_out (hin 34 (fun e => absurd ((show writer _ _ 34 = none from rfl).symm.trans e) (by decide))) rfl)
      have f35 : s 35 = undef := by first | exact (hs 35 (by decide)).symm.trans (slot_out (hin 35) rfl) | exact (hs 35 (by decide)).symm.trans (slot_out (hin 35 (fun e => absurd ((show writer _ _ 35 = none from rfl).symm.trans e) (by decide))) rfl)
      have f36 : s 36 = undef := by first | exact (hs 36 (by decide)).symm.trans (slot_out (hin 36) rfl) | exact (hs 36 (by decide)).symm.trans (slot_out (hin 36 (fun e => absurd ((show writer _ _ 36 = none from rfl).symm.trans e) (by decide))) rfl)
      have f37 : s 37 = undef := by first | exact (hs 37 (by decide)).symm.trans (slot_out (hin 37) rfl) | exact (hs 37 (by decide)).symm.trans (slot_out (hin 37 (fun e => absurd ((show writer _ _ 37 = none from rfl).symm.trans e) (by decide))) rfl)
      have f38 : s 38 = undef := by first | exact (hs 38 (by decide)).symm.trans (slot_out (hin 38) rfl) | exact (hs 38 (by decide)).symm.trans (slot_out (hin 38 (fun e => absurd ((show writer _ _ 38 = none from rfl).symm.trans e) (by decide))) rfl)
      have f39 : s 39 = undef := by first | exact (hs 39 (by decide)).symm.trans (slot_out (hin 39) rfl) | exact (hs 39 (by decide)).symm.trans (slot_out (hin 39 (fun e => absurd ((show writer _ _ 39 = none from rfl).symm.trans e) (by decide))) rfl)
      have f40 : s 40 = undef := by first | exact (hs 40 (by decide)).symm.trans (slot_out (hin 40) rfl) | exact (hs 40 (by decide)).symm.trans (slot_out (hin 40 (fun e => absurd ((show writer _ _ 40 = none from rfl).symm.trans e) (by decide))) rfl)
      have f41 : s 41 = undef := by first | exact (hs 41 (by decide)).symm.trans (slot_out (hin 41) rfl) | exact (hs 41 (by decide)).symm.trans (slot_out (hin 41 (fun e => absurd ((show writer _ _ 41 = none from rfl).symm.trans e) (by decide))) rfl)
      have f42 : s 42 = undef := by first | exact (hs 42 (by decide)).symm.trans (slot_out (hin 42) rfl) | exact (hs 42 (by decide)).symm.trans (slot_out (hin 42 (fun e => absurd ((show writer _ _ 42 = none from rfl).symm.trans e) (by decide))) rfl)
      have f43 : s 43 = undef := by first | exact (hs 43 (by decide)).symm.trans (slot_out (hin 43) rfl) | exact (hs 43 (by decide)).symm.trans (slot_out (hin 43 (fun e => absurd ((show writer _ _ 43 = none from rfl).symm.trans e) (by decide))) rfl)
      have f44 : s 44 = undef := by first | exact (hs 44 (by decide)).symm.trans (slot_out (hin 44) rfl) | exact (hs 44 (by decide)).symm.trans (slot_out (hin 44 (fun e => absurd ((show writer _ _ 44 = none from rfl).symm.trans e) (by decide))) rfl)
      have f45 : s 45 = undef := by first | exact (hs 45 (by decide)).symm.trans (slot_out (hin 45) rfl) | exact (hs 45 (by decide)).symm.trans (slot_out (hin 45 (fun e => absurd ((show writer _ _ 45 = none from rfl).symm.trans e) (by decide))) rfl)
      have f46 : s 46 = undef := by first | exact (hs 46 (by decide)).symm.trans (slot_out (hin 46) rfl) | exact (hs 46 (by decide)).symm.trans (slot_out (hin 46 (fun e => absurd ((show writer _ _ 46 = none from rfl).symm.trans e) (by decide))) rfl)
      have f47 : s 47 = undef := by first | exact (hs 47 (by decide)).symm.trans (slot_out (hin 47) rfl) | exact (hs 47 (by decide)).symm.trans (slot_out (hin 47 (fun e => absurd ((show writer _ _ 47 = none from rfl).symm.trans e) (by decide))) rfl)
      have f48 : s 48 = undef := by first | exact (hs 48 (by decide)).symm.trans (slot_out (hin 48) rfl) | exact (hs 48 (by decide)).symm.trans (slot_out (hin 48 (fun e => absurd ((show writer _ _ 48 = none from rfl).symm.trans e) (by decide))) rfl)
      have f49 : s 49 = undef := by first | exact (hs 49 (by decide)).symm.trans (slot_out (hin 49) rfl) | exact (hs 49 (by decide)).symm.trans (slot_out (hin 49 (fun e => absurd ((show writer _ _ 49 = none from rfl).symm.trans e) (by decide))) rfl)
      have f50 : s 50 = undef := by first | exact (hs 50 (by decide)).symm.trans (slot_out (hin 50) rfl) | exact (hs 50 (by decide)).symm.trans (slot_out (hin 50 (fun e => absurd ((show writer _ _ 50 = none from rfl).symm.trans e) (by decide))) rfl)
      have f51 : s 51 = undef := by first | exact (hs 51 (by decide)).symm.trans (slot_out (hin 51) rfl) | exact (hs 51 (by decide)).symm.trans (slot_out (hin 51 (fun e => absurd ((show writer _ _ 51 = none from rfl).symm.trans e) (by decide))) rfl)
      have f52 : s 52 = undef := by first | exact (hs 52 (by decide)).symm.trans (slot_out (hin 52) rfl) | exact (hs 52 (by decide)).symm.trans (slot_out (hin 52 (fun e => absurd ((show writer _ _ 52 = none from rfl).symm.trans e) (by decide))) rfl)
      have f53 : s 53 = undef := by first | exact (hs 53 (by decide)).symm.trans (slot_out (hin 53) rfl) | exact (hs 53 (by decide)).symm.trans (slot_out (hin 53 (fun e => absurd ((show writer _ _ 53 = none from rfl).symm.trans e) (by decide))) rfl)
      have f54 : s 54 = undef := by first | exact (hs 54 (by decide)).symm.trans (slot_out (hin 54) rfl) | exact (hs 54 (by decide)).symm.trans (slot_out (hin 54 (fun e => absurd ((show writer _ _ 54 = none from rfl).symm.trans e) (by decide))) rfl)
      have f55 : s 55 = undef := by first | exact (hs 55 (by decide)).symm.trans (slot_out (hin 55) rfl) | exact (hs 55 (by decide)).symm.trans (slot_out (hin 55 (fun e => absurd ((show writer _ _ 55 = none from rfl).symm.trans e) (by decide))) rfl)
      have f56 : s 56 = undef := by first | exact (hs 56 (by decide)).symm.trans (slot_out (hin 56) rfl) | exact (hs 56 (by decide)).symm.trans (slot_out (hin 56 (fun e => absurd ((show writer _ _ 56 = none from rfl).symm.trans e) (by decide))) rfl)
      have f57 : s 57 = undef := by first | exact (hs 57 (by decide)).symm.trans (slot_out (hin 57) rfl) | exact (hs 57 (by decide)).symm.trans (slot_out (hin 57 (fun e => absurd ((show writer _ _ 57 = none from rfl).symm.trans e) (by decide))) rfl)
      have f58 : s 58 = undef := by first | exact (hs 58 (by decide)).symm.trans (slot_out (hin 58) rfl) | exact (hs 58 (by decide)).symm.trans (slot_out (hin 58 (fun e => absurd ((show writer _ _ 58 = none from rfl).symm.trans e) (by decide))) rfl)
      have f59 : s 59 = undef := by first | exact (hs 59 (by decide)).symm.trans (slot_out (hin 59) rfl) | exact (hs 59 (by decide)).symm.trans (slot_out (hin 59 (fun e => absurd ((show writer _ _ 59 = none from rfl).symm.trans e) (by decide))) rfl)
      have f60 : s 60 = undef := by first | exact (hs 60 (by decide)).symm.trans (slot_out (hin 60) rfl) | exact (hs 60 (by decide)).symm.trans (slot_out (hin 60 (fun e => absurd ((show writer _ _ 60 = none from rfl).symm.trans e) (by decide))) rfl)
      have f61 : s 61 = undef := by first | exact (hs 61 (by decide)).symm.trans (slot_out (hin 61) rfl) | exact (hs 61 (by decide)).symm.trans (slot_out (hin 61 (fun e => absurd ((show writer _ _ 61 = none from rfl).symm.trans e) (by decide))) rfl)
      have f62 : s 62 = undef := by first | exact (hs 62 (by decide)).symm.trans (slot_out (hin 62) rfl) | exact (hs 62 (by decide)).symm.trans (slot_out (hin 62 (fun e => absurd ((show writer _ _ 62 = none from rfl).symm.trans e) (by decide))) rfl)
      have f63 : s 63 = undef := by first | exact (hs 63 (by decide)).symm.trans (slot_out (hin 63) rfl) | exact (hs 63 (by decide)).symm.trans (slot_out (hin 63 (fun e => absurd ((show writer _ _ 63 = none from rfl).symm.trans e) (by decide))) rfl)
      have f64 : s 64 = undef := by first | exact (hs 64 (by decide)).symm.trans (slot_out (hin 64) rfl) | exact (hs 64 (by decide)).symm.trans (slot_out (hin 64 (fun e => absurd ((show writer _ _ 64 = none from rfl).symm.trans e) (by decide))) rfl)
      have f65 : s 65 = undef := by first | exact (hs 65 (by decide)).symm.trans (slot_out (hin 65) rfl) | exact (hs 65 (by decide)).symm.trans (slot_out (hin 65 (fun e => absurd ((show writer _ _ 65 = none from rfl).symm.trans e) (by decide))) rfl)
      have f66 : s 66 = undef := by first | exact (hs 66 (by decide)).symm.trans (slot_out (hin 66) rfl) | exact (hs 66 (by decide)).symm.trans (slot_out (hin 66 (fun e => absurd ((show writer _ _ 66 = none from rfl).symm.trans e) (by decide))) rfl)
      have f67 : s 67 = undef := by first | exact (hs 67 (by decide)).symm.trans (slot_out (hin 67) rfl) | exact (hs 67 (by decide)).symm.trans (slot_out (hin 67 (fun e => absurd ((show writer _ _ 67 = none from rfl).symm.trans e) (by decide))) rfl)
      have f68 : s 68 = undef := by first | exact (hs 68 (by decide)).symm.trans (slot_out (hin 68) rfl) | exact (hs 68 (by decide)).symm.trans (slot_out (hin 68 (fun e => absurd ((show writer _ _ 68 = none from rfl).symm.trans e) (by decide))) rfl)
      have f69 : s 69 = undef := by first | exact (hs 69 (by decide)).symm.trans (slot_out (hin 69) rfl) | exact (hs 69 (by decide)).symm.trans (slot_out (hin 69 (fun e => absurd ((show writer _ _ 69 = none from rfl).symm.trans e) (by decide))) rfl)
      have f70 : s 70 = undef := by first | exact (hs 70 (by decide)).symm.trans (slot_out (hin 70) rfl) | exact (hs 70 (by decide)).symm.trans (slot_out (hin 70 (fun e => absurd ((show writer _ _ 70 = none from rfl).symm.trans e) (by decide))) rfl)
      have f71 : s 71 = undef := by first | exact (hs 71 (by decide)).symm.trans (slot_out (hin 71) rfl) | exact (hs 71 (by decide)).symm.trans (slot_out (hin 71 (fun e => absurd ((show writer _ _ 71 = none from rfl).symm.trans e) (by decide))) rfl)
      have f72 : s 72 = undef := by first | exact (hs 72 (by decide)).symm.trans (slot_out (hin 72) rfl) | exact (hs 72 (by decide)).symm.trans (slot_out (hin 72 (fun e => absurd ((show writer _ _ 72 = none from rfl).symm.trans e) (by decide))) rfl)
      have f73 : s 73 = undef := by first | exact (hs 73 (by decide)).symm.trans (slot_out (hin 73) rfl) | exact (hs 73 (by decide)).symm.trans (slot_out (hin 73 (fun e => absurd ((show writer _ _ 73 = none from rfl).symm.trans e) (by decide))) rfl)
      have f74 : s 74 = undef := by first | exact (hs 74 (by decide)).symm.trans (slot_out (hin 74) rfl) | exact (hs 74 (by decide)).symm.trans (slot_out (hin 74 (fun e => absurd ((show writer _ _ 74 = none from rfl).symm.trans e) (by decide))) rfl)
      have f75 : s 75 = undef := by first | exact (hs 75 (by decide)).symm.trans (slot_out (hin 75) rfl) | exact (hs 75 (by decide)).symm.trans (slot_out (hin 75 (fun e => absurd ((show writer _ _ 75 = none from rfl).symm.trans e) (by decide))) rfl)
      have f76 : s 76 = undef := by first | exact (hs 76 (by decide)).symm.trans (slot_out (hin 76) rfl) | exact (hs 76 (by decide)).symm.trans (slot_out (hin 76 (fun e => absurd ((show writer _ _ 76 = none from rfl).symm.trans e) (by decide))) rfl)
      have f77 : s 77 = undef := by first | exact (hs 77 (by decide)).symm.trans (slot_out (hin 77) rfl) | exact (hs 77 (by decide)).symm.trans (slot_out (hin 77 (fun e => absurd ((show writer _ _ 77 = none from rfl).symm.trans e) (by decide))) rfl)
      have f78 : s 78 = undef := by first | exact (hs 78 (by decide)).symm.trans (slot_out (hin 78) rfl) | exact (hs 78 (by decide)).symm.trans (slot_out (hin 78 (fun e => absurd ((show writer _ _ 78 = none from rfl).symm.trans e) (by decide))) rfl)
      have f79 : s 79 = undef := by first | exact (hs 79 (by decide)).symm.trans (slot_out (hin 79) rfl) | exact (hs 79 (by decide)).symm.trans (slot_out (hin 79 (fun e => absurd ((show writer _ _ 79 = none from rfl).symm.trans e) (by decide))) rfl)
      have f80 : s 80 = undef := by first | exact (hs 80 (by decide)).symm.trans (slot_out (hin 80) rfl) | exact (hs 80 (by decide)).symm.trans (slot_out (hin 80 (fun e => absurd ((show writer _ _ 80 = none from rfl).symm.trans e) (by decide))) rfl)
      have f81 : s 81 = undef := by first | exact (hs 81 (by decide)).symm.trans (slot_out (hin 81) rfl) | exact (hs 81 (by decide)).symm.trans (slot_out (hin 81 (fun e => absurd ((show writer _ _ 81 = none from rfl).symm.trans e) (by decide))) rfl)
      have f82 : s 82 = undef := by first | exact (hs 82 (by decide)).symm.trans (slot_out (hin 82) rfl) | exact (hs 82 (by decide)).symm.trans (slot_out (hin 82 (fun e => absurd ((show writer _ _ 82 = none from rfl).symm.trans e) (by decide))) rfl)
      (try (have f32 : s 32 = .int .i64 0 := (hs 32 (by decide)).symm.trans (slot_in (hin 32) rfl); rw [f32]; clear f32))
      clear hin hs
      rw [f0, f1, f2, f3, f4, f5, f6, f7, f8, f9, f11, f12, f13, f14, f15, f16, f17, f18, f19, f20, f21, f22, f23, f24, f25, f31, f33, f34, f35, f36, f37, f38, f39, f40, f41, f42, f43, f44, f45, f46, f47, f48, f49, f50, f51, f52, f53, f54, f55, f56, f57, f58, f59, f60, f61, f62, f63, f64, f65, f66, f67, f68, f69, f70, f71, f72, f73, f74, f75, f76, f77, f78, f79, f80, f81, f82]
      obtain ⟨bb, e10, hbb, hA⟩ := f10
      rw [e10]
      clear e10 f0 f1 f2 f3 f4 f5 f6 f7 f8 f9 f11 f12 f13 f14 f15 f16 f17 f18 f19 f20 f21 f22 f23 f24 f25 f31 f33 f34 f35 f36 f37 f38 f39 f40 f41 f42 f43 f44 f45 f46 f47 f48 f49 f50 f51 f52 f53 f54 f55 f56 f57 f58 f59 f60 f61 f62 f63 f64 f65 f66 f67 f68 f69 f70 f71 f72 f73 f74 f75 f76 f77 f78 f79 f80 f81 f82
      simp only [V, E]
      have NB := hid hA
      obtain ⟨l9, p9, q9, r9, f9⟩ := hA
      simp only [List.drop_succ_cons, List.drop_zero]
      go_upto_region 6 with (fail)
      clear l9 p9 q9 r9 f9
      have s1 := B1.out.lt
      have s2 := B2.out.lt
      have s3 := B3.out.lt
      have sw := HG.out.size
      simp at s1 s2 s3 sw
      have C1 := keep (B1.out.mono hG) (c := bb) (by omega) 2 0 ⟨#[]⟩
      have C2 := keep (B2.out.mono hG) (c := bb) (by omega) 2 0 ⟨#[]⟩
      have C3 := keep (B3.out.mono hG) (c := bb) (by omega) 2 0 ⟨#[]⟩
      have CN := NB.out.set 2 0 ⟨#[]⟩
      have CG := G.set (G.set (G.set (HG.out.trans hG) (p := ⟨bb, 0, none⟩) (by simp; omega) (.int .i64 2)) (p := ⟨bb, 1, none⟩) (by simp; omega) (.int .i64 0)) (p := ⟨bb, 2, none⟩) (by simp; omega) (.string ⟨#[]⟩)
      generalize ((w2.setCell ⟨bb, 0, none⟩ (.int .i64 2)).setCell ⟨bb, 1, none⟩ (.int .i64 0)).setCell ⟨bb, 2, none⟩ (.string ⟨#[]⟩) = y at C1 C2 C3 CN CG ⊢
      replace B1 := hid C1
      replace B2 := hid C2
      replace B3 := hid C3
      have B4 := hid CN
      replace HG := hid CG
      clear C1 C2 C3 CN CG NB hG s1 s2 s3 sw hbb
      obtain ⟨l1, p1, q1, r1, f1⟩ := B1.out
      obtain ⟨l2, p2, q2, r2, f2⟩ := B2.out
      obtain ⟨l3, p3, q3, r3, f3⟩ := B3.out
      obtain ⟨l4, p4, q4, r4, f4⟩ := B4.out
      go_wp2_with fail
      refine (or_any (p := 1) (by decide) _).mono ?_
      rintro e x5 ⟨rfl, g5⟩
      (try simp only [R.v, R.u, V])
      clear l1 p1 q1 r1 f1
      clear l2 p2 q2 r2 f2
      clear l3 p3 q3 r3 f3
      clear l4 p4 q4 r4 f4
      have h5 : G y x5 := g5
      replace B1 := hid (B1.out.mono h5)
      replace B2 := hid (B2.out.mono h5)
      replace B3 := hid (B3.out.mono h5)
      replace B4 := hid (B4.out.mono h5)
      replace HG := hid (HG.out.trans h5)
      clear h5 g5
      obtain ⟨l1, p1, q1, r1, f1⟩ := B1.out
      obtain ⟨l2, p2, q2, r2, f2⟩ := B2.out
      obtain ⟨l3, p3, q3, r3, f3⟩ := B3.out
      obtain ⟨l4, p4, q4, r4, f4⟩ := B4.out
      have B5 := hid (At.alloc x5 2 1 E)
      replace B1 := hid (B1.out.more (.cells #[.int .i64 2, .int .i64 1, .string ⟨#[]⟩] 24))
      replace B2 := hid (B2.out.more (.cells #[.int .i64 2, .int .i64 1, .string ⟨#[]⟩] 24))
      replace B3 := hid (B3.out.more (.cells #[.int .i64 2, .int .i64 1, .string ⟨#[]⟩] 24))
      replace B4 := hid (B4.out.more (.cells #[.int .i64 2, .int .i64 1, .string ⟨#[]⟩] 24))
      replace HG := hid (HG.out.alloc (.cells #[.int .i64 2, .int .i64 1, .string ⟨#[]⟩] 24))
      go_upto_region 7 with (fail)
      clear l1 p1 q1 r1 f1 l2 p2 q2 r2 f2 l3 p3 q3 r3 f3 l4 p4 q4 r4 f4
      refine wp_region_grows (says [Say.is (.bool true), Say.is (.bool true), Say.is (.int .i64 0), Say.is (.bool true), Say.is (.bool true), Say.is (.bool true), Say.is (.int .i64 0), Say.is (.bool true), Say.is (.bool true), Say.is (.bool true), Say.is (.int .i64 0), Say.is (.bool true), Say.is (.bool true), Say.is (.bool true), Say.is (V 2 1 E), Say.is (V 2 0 E), Say.is (V 2 0 E), Say.is (.bool true), Say.is (.bool true), Say.is (.bool true), Say.is (V 2 1 E), Say.is (V 2 0 E), Say.is (V 2 1 E), Say.is (V 2 1 E), Say.is (.bool true), Say.is (.bool true), Say.is (.bool true), Say.is (V 2 1 E), Say.is (.bool true), Say.is (.bool true), Say.is (.bool true), Say.is (.bool true), Say.is (V 2 1 E), Say.is (.bool true), Say.is (.bool true), Say.is (.bool true), Say.is (V 2 1 E), Say.is (.bool true), Say.is (.bool true), Say.is (undef), Say.is (.bool true), Say.is (V 2 1 E), Say.is (.bool true), Say.is (.bool true), Say.is (.bool true)]) 83 (by kernel_rfl) (by kernel_rfl) rfl (says_mono _) (allSteps_take ⟨?_, ?_, ?_, ?_, ?_, ?_, ?_, ?_, ?_, ?_, ?_, ?_, ?_, ?_, ?_, ?_, ?_, ?_, ?_, ?_, ?_, ?_, ?_, ?_, ?_, ?_, ?_, ?_, ?_, ?_, ?_, ?_, ?_, ?_, ?_, ?_, ?_, ?_, ?_, ?_, ?_, ?_, ?_, ?_, ?_, trivial⟩) ?_
      · intro a w1 hG hin
        have h5 : a.eval (.tmp 5) = .bool true := slot_out (hin 5 (by decide)) rfl
        clear hin
        exact .inl ⟨wanted_none rfl, grow_move rfl h5⟩
      · intro a w1 hG hin
        have h39 : a.eval (.tmp 39) = .bool true := slot_in (hin 39 (by decide)) rfl
        clear hin
        exact .inl ⟨wanted_none rfl, grow_move rfl h39⟩
      · intro a w1 hG hin
        have h9 : a.eval (.tmp 9) = .int .i64 0 := slot_out (hin 9 (by decide)) rfl
        have h40 : a.eval (.tmp 40) = .bool true := slot_in (hin 40 (by decide)) rfl
        clear hin
        exact .inl ⟨wanted_yes rfl rfl h40, grow_move rfl h9⟩
      · intro a w1 hG hin
        have h41 : a.eval (.tmp 41) = .int .i64 0 := slot_in (hin 41 (by decide)) rfl
        have h40 : a.eval (.tmp 40) = .bool true := slot_in (hin 40 (by decide)) rfl
        clear hin
        refine .inl ⟨wanted_yes rfl rfl h40, ?_⟩
        exact grow_eqint rfl h41 rfl rfl
      · intro a w1 hG hin
        have h40 : a.eval (.tmp 40) = .bool true := slot_in (hin 40 (by decide)) rfl
        have h42 : a.eval (.tmp 42) = .bool true := slot_in (hin 42 (by decide)) rfl
        clear hin
        exact .inl ⟨wanted_none rfl, grow_pick rfl h40 h42⟩
      · intro a w1 hG hin
        have h43 : a.eval (.tmp 43) = .bool true := slot_in (hin 43 (by decide)) rfl
        clear hin
        exact .inl ⟨wanted_none rfl, grow_move rfl h43⟩
      · intro a w1 hG hin
        have h11 : a.eval (.tmp 11) = .int .i64 0 := slot_out (hin 11 (by decide)) rfl
        have h44 : a.eval (.tmp 44) = .bool true := slot_in (hin 44 (by decide)) rfl
        clear hin
        exact .inl ⟨wanted_yes rfl rfl h44, grow_move rfl h11⟩
      · intro a w1 hG hin
        have h45 : a.eval (.tmp 45) = .int .i64 0 := slot_in (hin 45 (by decide)) rfl
        have h44 : a.eval (.tmp 44) = .bool true := slot_in (hin 44 (by decide)) rfl
        clear hin
        refine .inl ⟨wanted_yes rfl rfl h44, ?_⟩
        exact grow_eqint rfl h45 rfl rfl
      · intro a w1 hG hin
        have h44 : a.eval (.tmp 44) = .bool true := slot_in (hin 44 (by decide)) rfl
        have h46 : a.eval (.tmp 46) = .bool true := slot_in (hin 46 (by decide)) rfl
        clear hin
        exact .inl ⟨wanted_none rfl, grow_pick rfl h44 h46⟩
      · intro a w1 hG hin
        have h47 : a.eval (.tmp 47) = .bool true := slot_in (hin 47 (by decide)) rfl
        clear hin
        exact .inl ⟨wanted_none rfl, grow_move rfl h47⟩
      · intro a w1 hG hin
        have h13 : a.eval (.tmp 13) = .int .i64 0 := slot_out (hin 13 (by decide)) rfl
        have h48 : a.eval (.tmp 48) = .bool true := slot_in (hin 48 (by decide)) rfl
        clear hin
        exact .inl ⟨wanted_yes rfl rfl h48, grow_move rfl h13⟩
      · intro a w1 hG hin
        have h49 : a.eval (.tmp 49) = .int .i64 0 := slot_in (hin 49 (by decide)) rfl
        have h48 : a.eval (.tmp 48) = .bool true := slot_in (hin 48 (by decide)) rfl
        clear hin
        refine .inl ⟨wanted_yes rfl rfl h48, ?_⟩
        exact grow_eqint rfl h49 rfl rfl
      · intro a w1 hG hin
        have h48 : a.eval (.tmp 48) = .bool true := slot_in (hin 48 (by decide)) rfl
        have h50 : a.eval (.tmp 50) = .bool true := slot_in (hin 50 (by decide)) rfl
        clear hin
        exact .inl ⟨wanted_none rfl, grow_pick rfl h48 h50⟩
      · intro a w1 hG hin
        have h51 : a.eval (.tmp 51) = .bool true := slot_in (hin 51 (by decide)) rfl
        clear hin
        exact .inl ⟨wanted_none rfl, grow_move rfl h51⟩
      · intro a w1 hG hin
        have h8 : a.eval (.tmp 8) = .pointer (some ⟨x4.heap.size, 0, none⟩) := slot_out (hin 8 (by decide)) rfl
        have h52 : a.eval (.tmp 52) = .bool true := slot_in (hin 52 (by decide)) rfl
        clear hin
        refine .inl ⟨wanted_yes rfl rfl h52, ?_⟩
        exact grow_load rfl (B3.out.mono hG) h8 rfl
      · intro a w1 hG hin
        have h53 : a.eval (.tmp 53) = V 2 1 E := slot_in (hin 53 (by decide)) rfl
        have h52 : a.eval (.tmp 52) = .bool true := slot_in (hin 52 (by decide)) rfl
        clear hin
        refine .inl ⟨wanted_yes rfl rfl h52, ?_⟩
        exact grow_call Tryd.call13 #[.string ⟨#[33]⟩, V 2 1 E] (by simp only [List.map_toArray, List.map_cons, List.map_nil, h53]; rfl) ((not_any (p := 0) (by decide) _).mono (by rintro e w2 ⟨rfl, hg⟩; exact ⟨_, rfl, hg, rfl⟩))
      · intro a w1 hG hin
        have h10 : a.eval (.tmp 10) = .pointer (some ⟨bb, 0, none⟩) := slot_out (hin 10 (by decide)) rfl
        have h52 : a.eval (.tmp 52) = .bool true := slot_in (hin 52 (by decide)) rfl
        clear hin
        refine .inl ⟨wanted_yes rfl rfl h52, ?_⟩
        exact grow_load rfl (B4.out.mono hG) h10 rfl
      · intro a w1 hG hin
        have h54 : a.eval (.tmp 54) = V 2 0 E := slot_in (hin 54 (by decide)) rfl
        have h55 : a.eval (.tmp 55) = V 2 0 E := slot_in (hin 55 (by decide)) rfl
        have h52 : a.eval (.tmp 52) = .bool true := slot_in (hin 52 (by decide)) rfl
        clear hin
        refine .inl ⟨wanted_yes rfl rfl h52, ?_⟩
        exact grow_eqV rfl h54 h55 (congrArg Value.bool (by simp [sameV]))
      · intro a w1 hG hin
        have h52 : a.eval (.tmp 52) = .bool true := slot_in (hin 52 (by decide)) rfl
        have h56 : a.eval (.tmp 56) = .bool true := slot_in (hin 56 (by decide)) rfl
        clear hin
        exact .inl ⟨wanted_none rfl, grow_pick rfl h52 h56⟩
      · intro a w1 hG hin
        have h57 : a.eval (.tmp 57) = .bool true := slot_in (hin 57 (by decide)) rfl
        clear hin
        exact .inl ⟨wanted_none rfl, grow_move rfl h57⟩
      · intro a w1 hG hin
        have h6 : a.eval (.tmp 6) = .pointer (some ⟨x2.heap.size, 0, none⟩) := slot_out (hin 6 (by decide)) rfl
        have h58 : a.eval (.tmp 58) = .bool true := slot_in (hin 58 (by decide)) rfl
        clear hin
        refine .inl ⟨wanted_yes rfl rfl h58, ?_⟩
        exact grow_load rfl (B1.out.mono hG) h6 rfl
      · intro a w1 hG hin
        have h59 : a.eval (.tmp 59) = V 2 1 E := slot_in (hin 59 (by decide)) rfl
        have h58 : a.eval (.tmp 58) = .bool true := slot_in (hin 58 (by decide)) rfl
        clear hin
        refine .inl ⟨wanted_yes rfl rfl h58, ?_⟩
        exact grow_call Tryd.call13 #[.string ⟨#[33]⟩, V 2 1 E] (by simp only [List.map_toArray, List.map_cons, List.map_nil, h59]; rfl) ((not_any (p := 0) (by decide) _).mono (by rintro e w2 ⟨rfl, hg⟩; exact ⟨_, rfl, hg, rfl⟩))
      · intro a w1 hG hin
        have h60 : a.eval (.tmp 60) = V 2 0 E := slot_in (hin 60 (by decide)) rfl
        have h58 : a.eval (.tmp 58) = .bool true := slot_in (hin 58 (by decide)) rfl
        clear hin
        refine .inl ⟨wanted_yes rfl rfl h58, ?_⟩
        exact grow_call Tryd.call13 #[.string ⟨#[33]⟩, V 2 0 E] (by simp only [List.map_toArray, List.map_cons, List.map_nil, h60]; rfl) ((not_any (p := 1) (by decide) _).mono (by rintro e w2 ⟨rfl, hg⟩; exact ⟨_, rfl, hg, rfl⟩))
      · intro a w1 hG hin
        have h6 : a.eval (.tmp 6) = .pointer (some ⟨x2.heap.size, 0, none⟩) := slot_out (hin 6 (by decide)) rfl
        have h58 : a.eval (.tmp 58) = .bool true := slot_in (hin 58 (by decide)) rfl
        clear hin
        refine .inl ⟨wanted_yes rfl rfl h58, ?_⟩
        exact grow_load rfl (B1.out.mono hG) h6 rfl
      · intro a w1 hG hin
        have h61 : a.eval (.tmp 61) = V 2 1 E := slot_in (hin 61 (by decide)) rfl
        have h62 : a.eval (.tmp 62) = V 2 1 E := slot_in (hin 62 (by decide)) rfl
        have h58 : a.eval (.tmp 58) = .bool true := slot_in (hin 58 (by decide)) rfl
        clear hin
        refine .inl ⟨wanted_yes rfl rfl h58, ?_⟩
        exact grow_eqV rfl h61 h62 (congrArg Value.bool (by simp [sameV]))
      · intro a w1 hG hin
        have h58 : a.eval (.tmp 58) = .bool true := slot_in (hin 58 (by decide)) rfl
        have h63 : a.eval (.tmp 63) = .bool true := slot_in (hin 63 (by decide)) rfl
        clear hin
        exact .inl ⟨wanted_none rfl, grow_pick rfl h58 h63⟩
      · intro a w1 hG hin
        have h64 : a.eval (.tmp 64) = .bool true := slot_in (hin 64 (by decide)) rfl
        clear hin
        exact .inl ⟨wanted_none rfl, grow_move rfl h64⟩
      · intro a w1 hG hin
        have h8 : a.eval (.tmp 8) = .pointer (some ⟨x4.heap.size, 0, none⟩) := slot_out (hin 8 (by decide)) rfl
        have h65 : a.eval (.tmp 65) = .bool true := slot_in (hin 65 (by decide)) rfl
        clear hin
        refine .inl ⟨wanted_yes rfl rfl h65, ?_⟩
        exact grow_load rfl (B3.out.mono hG) h8 rfl
      · intro a w1 hG hin
        have h0 : a.eval (.tmp 0) = .bool true := slot_out (hin 0 (by decide)) rfl
        have h65 : a.eval (.tmp 65) = .bool true := slot_in (hin 65 (by decide)) rfl
        clear hin
        exact .inl ⟨wanted_yes rfl rfl h65, grow_move rfl h0⟩
      · intro a w1 hG hin
        have h67 : a.eval (.tmp 67) = .bool true := slot_in (hin 67 (by decide)) rfl
        have h65 : a.eval (.tmp 65) = .bool true := slot_in (hin 65 (by decide)) rfl
        clear hin
        exact .inl ⟨wanted_yes rfl rfl h65, grow_move rfl h67⟩
      · intro a w1 hG hin
        have h1 : a.eval (.tmp 1) = .bool true := slot_out (hin 1 (by decide)) rfl
        have h68 : a.eval (.tmp 68) = .bool true := slot_in (hin 68 (by decide)) rfl
        clear hin
        exact .inl ⟨wanted_yes rfl rfl h68, grow_move rfl h1⟩
      · intro a w1 hG hin
        have h68 : a.eval (.tmp 68) = .bool true := slot_in (hin 68 (by decide)) rfl
        have h69 : a.eval (.tmp 69) = .bool true := slot_in (hin 69 (by decide)) rfl
        have h65 : a.eval (.tmp 65) = .bool true := slot_in (hin 65 (by decide)) rfl
        clear hin
        exact .inl ⟨wanted_yes rfl rfl h65, grow_pick rfl h68 h69⟩
      · intro a w1 hG hin
        have h70 : a.eval (.tmp 70) = .bool true := slot_in (hin 70 (by decide)) rfl
        have h65 : a.eval (.tmp 65) = .bool true := slot_in (hin 65 (by decide)) rfl
        clear hin
        refine .inl ⟨wanted_yes rfl rfl h65, ?_⟩
        exact grow_call Tryd.call14 #[.bool true] (by simp only [List.map_toArray, List.map_cons, List.map_nil, h70]) ((truth_any (p := 1) (by decide) _).mono (by rintro e w2 ⟨rfl, hg⟩; exact ⟨_, rfl, hg, rfl⟩))
      · intro a w1 hG hin
        have h66 : a.eval (.tmp 66) = V 2 1 E := slot_in (hin 66 (by decide)) rfl
        have h71 : a.eval (.tmp 71) = V 2 1 E := slot_in (hin 71 (by decide)) rfl
        have h65 : a.eval (.tmp 65) = .bool true := slot_in (hin 65 (by decide)) rfl
        clear hin
        refine .inl ⟨wanted_yes rfl rfl h65, ?_⟩
        exact grow_eqV rfl h66 h71 (congrArg Value.bool (by simp [sameV]))
      · intro a w1 hG hin
        have h65 : a.eval (.tmp 65) = .bool true := slot_in (hin 65 (by decide)) rfl
        have h72 : a.eval (.tmp 72) = .bool true := slot_in (hin 72 (by decide)) rfl
        clear hin
        exact .inl ⟨wanted_none rfl, grow_pick rfl h65 h72⟩
      · intro a w1 hG hin
        have h73 : a.eval (.tmp 73) = .bool true := slot_in (hin 73 (by decide)) rfl
        clear hin
        exact .inl ⟨wanted_none rfl, grow_move rfl h73⟩
      · intro a w1 hG hin
        have h12 : a.eval (.tmp 12) = .pointer (some ⟨x5.heap.size, 0, none⟩) := slot_out (hin 12 (by decide)) rfl
        have h74 : a.eval (.tmp 74) = .bool true := slot_in (hin 74 (by decide)) rfl
        clear hin
        refine .inl ⟨wanted_yes rfl rfl h74, ?_⟩
        exact grow_load rfl (B5.out.mono hG) h12 rfl
      · intro a w1 hG hin
        have h0 : a.eval (.tmp 0) = .bool true := slot_out (hin 0 (by decide)) rfl
        have h74 : a.eval (.tmp 74) = .bool true := slot_in (hin 74 (by decide)) rfl
        clear hin
        exact .inl ⟨wanted_yes rfl rfl h74, grow_move rfl h0⟩
      · intro a w1 hG hin
        have h76 : a.eval (.tmp 76) = .bool true := slot_in (hin 76 (by decide)) rfl
        have h74 : a.eval (.tmp 74) = .bool true := slot_in (hin 74 (by decide)) rfl
        clear hin
        exact .inl ⟨wanted_yes rfl rfl h74, grow_move rfl h76⟩
      · intro a w1 hG hin
        have h1 : a.eval (.tmp 1) = .bool true := slot_out (hin 1 (by decide)) rfl
        have h77 : a.eval (.tmp 77) = .bool true := slot_in (hin 77 (by decide)) rfl
        clear hin
        exact .inr ⟨wanted_no rfl rfl h77, fun _ _ => rfl⟩
      · intro a w1 hG hin
        have h77 : a.eval (.tmp 77) = .bool true := slot_in (hin 77 (by decide)) rfl
        have h78 : a.eval (.tmp 78) = undef := slot_in (hin 78 (by decide)) rfl
        have h74 : a.eval (.tmp 74) = .bool true := slot_in (hin 74 (by decide)) rfl
        clear hin
        exact .inl ⟨wanted_yes rfl rfl h74, grow_pick rfl h77 rfl⟩
      · intro a w1 hG hin
        have h79 : a.eval (.tmp 79) = .bool true := slot_in (hin 79 (by decide)) rfl
        have h74 : a.eval (.tmp 74) = .bool true := slot_in (hin 74 (by decide)) rfl
        clear hin
        refine .inl ⟨wanted_yes rfl rfl h74, ?_⟩
        exact grow_call Tryd.call14 #[.bool true] (by simp only [List.map_toArray, List.map_cons, List.map_nil, h79]) ((truth_any (p := 1) (by decide) _).mono (by rintro e w2 ⟨rfl, hg⟩; exact ⟨_, rfl, hg, rfl⟩))
      · intro a w1 hG hin
        have h75 : a.eval (.tmp 75) = V 2 1 E := slot_in (hin 75 (by decide)) rfl
        have h80 : a.eval (.tmp 80) = V 2 1 E := slot_in (hin 80 (by decide)) rfl
        have h74 : a.eval (.tmp 74) = .bool true := slot_in (hin 74 (by decide)) rfl
        clear hin
        refine .inl ⟨wanted_yes rfl rfl h74, ?_⟩
        exact grow_eqV rfl h75 h80 (congrArg Value.bool (by simp [sameV]))
      · intro a w1 hG hin
        have h74 : a.eval (.tmp 74) = .bool true := slot_in (hin 74 (by decide)) rfl
        have h81 : a.eval (.tmp 81) = .bool true := slot_in (hin 81 (by decide)) rfl
        clear hin
        exact .inl ⟨wanted_none rfl, grow_pick rfl h74 h81⟩
      · intro a w1 hG hin
        have h82 : a.eval (.tmp 82) = .bool true := slot_in (hin 82 (by decide)) rfl
        clear hin
        exact .inl ⟨wanted_none rfl, grow_assign rfl h82⟩
      · intro s w3 hG hin hs
        have f4 : s 4 = .bool true := (hs 4 (by decide)).symm.trans (slot_in (hin 4) rfl)
        clear hin hs
        rw [show List.range 83 = [0, 1, 2, 3, 4, 5, 6, 7, 8, 9, 10, 11, 12, 13, 14, 15, 16, 17, 18, 19, 20, 21, 22, 23, 24, 25, 26, 27, 28, 29, 30, 31, 32, 33, 34, 35, 36, 37, 38, 39, 40, 41, 42, 43, 44, 45, 46, 47, 48, 49, 50, 51, 52, 53, 54, 55, 56, 57, 58, 59, 60, 61, 62, 63, 64, 65, 66, 67, 68, 69, 70, 71, 72, 73, 74, 75, 76, 77, 78, 79, 80, 81, 82] from rfl]
        simp only [List.map_cons, List.map_nil]
        rw [f4]
        go_wp2_with fail
        go_ret
        exact ⟨rfl, HG.out.trans hG⟩)

set_option maxRecDepth 100000 in
set_option maxHeartbeats 4000000 in
theorem logic_TF (w : World) : Calls Tryd.prog 6 #[.bool true, .bool false] w fun e w' => e = .returned (.bool true) ∧ G w w' := by
  go_enter Tryd.func6, Tryd.ntmps6
  go_wp2_with fail
  refine (shown_any _).mono ?_
  rintro e x1 ⟨rfl, g1⟩
  (try simp only [R.v, R.u, V])
  have h1 : G w x1 := g1
  have HG := hid h1
  clear h1 g1
  go_wp2_with fail
  refine (truth_any (p := 1) rfl _).mono ?_
  rintro e x2 ⟨rfl, g2⟩
  (try simp only [R.v, R.u, V])
  have h2 : G x1 x2 := g2
  replace HG := hid (HG.out.trans h2)
  clear h2 g2
  go_wp2_with fail
  refine (truth_any (p := 0) rfl _).mono ?_
  rintro e x3 ⟨rfl, g3⟩
  (try simp only [R.v, R.u, V])
  have h3 : G x2 x3 := ((G.refl _).alloc _).trans g3
  have B1 := hid (At.after g3)
  replace HG := hid (HG.out.trans h3)
  clear h3 g3
  obtain ⟨l1, p1, q1, r1, f1⟩ := B1.out
  go_wp2_with fail
  refine (and_any (p := 0) (by decide) _).mono ?_
  rintro e x4 ⟨rfl, g4⟩
  (try simp only [R.v, R.u, V])
  clear l1 p1 q1 r1 f1
  have h4 : G x3 x4 := ((G.refl _).alloc _).trans g4
  replace B1 := hid (B1.out.mono h4)
  have B2 := hid (At.after g4)
  replace HG := hid (HG.out.trans h4)
  clear h4 g4
  obtain ⟨l1, p1, q1, r1, f1⟩ := B1.out
  obtain ⟨l2, p2, q2, r2, f2⟩ := B2.out
  have B3 := hid (At.alloc x4 2 0 E)
  replace B1 := hid (B1.out.more (.cells #[.int .i64 2, .int .i64 0, .string ⟨#[]⟩] 24))
  replace B2 := hid (B2.out.more (.cells #[.int .i64 2, .int .i64 0, .string ⟨#[]⟩] 24))
  replace HG := hid (HG.out.alloc (.cells #[.int .i64 2, .int .i64 0, .string ⟨#[]⟩] 24))
  go_upto_region 5 with (fail)
  clear l1 p1 q1 r1 f1 l2 p2 q2 r2 f2
  refine wp_region_late (says [Say.is (V 2 1 E), Say.is (V 2 0 E), Say.is (V 2 0 E), Say.is (V 2 1 E), Say.is (.tuple #[V 2 1 E, .int .i64 0]), Say.is (.tuple #[V 2 1 E, .int .i64 0]), Say.is (V 2 1 E), Say.is (.int .i64 0), Say.box (x4.heap.size + 1)]) 9 7 83 (by kernel_rfl) (by kernel_rfl) rfl (says_mono _) (allSteps_take ⟨?_, ?_, ?_, ?_, ?_, ?_, ?_, ?_, ?_, trivial⟩) _ _ rfl rfl ?_
  · intro a w1 hG hin
    have h6 : a.eval (.tmp 6) = .pointer (some ⟨x2.heap.size, 0, none⟩) := slot_out (hin 6 (by decide)) rfl
    clear hin
    refine .inl ⟨wanted_none rfl, ?_⟩
    exact grow_load rfl (B1.out.mono hG) h6 rfl
  · intro a w1 hG hin
    have h26 : a.eval (.tmp 26) = V 2 1 E := slot_in (hin 26 (by decide)) rfl
    clear hin
    refine .inl ⟨wanted_none rfl, ?_⟩
    exact grow_call Tryd.call13 #[.string ⟨#[33]⟩, V 2 1 E] (by simp only [List.map_toArray, List.map_cons, List.map_nil, h26]; rfl) ((not_any (p := 0) (by decide) _).mono (by rintro e w2 ⟨rfl, hg⟩; exact ⟨_, rfl, hg, rfl⟩))
  · intro a w1 hG hin
    have h7 : a.eval (.tmp 7) = .pointer (some ⟨x3.heap.size, 0, none⟩) := slot_out (hin 7 (by decide)) rfl
    clear hin
    refine .inl ⟨wanted_none rfl, ?_⟩
    exact grow_load rfl (B2.out.mono hG) h7 rfl
  · intro a w1 hG hin
    have h28 : a.eval (.tmp 28) = V 2 0 E := slot_in (hin 28 (by decide)) rfl
    clear hin
    refine .inl ⟨wanted_none rfl, ?_⟩
    exact grow_call Tryd.call13 #[.string ⟨#[33]⟩, V 2 0 E] (by simp only [List.map_toArray, List.map_cons, List.map_nil, h28]; rfl) ((not_any (p := 1) (by decide) _).mono (by rintro e w2 ⟨rfl, hg⟩; exact ⟨_, rfl, hg, rfl⟩))
  · intro a w1 hG hin
    have h27 : a.eval (.tmp 27) = V 2 0 E := slot_in (hin 27 (by decide)) rfl
    have h29 : a.eval (.tmp 29) = V 2 1 E := slot_in (hin 29 (by decide)) rfl
    clear hin
    refine .inl ⟨wanted_none rfl, ?_⟩
    exact grow_call Tryd.call12 #[.string ⟨#[124, 124]⟩, V 2 0 E, V 2 1 E] (by simp only [List.map_toArray, List.map_cons, List.map_nil, h27, h29]; rfl) ((or_any (p := 1) (by decide) _).mono (by rintro e w2 ⟨rfl, hg⟩; exact ⟨_, rfl, hg, rfl⟩))
  · intro a w1 hG hin
    have h30 : a.eval (.tmp 30) = .tuple #[V 2 1 E, .int .i64 0] := slot_in (hin 30 (by decide)) rfl
    clear hin
    exact .inl ⟨wanted_none rfl, grow_move rfl h30⟩
  · intro a w1 hG hin
    have h25 : a.eval (.tmp 25) = .tuple #[V 2 1 E, .int .i64 0] := slot_in (hin 25 (by decide)) rfl
    clear hin
    refine .inl ⟨wanted_none rfl, ?_⟩
    exact grow_extract rfl h25 (.inl ⟨rfl, rfl⟩)
  · intro a w1 hG hin
    have h25 : a.eval (.tmp 25) = .tuple #[V 2 1 E, .int .i64 0] := slot_in (hin 25 (by decide)) rfl
    clear hin
    refine .inl ⟨wanted_none rfl, ?_⟩
    exact grow_extract rfl h25 (.inr ⟨rfl, rfl⟩)
  · intro a w1 hG hin
    clear hin
    refine .inl ⟨wanted_none rfl, ?_⟩
    refine grow_box (B := x4.heap.size + 1) rfl (by have h := hG.size; simpa using h) fun w9 h9 => ⟨_, rfl, (by have h := hG.size; simpa using h), h9⟩
  · intro s w2 l hG hl hs
    rw [show List.range 83 = [0, 1, 2, 3, 4, 5, 6, 7, 8, 9, 10, 11, 12, 13, 14, 15, 16, 17, 18, 19, 20, 21, 22, 23, 24, 25, 26, 27, 28, 29, 30, 31, 32, 33, 34, 35, 36, 37, 38, 39, 40, 41, 42, 43, 44, 45, 46, 47, 48, 49, 50, 51, 52, 53, 54, 55, 56, 57, 58, 59, 60, 61, 62, 63, 64, 65, 66, 67, 68, 69, 70, 71, 72, 73, 74, 75, 76, 77, 78, 79, 80, 81, 82] from rfl]
    simp only [List.map_cons, List.map_nil]
    rw [show List.range 83 = [0, 1, 2, 3, 4, 5, 6, 7, 8, 9, 10, 11, 12, 13, 14, 15, 16, 17, 18, 19, 20, 21, 22, 23, 24, 25, 26, 27, 28, 29, 30, 31, 32, 33, 34, 35, 36, 37, 38, 39, 40, 41, 42, 43, 44, 45, 46, 47, 48, 49, 50, 51, 52, 53, 54, 55, 56, 57, 58, 59, 60, 61, 62, 63, 64, 65, 66, 67, 68, 69, 70, 71, 72, 73, 74, 75, 76, 77, 78, 79, 80, 81, 82] from rfl] at hl hs
    simp only [List.map_cons, List.map_nil] at hl hs
    rcases hl with ⟨rfl, hin⟩ | ⟨rfl, hin⟩
    all_goals (
      have f0 : s 0 = .bool true := by first | exact (hs 0 (by decide)).symm.trans (slot_out (hin 0) rfl) | exact (hs 0 (by decide)).symm.trans (slot_out (hin 0 (fun e => absurd ((show writer _ _ 0 = none from rfl).symm.trans e) (by decide))) rfl)
      have f1 : s 1 = .bool false := by first | exact (hs 1 (by decide)).symm.trans (slot_out (hin 1) rfl) | exact (hs 1 (by decide)).symm.trans (slot_out (hin 1 (fun e => absurd ((show writer _ _ 1 = none from rfl).symm.trans e) (by decide))) rfl)
      have f2 : s 2 = undef := by first | exact (hs 2 (by decide)).symm.trans (slot_out (hin 2) rfl) | exact (hs 2 (by decide)).symm.trans (slot_out (hin 2 (fun e => absurd ((show writer _ _ 2 = none from rfl).symm.trans e) (by decide))) rfl)
      have f3 : s 3 = undef := by first | exact (hs 3 (by decide)).symm.trans (slot_out (hin 3) rfl) | exact (hs 3 (by decide)).symm.trans (slot_out (hin 3 (fun e => absurd ((show writer _ _ 3 = none from rfl).symm.trans e) (by decide))) rfl)
      have f4 : s 4 = .bool false := by first | exact (hs 4 (by decide)).symm.trans (slot_out (hin 4) rfl) | exact (hs 4 (by decide)).symm.trans (slot_out (hin 4 (fun e => absurd ((show writer _ _ 4 = none from rfl).symm.trans e) (by decide))) rfl)
      have f5 : s 5 = .bool true := by first | exact (hs 5 (by decide)).symm.trans (slot_out (hin 5) rfl) | exact (hs 5 (by decide)).symm.trans (slot_out (hin 5 (fun e => absurd ((show writer _ _ 5 = none from rfl).symm.trans e) (by decide))) rfl)
      have f6 : s 6 = .pointer (some ⟨x2.heap.size, 0, none⟩) := by first | exact (hs 6 (by decide)).symm.trans (slot_out (hin 6) rfl) | exact (hs 6 (by decide)).symm.trans (slot_out (hin 6 (fun e => absurd ((show writer _ _ 6 = none from rfl).symm.trans e) (by decide))) rfl)
      have f7 : s 7 = .pointer (some ⟨x3.heap.size, 0, none⟩) := by first | exact (hs 7 (by decide)).symm.trans (slot_out (hin 7) rfl) | exact (hs 7 (by decide)).symm.trans (slot_out (hin 7 (fun e => absurd ((show writer _ _ 7 = none from rfl).symm.trans e) (by decide))) rfl)
      have f8 : s 8 = .pointer (some ⟨x4.heap.size, 0, none⟩) := by first | exact (hs 8 (by decide)).symm.trans (slot_out (hin 8) rfl) | exact (hs 8 (by decide)).symm.trans (slot_out (hin 8 (fun e => absurd ((show writer _ _ 8 = none from rfl).symm.trans e) (by decide))) rfl)
      have f9 : s 9 = .int .i64 0 := by first | exact (hs 9 (by decide)).symm.trans (slot_out (hin 9) rfl) | exact (hs 9 (by decide)).symm.trans (slot_out (hin 9 (fun e => absurd ((show writer _ _ 9 = none from rfl).symm.trans e) (by decide))) rfl)
      have f10 : ∃ bb, s 10 = .pointer (some ⟨bb, 0, none⟩) ∧ x4.heap.size + 1 ≤ bb ∧ At w2 bb 0 0 E := by first | (have h := (slot_in (hin 10) rfl); rw [hs 10 (by decide)] at h; exact h) | (have h := (slot_in (hin 10 (fun e => absurd ((show writer _ _ 10 = some 8 from rfl).symm.trans e) (by decide))) rfl); rw [hs 10 (by decide)] at h; exact h)
      have f11 : s 11 = undef := by first | exact (hs 11 (by decide)).symm.trans (slot_out (hin 11) rfl) | exact (hs 11 (by decide)).symm.trans (slot_out (hin 11 (fun e => absurd ((show writer _ _ 11 = none from rfl).symm.trans e) (by decide))) rfl)
      have f12 : s 12 = undef := by first | exact (hs 12 (by decide)).symm.trans (slot_out (hin 12) rfl) | exact (hs 12 (by decide)).symm.trans (slot_out (hin 12 (fun e => absurd ((show writer _ _ 12 = none from rfl).symm.trans e) (by decide))) rfl)
      have f13 : s 13 = undef := by first | exact (hs 13 (by decide)).symm.trans (slot_out (hin 13) rfl) | exact (hs 13 (by decide)).symm.trans (slot_out (hin 13 (fun e => absurd ((show writer _ _ 13 = none from rfl).symm.trans e) (by decide))) rfl)
      have f14 : s 14 = .bool true := by first | exact (hs 14 (by decide)).symm.trans (slot_out (hin 14) rfl) | exact (hs 14 (by decide)).symm.trans (slot_out (hin 14 (fun e => absurd ((show writer _ _ 14 = none from rfl).symm.trans e) (by decide))) rfl)
      have f15 : s 15 = .bool true := by first | exact (hs 15 (by decide)).symm.trans (slot_out (hin 15) rfl) | exact (hs 15 (by decide)).symm.trans (slot_out (hin 15 (fun e => absurd ((show writer _ _ 15 = none from rfl).symm.trans e) (by decide))) rfl)
      have f16 : s 16 = V 2 1 E := by first | exact (hs 16 (by decide)).symm.trans (slot_out (hin 16) rfl) | exact (hs 16 (by decide)).symm.trans (slot_out (hin 16 (fun e => absurd ((show writer _ _ 16 = none from rfl).symm.trans e) (by decide))) rfl)
      have f17 : s 17 = .bool false := by first | exact (hs 17 (by decide)).symm.trans (slot_out (hin 17) rfl) | exact (hs 17 (by decide)).symm.trans (slot_out (hin 17 (fun e => absurd ((show writer _ _ 17 = none from rfl).symm.trans e) (by decide))) rfl)
      have f18 : s 18 = V 2 0 E := by first | exact (hs 18 (by decide)).symm.trans (slot_out (hin 18) rfl) | exact (hs 18 (by decide)).symm.trans (slot_out (hin 18 (fun e => absurd ((show writer _ _ 18 = none from rfl).symm.trans e) (by decide))) rfl)
      have f19 : s 19 = .tuple #[V 2 0 E, .int .i64 0] := by first | exact (hs 19 (by decide)).symm.trans (slot_out (hin 19) rfl) | exact (hs 19 (by decide)).symm.trans (slot_out (hin 19 (fun e => absurd ((show writer _ _ 19 = none from rfl).symm.trans e) (by decide))) rfl)
      have f20 : s 20 = V 2 1 E := by first | exact (hs 20 (by decide)).symm.trans (slot_out (hin 20) rfl) | exact (hs 20 (by decide)).symm.trans (slot_out (hin 20 (fun e => absurd ((show writer _ _ 20 = none from rfl).symm.trans e) (by decide))) rfl)
      have f21 : s 21 = V 2 0 E := by first | exact (hs 21 (by decide)).symm.trans (slot_out (hin 21) rfl) | exact (hs 21 (by decide)).symm.trans (slot_out (hin 21 (fun e => absurd ((show writer _ _ 21 = none from rfl).symm.trans e) (by decide))) rfl)
      have f22 : s 22 = .tuple #[V 2 0 E, .int .i64 0] := by first | exact (hs 22 (by decide)).symm.trans (slot_out (hin 22) rfl) | exact (hs 22 (by decide)).symm.trans (slot_out (hin 22 (fun e => absurd ((show writer _ _ 22 = none from rfl).symm.trans e) (by decide))) rfl)
      have f23 : s 23 = V 2 0 E := by first | exact (hs 23 (by decide)).symm.trans (slot_out (hin 23) rfl) | exact (hs 23 (by decide)).symm.trans (slot_out (hin 23 (fun e => absurd ((show writer _ _ 23 = none from rfl).symm.trans e) (by decide))) rfl)
      have f24 : s 24 = .int .i64 0 := by first | exact (hs 24 (by decide)).symm.trans (slot_out (hin 24) rfl) | exact (hs 24 (by decide)).symm.trans (slot_out (hin 24 (fun e => absurd ((show writer _ _ 24 = none from rfl).symm.trans e) (by decide))) rfl)
      have f25 : s 25 = .tuple #[V 2 1 E, .int .i64 0] := by first | exact (hs 25 (by decide)).symm.trans (slot_in (hin 25) rfl) | exact (hs 25 (by decide)).symm.trans (slot_in (hin 25 (fun e => absurd ((show writer _ _ 25 = some 5 from rfl).symm.trans e) (by decide))) rfl)
      have f31 : s 31 = V 2 1 E := by first | exact (hs 31 (by decide)).symm.trans (slot_in (hin 31) rfl) | exact (hs 31 (by decide)).symm.trans (slot_in (hin 31 (fun e => absurd ((show writer _ _ 31 = some 6 from rfl).symm.trans e) (by decide))) rfl)
      have f33 : s 33 = undef := by first | exact (hs 33 (by decide)).symm.trans (slot_out (hin 33) rfl) | exact (hs 33 (by decide)).symm.trans (slot_out (hin 33 (fun e => absurd ((show writer _ _ 33 = none from rfl).symm.trans e) (by decide))) rfl)
      have f34 : s 34 = undef := by first | exact (hs 34 (by decide)).symm.trans (slot_out (hin 34) rfl) | exact (hs 34 (by decide)).symm.trans (slot_out (hin 34 (fun e => absurd ((show writer _ _ 34 = none from rfl).symm.trans e) (by decide))) rfl)
      have f35 : s 35 = undef := by first | exact (hs 35 (by decide)).symm.trans (slot_out (hin 35) rfl) | exact (hs 35 (by decide)).symm.trans (slot_out (hin 35 (fun e => absurd ((show writer _ _ 35 = none from rfl).symm.trans e) (by decide))) rfl)
      have f36 : s 36 = undef := by first | exact (hs 36 (by decide)).symm.trans (slot_out (hin 36) rfl) | exact (hs 36 (by decide)).symm.trans (slot_out (hin 36 (fun e => absurd ((show writer _ _ 36 = none from rfl).symm.trans e) (by decide))) rfl)
      have f37 : s 37 = undef := by first | exact (hs 37 (by decide)).symm.trans (slot_out (hin 37) rfl) | exact (hs 37 (by decide)).symm.trans (slot_out (hin 37 (fun e => absurd ((show writer _ _ 37 = none from rfl).symm.trans e) (by decide))) rfl)
      have f38 : s 38 = undef := by first | exact (hs 38 (by decide)).symm.trans (slot_out (hin 38) rfl) | exact (hs 38 (by decide)).symm.trans (slot_out (hin 38 (fun e => absurd ((show writer _ _ 38 = none from rfl).symm.trans e) (by decide))) rfl)
      have f39 : s 39 = undef := by first | exact (hs 39 (by decide)).symm.trans (slot_out (hin 39) rfl) | exact (hs 39 (by decide)).symm.trans (slot_out (hin 39 (fun e => absurd ((show writer _ _ 39 = none from rfl).symm.trans e) (by decide))) rfl)
      have f40 : s 40 = undef := by first | exact (hs 40 (by decide)).symm.trans (slot_out (hin 40) rfl) | exact (hs 40 (by decide)).symm.trans (slot_out (hin 40 (fun e => absurd ((show writer _ _ 40 = none from rfl).symm.trans e) (by decide))) rfl)
      have f41 : s 41 = undef := by first | exact (hs 41 (by decide)).symm.trans (slot_out (hin 41) rfl) | exact (hs 41 (by decide)).symm.trans (slot_out (hin 41 (fun e => absurd ((show writer _ _ 41 = none from rfl).symm.trans e) (by decide))) rfl)
      have f42 : s 42 = undef := by first | exact (hs 42 (by decide)).symm.trans (slot_out (hin 42) rfl) | exact (hs 42 (by decide)).symm.trans (slot_out (hin 42 (fun e => absurd ((show writer _ _ 42 = none from rfl).symm.trans e) (by decide))) rfl)
      have f43 : s 43 = undef := by first | exact (hs 43 (by decide)).symm.trans (slot_out (hin 43) rfl) | exact (hs 43 (by decide)).symm.trans (slot_out (hin 43 (fun e => absurd ((show writer _ _ 43 = none from rfl).symm.trans e) (by decide))) rfl)
      have f44 : s 44 = undef := by first | exact (hs 44 (by decide)).symm.trans (slot_out (hin 44) rfl) | exact (hs 44 (by decide)).symm.trans (slot_out (hin 44 (fun e => absurd ((show writer _ _ 44 = none from rfl).symm.trans e) (by decide))) rfl)
      have f45 : s 45 = undef := by first | exact (hs 45 (by decide)).symm.trans (slot_out (hin 45) rfl) | exact (hs 45 (by decide)).symm.trans (slot_out (hin 45 (fun e => absurd ((show writer _ _ 45 = none from rfl).symm.trans e) (by decide))) rfl)
      have f46 : s 46 = undef := by first | exact (hs 46 (by decide)).symm.trans (slot_out (hin 46) rfl) | exact (hs 46 (by decide)).symm.trans (slot_out (hin 46 (fun e => absurd ((show writer _ _ 46 = none from rfl).symm.trans e) (by decide))) rfl)
      have f47 : s 47 = undef := by first | exact (hs 47 (by decide)).symm.trans (slot_out (hin 47) rfl) | exact (hs 47 (by decide)).symm.trans (slot_out (hin 47 (fun e => absurd ((show writer _ _ 47 = none from rfl).symm.trans e) (by decide))) rfl)
      have f48 : s 48 = undef := by first | exact (hs 48 (by decide)).symm.trans (slot_out (hin 48) rfl) | exact (hs 48 (by decide)).symm.trans (slot_out (hin 48 (fun e => absurd ((show writer _ _ 48 = none from rfl).symm.trans e) (by decide))) rfl)
      have f49 : s 49 = undef := by first | exact (hs 49 (by decide)).symm.trans (slot_out (hin 49) rfl) | exact (hs 49 (by decide)).symm.trans (slot_out (hin 49 (fun e => absurd ((show writer _ _ 49 = none from rfl).symm.trans e) (by decide))) rfl)
      have f50 : s 50 = undef := by first | exact (hs 50 (by decide)).symm.trans (slot_out (hin 50) rfl) | exact (hs 50 (by decide)).symm.trans (slot_out (hin 50 (fun e => absurd ((show writer _ _ 50 = none from rfl).symm.trans e) (by decide))) rfl)
      have f51 : s 51 = undef := by first | exact (hs 51 (by decide)).symm.trans (slot_out (hin 51) rfl) | exact (hs 51 (by decide)).symm.trans (slot_out (hin 51 (fun e => absurd ((show writer _ _ 51 = none from rfl).symm.trans e) (by decide))) rfl)
      have f52 : s 52 = undef := by first | exact (hs 52 (by decide)).symm.trans (slot_out (hin 52) rfl) | exact (hs 52 (by decide)).symm.trans (slot_out (hin 52 (fun e => absurd ((show writer _ _ 52 = none from rfl).symm.trans e) (by decide))) rfl)
      have f53 : s 53 = undef := by first | exact (hs 53 (by decide)).symm.trans (slot_out (hin 53) rfl) | exact (hs 53 (by decide)).symm.trans (slot_out (hin 53 (fun e => absurd ((show writer _ _ 53 = none from rfl).symm.trans e) (by decide))) rfl)
      have f54 : s 54 = undef := by first | exact (hs 54 (by decide)).symm.trans (slot_out (hin 54) rfl) | exact (hs 54 (by decide)).symm.trans (slot_out (hin 54 (fun e => absurd ((show writer _ _ 54 = none from rfl).symm.trans e) (by decide))) rfl)
      have f55 : s 55 = undef := by first | exact (hs 55 (by decide)).symm.trans (slot_out (hin 55) rfl) | exact (hs 55 (by decide)).symm.trans (slot_out (hin 55 (fun e => absurd ((show writer _ _ 55 = none from rfl).symm.trans e) (by decide))) rfl)
      have f56 : s 56 = undef := by first | exact (hs 56 (by decide)).symm.trans (slot_out (hin 56) rfl) | exact (hs 56 (by decide)).symm.trans (slot_out (hin 56 (fun e => absurd ((show writer _ _ 56 = none from rfl).symm.trans e) (by decide))) rfl)
      have f57 : s 57 = undef := by first | exact (hs 57 (by decide)).symm.trans (slot_out (hin 57) rfl) | exact (hs 57 (by decide)).symm.trans (slot_out (hin 57 (fun e => absurd ((show writer _ _ 57 = none from rfl).symm.trans e) (by decide))) rfl)
      have f58 : s 58 = undef := by first | exact (hs 58 (by decide)).symm.trans (slot_out (hin 58) rfl) | exact (hs 58 (by decide)).symm.trans (slot_out (hin 58 (fun e => absurd ((show writer _ _ 58 = none from rfl).symm.trans e) (by decide))) rfl)
      have f59 : s 59 = undef := by first | exact (hs 59 (by decide)).symm.trans (slot_out (hin 59) rfl) | exact (hs 59 (by decide)).symm.trans (slot_out (hin 59 (fun e => absurd ((show writer _ _ 59 = none from rfl).symm.trans e) (by decide))) rfl)
      have f60 : s 60 = undef := by first | exact (hs 60 (by decide)).symm.trans (slot_out (hin 60) rfl) | exact (hs 60 (by decide)).symm.trans (slot_out (hin 60 (fun e => absurd ((show writer _ _ 60 = none from rfl).symm.trans e) (by decide))) rfl)
      have f61 : s 61 = undef := by first | exact (hs 61 (by decide)).symm.trans (slot_out (hin 61) rfl) | exact (hs 61 (by decide)).symm.trans (slot_out (hin 61 (fun e => absurd ((show writer _ _ 61 = none from rfl).symm.trans e) (by decide))) rfl)
      have f62 : s 62 = undef := by first | exact (hs 62 (by decide)).symm.trans (slot_out (hin 62) rfl) | exact (hs 62 (by decide)).symm.trans (slot_out (hin 62 (fun e => absurd ((show writer _ _ 62 = none from rfl).symm.trans e) (by decide))) rfl)
      have f63 : s 63 = undef := by first | exact (hs 63 (by decide)).symm.trans (slot_out (hin 63) rfl) | exact (hs 63 (by decide)).symm.trans (slot_out (hin 63 (fun e => absurd ((show writer _ _ 63 = none from rfl).symm.trans e) (by decide))) rfl)
      have f64 : s 64 = undef := by first | exact (hs 64 (by decide)).symm.trans (slot_out (hin 64) rfl) | exact (hs 64 (by decide)).symm.trans (slot_out (hin 64 (fun e => absurd ((show writer _ _ 64 = none from rfl).symm.trans e) (by decide))) rfl)
      have f65 : s 65 = undef := by first | exact (hs 65 (by decide)).symm.trans (slot_out (hin 65) rfl) | exact (hs 65 (by decide)).symm.trans (slot_out (hin 65 (fun e => absurd ((show writer _ _ 65 = none from rfl).symm.trans e) (by decide))) rfl)
      have f66 : s 66 = undef := by first | exact (hs 66 (by decide)).symm.trans (slot_out (hin 66) rfl) | exact (hs 66 (by decide)).symm.trans (slot_out (hin 66 (fun e => absurd ((show writer _ _ 66 = none from rfl).symm.trans e) (by decide))) rfl)
      have f67 : s 67 = undef := by first | exact (hs 67 (by decide)).symm.trans (slot_out (hin 67) rfl) | exact (hs 67 (by decide)).symm.trans (slot_out (hin 67 (fun e => absurd ((show writer _ _ 67 = none from rfl).symm.trans e) (by decide))) rfl)
      have f68 : s 68 = undef := by first | exact (hs 68 (by decide)).symm.trans (slot_out (hin 68) rfl) | exact (hs 68 (by decide)).symm.trans (slot_out (hin 68 (fun e => absurd ((show writer _ _ 68 = none from rfl).symm.trans e) (by decide))) rfl)
      have f69 : s 69 = undef := by first | exact (hs 69 (by decide)).symm.trans (slot_out (hin 69) rfl) | exact (hs 69 (by decide)).symm.trans (slot_out (hin 69 (fun e => absurd ((show writer _ _ 69 = none from rfl).symm.trans e) (by decide))) rfl)
      have f70 : s 70 = undef := by first | exact (hs 70 (by decide)).symm.trans (slot_out (hin 70) rfl) | exact (hs 70 (by decide)).symm.trans (slot_out (hin 70 (fun e => absurd ((show writer _ _ 70 = none from rfl).symm.trans e) (by decide))) rfl)
      have f71 : s 71 = undef := by first | exact (hs 71 (by decide)).symm.trans (slot_out (hin 71) rfl) | exact (hs 71 (by decide)).symm.trans (slot_out (hin 71 (fun e => absurd ((show writer _ _ 71 = none from rfl).symm.trans e) (by decide))) rfl)
      have f72 : s 72 = undef := by first | exact (hs 72 (by decide)).symm.trans (slot_out (hin 72) rfl) | exact (hs 72 (by decide)).symm.trans (slot_out (hin 72 (fun e => absurd ((show writer _ _ 72 = none from rfl).symm.trans e) (by decide))) rfl)
      have f73 : s 73 = undef := by first | exact (hs 73 (by decide)).symm.trans (slot_out (hin 73) rfl) | exact (hs 73 (by decide)).symm.trans (slot_out (hin 73 (fun e => absurd ((show writer _ _ 73 = none from rfl).symm.trans e) (by decide))) rfl)
      have f74 : s 74 = undef := by first | exact (hs 74 (by decide)).symm.trans (slot_out (hin 74) rfl) | exact (hs 74 (by decide)).symm.trans (slot_out (hin 74 (fun e => absurd ((show writer _ _ 74 = none from rfl).symm.trans e) (by decide))) rfl)
      have f75 : s 75 = undef := by first | exact (hs 75 (by decide)).symm.trans (slot_out (hin 75) rfl) | exact (hs 75 (by decide)).symm.trans (slot_out (hin 75 (fun e => absurd ((show writer _ _ 75 = none from rfl).symm.trans e) (by decide))) rfl)
      have f76 : s 76 = undef := by first | exact (hs 76 (by decide)).symm.trans (slot_out (hin 76) rfl) | exact (hs 76 (by decide)).symm.trans (slot_out (hin 76 (fun e => absurd ((show writer _ _ 76 = none from rfl).symm.trans e) (by decide))) rfl)
      have f77 : s 77 = undef := by first | exact (hs 77 (by decide)).symm.trans (slot_out (hin 77) rfl) | exact (hs 77 (by decide)).symm.trans (slot_out (hin 77 (fun e => absurd ((show writer _ _ 77 = none from rfl).symm.trans e) (by decide))) rfl)
      have f78 : s 78 = undef := by first | exact (hs 78 (by decide)).symm.trans (slot_out (hin 78) rfl) | exact (hs 78 (by decide)).symm.trans (slot_out (hin 78 (fun e => absurd ((show writer _ _ 78 = none from rfl).symm.trans e) (by decide))) rfl)
      have f79 : s 79 = undef := by first | exact (hs 79 (by decide)).symm.trans (slot_out (hin 79) rfl) | exact (hs 79 (by decide)).symm.trans (slot_out (hin 79 (fun e => absurd ((show writer _ _ 79 = none from rfl).symm.trans e) (by decide))) rfl)
      have f80 : s 80 = undef := by first | exact (hs 80 (by decide)).symm.trans (slot_out (hin 80) rfl) | exact (hs 80 (by decide)).symm.trans (slot_out (hin 80 (fun e => absurd ((show writer _ _ 80 = none from rfl).symm.trans e) (by decide))) rfl)
      have f81 : s 81 = undef := by first | exact (hs 81 (by decide)).symm.trans (slot_out (hin 81) rfl) | exact (hs 81 (by decide)).symm.trans (slot_out (hin 81 (fun e => absurd ((show writer _ _ 81 = none from rfl).symm.trans e) (by decide))) rfl)
      have f82 : s 82 = undef := by first | exact (hs 82 (by decide)).symm.trans (slot_out (hin 82) rfl) | exact (hs 82 (by decide)).symm.trans (slot_out (hin 82 (fun e => absurd ((show writer _ _ 82 = none from rfl).symm.trans e) (by decide))) rfl)
      (try (have f32 : s 32 = .int .i64 0 := (hs 32 (by decide)).symm.trans (slot_in (hin 32) rfl); rw [f32]; clear f32))
      clear hin hs
      rw [f0, f1, f2, f3, f4, f5, f6, f7, f8, f9, f11, f12, f13, f14, f15, f16, f17, f18, f19, f20, f21, f22, f23, f24, f25, f31, f33, f34, f35, f36, f37, f38, f39, f40, f41, f42, f43, f44, f45, f46, f47, f48, f49, f50, f51, f52, f53, f54, f55, f56, f57, f58, f59, f60, f61, f62, f63, f64, f65, f66, f67, f68, f69, f70, f71, f72, f73, f74, f75, f76, f77, f78, f79, f80, f81, f82]
      obtain ⟨bb, e10, hbb, hA⟩ := f10
      rw [e10]
      clear e10 f0 f1 f2 f3 f4 f5 f6 f7 f8 f9 f11 f12 f13 f14 f15 f16 f17 f18 f19 f20 f21 f22 f23 f24 f25 f31 f33 f34 f35 f36 f37 f38 f39 f40 f41 f42 f43 f44 f45 f46 f47 f48 f49 f50 f51 f52 f53 f54 f55 f56 f57 f58 f59 f60 f61 f62 f63 f64 f65 f66 f67 f68 f69 f70 f71 f72 f73 f74 f75 f76 f77 f78 f79 f80 f81 f82
      simp only [V, E]
      have NB := hid hA
      obtain ⟨l9, p9, q9, r9, f9⟩ := hA
      simp only [List.drop_succ_cons, List.drop_zero]
      go_upto_region 6 with (fail)
      clear l9 p9 q9 r9 f9
      have s1 := B1.out.lt
      have s2 := B2.out.lt
      have s3 := B3.out.lt
      have sw := HG.out.size
      simp at s1 s2 s3 sw
      have C1 := keep (B1.out.mono hG) (c := bb) (by omega) 2 1 ⟨#[]⟩
      have C2 := keep (B2.out.mono hG) (c := bb) (by omega) 2 1 ⟨#[]⟩
      have C3 := keep (B3.out.mono hG) (c := bb) (by omega) 2 1 ⟨#[]⟩
      have CN := NB.out.set 2 1 ⟨#[]⟩
      have CG := G.set (G.set (G.set (HG.out.trans hG) (p := ⟨bb, 0, none⟩) (by simp; omega) (.int .i64 2)) (p := ⟨bb, 1, none⟩) (by simp; omega) (.int .i64 1)) (p := ⟨bb, 2, none⟩) (by simp; omega) (.string ⟨#[]⟩)
      generalize ((w2.setCell ⟨bb, 0, none⟩ (.int .i64 2)).setCell ⟨bb, 1, none⟩ (.int .i64 1)).setCell ⟨bb, 2, none⟩ (.string ⟨#[]⟩) = y at C1 C2 C3 CN CG ⊢
      replace B1 := hid C1
      replace B2 := hid C2
      replace B3 := hid C3
      have B4 := hid CN
      replace HG := hid CG
      clear C1 C2 C3 CN CG NB hG s1 s2 s3 sw hbb
      obtain ⟨l1, p1, q1, r1, f1⟩ := B1.out
      obtain ⟨l2, p2, q2, r2, f2⟩ := B2.out
      obtain ⟨l3, p3, q3, r3, f3⟩ := B3.out
      obtain ⟨l4, p4, q4, r4, f4⟩ := B4.out
      go_wp2_with fail
      refine (or_any (p := 1) (by decide) _).mono ?_
      rintro e x5 ⟨rfl, g5⟩
      (try simp only [R.v, R.u, V])
      clear l1 p1 q1 r1 f1
      clear l2 p2 q2 r2 f2
      clear l3 p3 q3 r3 f3
      clear l4 p4 q4 r4 f4
      have h5 : G y x5 := g5
      replace B1 := hid (B1.out.mono h5)
      replace B2 := hid (B2.out.mono h5)
      replace B3 := hid (B3.out.mono h5)
      replace B4 := hid (B4.out.mono h5)
      replace HG := hid (HG.out.trans h5)
      clear h5 g5
      obtain ⟨l1, p1, q1, r1, f1⟩ := B1.out
      obtain ⟨l2, p2, q2, r2, f2⟩ := B2.out
      obtain ⟨l3, p3, q3, r3, f3⟩ := B3.out
      obtain ⟨l4, p4, q4, r4, f4⟩ := B4.out
      have B5 := hid (At.alloc x5 2 1 E)
      replace B1 := hid (B1.out.more (.cells #[.int .i64 2, .int .i64 1, .string ⟨#[]⟩] 24))
      replace B2 := hid (B2.out.more (.cells #[.int .i64 2, .int .i64 1, .string ⟨#[]⟩] 24))
      replace B3 := hid (B3.out.more (.cells #[.int .i64 2, .int .i64 1, .string ⟨#[]⟩] 24))
      replace B4 := hid (B4.out.more (.cells #[.int .i64 2, .int .i64 1, .string ⟨#[]⟩] 24))
      replace HG := hid (HG.out.alloc (.cells #[.int .i64 2, .int .i64 1, .string ⟨#[]⟩] 24))
      go_upto_region 7 with (fail)
      clear l1 p1 q1 r1 f1 l2 p2 q2 r2 f2 l3 p3 q3 r3 f3 l4 p4 q4 r4 f4
      refine wp_region_grows (says [Say.is (.bool true), Say.is (.bool true), Say.is (.int .i64 0), Say.is (.bool true), Say.is (.bool true), Say.is (.bool true), Say.is (.int .i64 0), Say.is (.bool true), Say.is (.bool true), Say.is (.bool true), Say.is (.int .i64 0), Say.is (.bool true), Say.is (.bool true), Say.is (.bool true), Say.is (V 2 0 E), Say.is (V 2 1 E), Say.is (V 2 1 E), Say.is (.bool true), Say.is (.bool true), Say.is (.bool true), Say.is (V 2 1 E), Say.is (V 2 0 E), Say.is (V 2 1 E), Say.is (V 2 1 E), Say.is (.bool true), Say.is (.bool true), Say.is (.bool true), Say.is (V 2 0 E), Say.is (.bool true), Say.is (.bool true), Say.is (.bool false), Say.is (.bool false), Say.is (V 2 0 E), Say.is (.bool true), Say.is (.bool true), Say.is (.bool true), Say.is (V 2 1 E), Say.is (.bool true), Say.is (.bool true), Say.is (undef), Say.is (.bool true), Say.is (V 2 1 E), Say.is (.bool true), Say.is (.bool true), Say.is (.bool true)]) 83 (by kernel_rfl) (by kernel_rfl) rfl (says_mono _) (allSteps_take ⟨?_, ?_, ?_, ?_, ?_, ?_, ?_, ?_, ?_, ?_, ?_, ?_, ?_, ?_, ?_, ?_, ?_, ?_, ?_, ?_, ?_, ?_, ?_, ?_, ?_, ?_, ?_, ?_, ?_, ?_, ?_, ?_, ?_, ?_, ?_, ?_, ?_, ?_, ?_, ?_, ?_, ?_, ?_, ?_, ?_, trivial⟩) ?_
      · intro a w1 hG hin
        have h5 : a.eval (.tmp 5) = .bool true := slot_out (hin 5 (by decide)) rfl
        clear hin
        exact .inl ⟨wanted_none rfl, grow_move rfl h5⟩
      · intro a w1 hG hin
        have h39 : a.eval (.tmp 39) = .bool true := slot_in (hin 39 (by decide)) rfl
        clear hin
        exact .inl ⟨wanted_none rfl, grow_move rfl h39⟩
      · intro a w1 hG hin
        have h9 : a.eval (.tmp 9) = .int .i64 0 := slot_out (hin 9 (by decide)) rfl
        have h40 : a.eval (.tmp 40) = .bool true := slot_in (hin 40 (by decide)) rfl
        clear hin
        exact .inl ⟨wanted_yes rfl rfl h40, grow_move rfl h9⟩
      · intro a w1 hG hin
        have h41 : a.eval (.tmp 41) = .int .i64 0 := slot_in (hin 41 (by decide)) rfl
        have h40 : a.eval (.tmp 40) = .bool true := slot_in (hin 40 (by decide)) rfl
        clear hin
        refine .inl ⟨wanted_yes rfl rfl h40, ?_⟩
        exact grow_eqint rfl h41 rfl rfl
      · intro a w1 hG hin
        have h40 : a.eval (.tmp 40) = .bool true := slot_in (hin 40 (by decide)) rfl
        have h42 : a.eval (.tmp 42) = .bool true := slot_in (hin 42 (by decide)) rfl
        clear hin
        exact .inl ⟨wanted_none rfl, grow_pick rfl h40 h42⟩
      · intro a w1 hG hin
        have h43 : a.eval (.tmp 43) = .bool true := slot_in (hin 43 (by decide)) rfl
        clear hin
        exact .inl ⟨wanted_none rfl, grow_move rfl h43⟩
      · intro a w1 hG hin
        have h11 : a.eval (.tmp 11) = .int .i64 0 := slot_out (hin 11 (by decide)) rfl
        have h44 : a.eval (.tmp 44) = .bool true := slot_in (hin 44 (by decide)) rfl
        clear hin
        exact .inl ⟨wanted_yes rfl rfl h44, grow_move rfl h11⟩
      · intro a w1 hG hin
        have h45 : a.eval (.tmp 45) = .int .i64 0 := slot_in (hin 45 (by decide)) rfl
        have h44 : a.eval (.tmp 44) = .bool true := slot_in (hin 44 (by decide)) rfl
        clear hin
        refine .inl ⟨wanted_yes rfl rfl h44, ?_⟩
        exact grow_eqint rfl h45 rfl rfl
      · intro a w1 hG hin
        have h44 : a.eval (.tmp 44) = .bool true := slot_in (hin 44 (by decide)) rfl
        have h46 : a.eval (.tmp 46) = .bool true := slot_in (hin 46 (by decide)) rfl
        clear hin
        exact .inl ⟨wanted_none rfl, grow_pick rfl h44 h46⟩
      · intro a w1 hG hin
        have h47 : a.eval (.tmp 47) = .bool true := slot_in (hin 47 (by decide)) rfl
        clear hin
        exact .inl ⟨wanted_none rfl, grow_move rfl h47⟩
      · intro a w1 hG hin
        have h13 : a.eval (.tmp 13) = .int .i64 0 := slot_out (hin 13 (by decide)) rfl
        have h48 : a.eval (.tmp 48) = .bool true := slot_in (hin 48 (by decide)) rfl
        clear hin
        exact .inl ⟨wanted_yes rfl rfl h48, grow_move rfl h13⟩
      · intro a w1 hG hin
        have h49 : a.eval (.tmp 49) = .int .i64 0 := slot_in (hin 49 (by decide)) rfl
        have h48 : a.eval (.tmp 48) = .bool true := slot_in (hin 48 (by decide)) rfl
        clear hin
        refine .inl ⟨wanted_yes rfl rfl h48, ?_⟩
        exact grow_eqint rfl h49 rfl rfl
      · intro a w1 hG hin
        have h48 : a.eval (.tmp 48) = .bool true := slot_in (hin 48 (by decide)) rfl
        have h50 : a.eval (.tmp 50) = .bool true := slot_in (hin 50 (by decide)) rfl
        clear hin
        exact .inl ⟨wanted_none rfl, grow_pick rfl h48 h50⟩
      · intro a w1 hG hin
        have h51 : a.eval (.tmp 51) = .bool true := slot_in (hin 51 (by decide)) rfl
        clear hin
        exact .inl ⟨wanted_none rfl, grow_move rfl h51⟩
      · intro a w1 hG hin
        have h8 : a.eval (.tmp 8) = .pointer (some ⟨x4.heap.size, 0, none⟩) := slot_out (hin 8 (by decide)) rfl
        have h52 : a.eval (.tmp 52) = .bool true := slot_in (hin 52 (by decide)) rfl
        clear hin
        refine .inl ⟨wanted_yes rfl rfl h52, ?_⟩
        exact grow_load rfl (B3.out.mono hG) h8 rfl
      · intro a w1 hG hin
        have h53 : a.eval (.tmp 53) = V 2 0 E := slot_in (hin 53 (by decide)) rfl
        have h52 : a.eval (.tmp 52) = .bool true := slot_in (hin 52 (by decide)) rfl
        clear hin
        refine .inl ⟨wanted_yes rfl rfl h52, ?_⟩
        exact grow_call Tryd.call13 #[.string ⟨#[33]⟩, V 2 0 E] (by simp only [List.map_toArray, List.map_cons, List.map_nil, h53]; rfl) ((not_any (p := 1) (by decide) _).mono (by rintro e w2 ⟨rfl, hg⟩; exact ⟨_, rfl, hg, rfl⟩))
      · intro a w1 hG hin
        have h10 : a.eval (.tmp 10) = .pointer (some ⟨bb, 0, none⟩) := slot_out (hin 10 (by decide)) rfl
        have h52 : a.eval (.tmp 52) = .bool true := slot_in (hin 52 (by decide)) rfl
        clear hin
        refine .inl ⟨wanted_yes rfl rfl h52, ?_⟩
        exact grow_load rfl (B4.out.mono hG) h10 rfl
      · intro a w1 hG hin
        have h54 : a.eval (.tmp 54) = V 2 1 E := slot_in (hin 54 (by decide)) rfl
        have h55 : a.eval (.tmp 55) = V 2 1 E := slot_in (hin 55 (by decide)) rfl
        have h52 : a.eval (.tmp 52) = .bool true := slot_in (hin 52 (by decide)) rfl
        clear hin
        refine .inl ⟨wanted_yes rfl rfl h52, ?_⟩
        exact grow_eqV rfl h54 h55 (congrArg Value.bool (by simp [sameV]))
      · intro a w1 hG hin
        have h52 : a.eval (.tmp 52) = .bool true := slot_in (hin 52 (by decide)) rfl
        have h56 : a.eval (.tmp 56) = .bool true := slot_in (hin 56 (by decide)) rfl
        clear hin
        exact .inl ⟨wanted_none rfl, grow_pick rfl h52 h56⟩
      · intro a w1 hG hin
        have h57 : a.eval (.tmp 57) = .bool true := slot_in (hin 57 (by decide)) rfl
        clear hin
        exact .inl ⟨wanted_none rfl, grow_move rfl h57⟩
      · intro a w1 hG hin
        have h6 : a.eval (.tmp 6) = .pointer (some ⟨x2.heap.size, 0, none⟩) := slot_out (hin 6 (by decide)) rfl
        have h58 : a.eval (.tmp 58) = .bool true := slot_in (hin 58 (by decide)) rfl
        clear hin
        refine .inl ⟨wanted_yes rfl rfl h58, ?_⟩
        exact grow_load rfl (B1.out.mono hG) h6 rfl
      · intro a w1 hG hin
        have h59 : a.eval (.tmp 59) = V 2 1 E := slot_in (hin 59 (by decide)) rfl
        have h58 : a.eval (.tmp 58) = .bool true := slot_in (hin 58 (by decide)) rfl
        clear hin
        refine .inl ⟨wanted_yes rfl rfl h58, ?_⟩
        exact grow_call Tryd.call13 #[.string ⟨#[33]⟩, V 2 1 E] (by simp only [List.map_toArray, List.map_cons, List.map_nil, h59]; rfl) ((not_any (p := 0) (by decide) _).mono (by rintro e w2 ⟨rfl, hg⟩; exact ⟨_, rfl, hg, rfl⟩))
      · intro a w1 hG hin
        have h60 : a.eval (.tmp 60) = V 2 0 E := slot_in (hin 60 (by decide)) rfl
        have h58 : a.eval (.tmp 58) = .bool true := slot_in (hin 58 (by decide)) rfl
        clear hin
        refine .inl ⟨wanted_yes rfl rfl h58, ?_⟩
        exact grow_call Tryd.call13 #[.string ⟨#[33]⟩, V 2 0 E] (by simp only [List.map_toArray, List.map_cons, List.map_nil, h60]; rfl) ((not_any (p := 1) (by decide) _).mono (by rintro e w2 ⟨rfl, hg⟩; exact ⟨_, rfl, hg, rfl⟩))
      · intro a w1 hG hin
        have h6 : a.eval (.tmp 6) = .pointer (some ⟨x2.heap.size, 0, none⟩) := slot_out (hin 6 (by decide)) rfl
        have h58 : a.eval (.tmp 58) = .bool true := slot_in (hin 58 (by decide)) rfl
        clear hin
        refine .inl ⟨wanted_yes rfl rfl h58, ?_⟩
        exact grow_load rfl (B1.out.mono hG) h6 rfl
      · intro a w1 hG hin
        have h61 : a.eval (.tmp 61) = V 2 1 E := slot_in (hin 61 (by decide)) rfl
        have h62 : a.eval (.tmp 62) = V 2 1 E := slot_in (hin 62 (by decide)) rfl
        have h58 : a.eval (.tmp 58) = .bool true := slot_in (hin 58 (by decide)) rfl
        clear hin
        refine .inl ⟨wanted_yes rfl rfl h58, ?_⟩
        exact grow_eqV rfl h61 h62 (congrArg Value.bool (by simp [sameV]))
      · intro a w1 hG hin
        have h58 : a.eval (.tmp 58) = .bool true := slot_in (hin 58 (by decide)) rfl
        have h63 : a.eval (.tmp 63) = .bool true := slot_in (hin 63 (by decide)) rfl
        clear hin
        exact .inl ⟨wanted_none rfl, grow_pick rfl h58 h63⟩
      · intro a w1 hG hin
        have h64 : a.eval (.tmp 64) = .bool true := slot_in (hin 64 (by decide)) rfl
        clear hin
        exact .inl ⟨wanted_none rfl, grow_move rfl h64⟩
      · intro a w1 hG hin
        have h8 : a.eval (.tmp 8) = .pointer (some ⟨x4.heap.size, 0, none⟩) := slot_out (hin 8 (by decide)) rfl
        have h65 : a.eval (.tmp 65) = .bool true := slot_in (hin 65 (by decide)) rfl
        clear hin
        refine .inl ⟨wanted_yes rfl rfl h65, ?_⟩
        exact grow_load rfl (B3.out.mono hG) h8 rfl
      · intro a w1 hG hin
        have h0 : a.eval (.tmp 0) = .bool true := slot_out (hin 0 (by decide)) rfl
        have h65 : a.eval (.tmp 65) = .bool true := slot_in (hin 65 (by decide)) rfl
        clear hin
        exact .inl ⟨wanted_yes rfl rfl h65, grow_move rfl h0⟩
      · intro a w1 hG hin
        have h67 : a.eval (.tmp 67) = .bool true := slot_in (hin 67 (by decide)) rfl
        have h65 : a.eval (.tmp 65) = .bool true := slot_in (hin 65 (by decide)) rfl
        clear hin
        exact .inl ⟨wanted_yes rfl rfl h65, grow_move rfl h67⟩
      · intro a w1 hG hin
        have h1 : a.eval (.tmp 1) = .bool false := slot_out (hin 1 (by decide)) rfl
        have h68 : a.eval (.tmp 68) = .bool true := slot_in (hin 68 (by decide)) rfl
        clear hin
        exact .inl ⟨wanted_yes rfl rfl h68, grow_move rfl h1⟩
      · intro a w1 hG hin
        have h68 : a.eval (.tmp 68) = .bool true := slot_in (hin 68 (by decide)) rfl
        have h69 : a.eval (.tmp 69) = .bool false := slot_in (hin 69 (by decide)) rfl
        have h65 : a.eval (.tmp 65) = .bool true := slot_in (hin 65 (by decide)) rfl
        clear hin
        exact .inl ⟨wanted_yes rfl rfl h65, grow_pick rfl h68 h69⟩
      · intro a w1 hG hin
        have h70 : a.eval (.tmp 70) = .bool false := slot_in (hin 70 (by decide)) rfl
        have h65 : a.eval (.tmp 65) = .bool true := slot_in (hin 65 (by decide)) rfl
        clear hin
        refine .inl ⟨wanted_yes rfl rfl h65, ?_⟩
        exact grow_call Tryd.call14 #[.bool false] (by simp only [List.map_toArray, List.map_cons, List.map_nil, h70]) ((truth_any (p := 0) (by decide) _).mono (by rintro e w2 ⟨rfl, hg⟩; exact ⟨_, rfl, hg, rfl⟩))
      · intro a w1 hG hin
        have h66 : a.eval (.tmp 66) = V 2 0 E := slot_in (hin 66 (by decide)) rfl
        have h71 : a.eval (.tmp 71) = V 2 0 E := slot_in (hin 71 (by decide)) rfl
        have h65 : a.eval (.tmp 65) = .bool true := slot_in (hin 65 (by decide)) rfl
        clear hin
        refine .inl ⟨wanted_yes rfl rfl h65, ?_⟩
        exact grow_eqV rfl h66 h71 (congrArg Value.bool (by simp [sameV]))
      · intro a w1 hG hin
        have h65 : a.eval (.tmp 65) = .bool true := slot_in (hin 65 (by decide)) rfl
        have h72 : a.eval (.tmp 72) = .bool true := slot_in (hin 72 (by decide)) rfl
        clear hin
        exact .inl ⟨wanted_none rfl, grow_pick rfl h65 h72⟩
      · intro a w1 hG hin
        have h73 : a.eval (.tmp 73) = .bool true := slot_in (hin 73 (by decide)) rfl
        clear hin
        exact .inl ⟨wanted_none rfl, grow_move rfl h73⟩
      · intro a w1 hG hin
        have h12 : a.eval (.tmp 12) = .pointer (some ⟨x5.heap.size, 0, none⟩) := slot_out (hin 12 (by decide)) rfl
        have h74 : a.eval (.tmp 74) = .bool true := slot_in (hin 74 (by decide)) rfl
        clear hin
        refine .inl ⟨wanted_yes rfl rfl h74, ?_⟩
        exact grow_load rfl (B5.out.mono hG) h12 rfl
      · intro a w1 hG hin
        have h0 : a.eval (.tmp 0) = .bool true := slot_out (hin 0 (by decide)) rfl
        have h74 : a.eval (.tmp 74) = .bool true := slot_in (hin 74 (by decide)) rfl
        clear hin
        exact .inl ⟨wanted_yes rfl rfl h74, grow_move rfl h0⟩
      · intro a w1 hG hin
        have h76 : a.eval (.tmp 76) = .bool true := slot_in (hin 76 (by decide)) rfl
        have h74 : a.eval (.tmp 74) = .bool true := slot_in (hin 74 (by decide)) rfl
        clear hin
        exact .inl ⟨wanted_yes rfl rfl h74, grow_move rfl h76⟩
      · intro a w1 hG hin
        have h1 : a.eval (.tmp 1) = .bool false := slot_out (hin 1 (by decide)) rfl
        have h77 : a.eval (.tmp 77) = .bool true := slot_in (hin 77 (by decide)) rfl
        clear hin
        exact .inr ⟨wanted_no rfl rfl h77, fun _ _ => rfl⟩
      · intro a w1 hG hin
        have h77 : a.eval (.tmp 77) = .bool true := slot_in (hin 77 (by decide)) rfl
        have h78 : a.eval (.tmp 78) = undef := slot_in (hin 78 (by decide)) rfl
        have h74 : a.eval (.tmp 74) = .bool true := slot_in (hin 74 (by decide)) rfl
        clear hin
        exact .inl ⟨wanted_yes rfl rfl h74, grow_pick rfl h77 rfl⟩
      · intro a w1 hG hin
        have h79 : a.eval (.tmp 79) = .bool true := slot_in (hin 79 (by decide)) rfl
        have h74 : a.eval (.tmp 74) = .bool true := slot_in (hin 74 (by decide)) rfl
        clear hin
        refine .inl ⟨wanted_yes rfl rfl h74, ?_⟩
        exact grow_call Tryd.call14 #[.bool true] (by simp only [List.map_toArray, List.map_cons, List.map_nil, h79]) ((truth_any (p := 1) (by decide) _).mono (by rintro e w2 ⟨rfl, hg⟩; exact ⟨_, rfl, hg, rfl⟩))
      · intro a w1 hG hin
        have h75 : a.eval (.tmp 75) = V 2 1 E := slot_in (hin 75 (by decide)) rfl
        have h80 : a.eval (.tmp 80) = V 2 1 E := slot_in (hin 80 (by decide)) rfl
        have h74 : a.eval (.tmp 74) = .bool true := slot_in (hin 74 (by decide)) rfl
        clear hin
        refine .inl ⟨wanted_yes rfl rfl h74, ?_⟩
        exact grow_eqV rfl h75 h80 (congrArg Value.bool (by simp [sameV]))
      · intro a w1 hG hin
        have h74 : a.eval (.tmp 74) = .bool true := slot_in (hin 74 (by decide)) rfl
        have h81 : a.eval (.tmp 81) = .bool true := slot_in (hin 81 (by decide)) rfl
        clear hin
        exact .inl ⟨wanted_none rfl, grow_pick rfl h74 h81⟩
      · intro a w1 hG hin
        have h82 : a.eval (.tmp 82) = .bool true := slot_in (hin 82 (by decide)) rfl
        clear hin
        exact .inl ⟨wanted_none rfl, grow_assign rfl h82⟩
      · intro s w3 hG hin hs
        have f4 : s 4 = .bool true := (hs 4 (by decide)).symm.trans (slot_in (hin 4) rfl)
        clear hin hs
        rw [show List.range 83 = [0, 1, 2, 3, 4, 5, 6, 7, 8, 9, 10, 11, 12, 13, 14, 15, 16, 17, 18, 19, 20, 21, 22, 23, 24, 25, 26, 27, 28, 29, 30, 31, 32, 33, 34, 35, 36, 37, 38, 39, 40, 41, 42, 43, 44, 45, 46, 47, 48, 49, 50, 51, 52, 53, 54, 55, 56, 57, 58, 59, 60, 61, 62, 63, 64, 65, 66, 67, 68, 69, 70, 71, 72, 73, 74, 75, 76, 77, 78, 79, 80, 81, 82] from rfl]
        simp only [List.map_cons, List.map_nil]
        rw [f4]
        go_wp2_with fail
        go_ret
        exact ⟨rfl, HG.out.trans hG⟩)

set_option maxRecDepth 100000 in
set_option maxHeartbeats 4000000 in
theorem logic_FT (w : World) : Calls Tryd.prog 6 #[.bool false, .bool true] w fun e w' => e = .returned (.bool true) ∧ G w w' := by
  go_enter Tryd.func6, Tryd.ntmps6
  go_wp2_with fail
  refine (shown_any _).mono ?_
  rintro e x1 ⟨rfl, g1⟩
  (try simp only [R.v, R.u, V])
  have h1 : G w x1 := g1
  have HG := hid h1
  clear h1 g1
  go_wp2_with fail
  refine (truth_any (p := 0) rfl _).mono ?_
  rintro e x2 ⟨rfl, g2⟩
  (try simp only [R.v, R.u, V])
  have h2 : G x1 x2 := g2
  replace HG := hid (HG.out.trans h2)
  clear h2 g2
  go_wp2_with fail
  refine (truth_any (p := 1) rfl _).mono ?_
  rintro e x3 ⟨rfl, g3⟩
  (try simp only [R.v, R.u, V])
  have h3 : G x2 x3 := ((G.refl _).alloc _).trans g3
  have B1 := hid (At.after g3)
  replace HG := hid (HG.out.trans h3)
  clear h3 g3
  obtain ⟨l1, p1, q1, r1, f1⟩ := B1.out
  go_wp2_with fail
  refine (and_any (p := 0) (by decide) _).mono ?_
  rintro e x4 ⟨rfl, g4⟩
  (try simp only [R.v, R.u, V])
  clear l1 p1 q1 r1 f1
  have h4 : G x3 x4 := ((G.refl _).alloc _).trans g4
  replace B1 := hid (B1.out.mono h4)
  have B2 := hid (At.after g4)
  replace HG := hid (HG.out.trans h4)
  clear h4 g4
  obtain ⟨l1, p1, q1, r1, f1⟩ := B1.out
  obtain ⟨l2, p2, q2, r2, f2⟩ := B2.out
  have B3 := hid (At.alloc x4 2 0 E)
  replace B1 := hid (B1.out.more (.cells #[.int .i64 2, .int .i64 0, .string ⟨#[]⟩] 24))
  replace B2 := hid (B2.out.more (.cells #[.int .i64 2, .int .i64 0, .string ⟨#[]⟩] 24))
  replace HG := hid (HG.out.alloc (.cells #[.int .i64 2, .int .i64 0, .string ⟨#[]⟩] 24))
  go_upto_region 5 with (fail)
  clear l1 p1 q1 r1 f1 l2 p2 q2 r2 f2
  refine wp_region_late (says [Say.is (V 2 0 E), Say.is (V 2 1 E), Say.is (V 2 1 E), Say.is (V 2 0 E), Say.is (.tuple #[V 2 1 E, .int .i64 0]), Say.is (.tuple #[V 2 1 E, .int .i64 0]), Say.is (V 2 1 E), Say.is (.int .i64 0), Say.box (x4.heap.size + 1)]) 9 7 83 (by kernel_rfl) (by kernel_rfl) rfl (says_mono _) (allSteps_take ⟨?_, ?_, ?_, ?_, ?_, ?_, ?_, ?_, ?_, trivial⟩) _ _ rfl rfl ?_
  · intro a w1 hG hin
    have h6 : a.eval (.tmp 6) = .pointer (some ⟨x2.heap.size, 0, none⟩) := slot_out (hin 6 (by decide)) rfl
    clear hin
    refine .inl ⟨wanted_none rfl, ?_⟩
    exact grow_load rfl (B1.out.mono hG) h6 rfl
  · intro a w1 hG hin
    have h26 : a.eval (.tmp 26) = V 2 0 E := slot_in (hin 26 (by decide)) rfl
    clear hin
    refine .inl ⟨wanted_none rfl, ?_⟩
    exact grow_call Tryd.call13 #[.string ⟨#[33]⟩, V 2 0 E] (by simp only [List.map_toArray, List.map_cons, List.map_nil, h26]; rfl) ((not_any (p := 1) (by decide) _).mono (by rintro e w2 ⟨rfl, hg⟩; exact ⟨_, rfl, hg, rfl⟩))
  · intro a w1 hG hin
    have h7 : a.eval (.tmp 7) = .pointer (some ⟨x3.heap.size, 0, none⟩) := slot_out (hin 7 (by decide)) rfl
    clear hin
    refine .inl ⟨wanted_none rfl, ?_⟩
    exact grow_load rfl (B2.out.mono hG) h7 rfl
  · intro a w1 hG hin
    have h28 : a.eval (.tmp 28) = V 2 1 E := slot_in (hin 28 (by decide)) rfl
    clear hin
    refine .inl ⟨wanted_none rfl, ?_⟩
    exact grow_call Tryd.call13 #[.string ⟨#[33]⟩, V 2 1 E] (by simp only [List.map_toArray, List.map_cons, List.map_nil, h28]; rfl) ((not_any (p := 0) (by decide) _).mono (by rintro e w2 ⟨rfl, hg⟩; exact ⟨_, rfl, hg, rfl⟩))
  · intro a w1 hG hin
    have h27 : a.eval (.tmp 27) = V 2 1 E := slot_in (hin 27 (by decide)) rfl
    have h29 : a.eval (.tmp 29) = V 2 0 E := slot_in (hin 29 (by decide)) rfl
    clear hin
    refine .inl ⟨wanted_none rfl, ?_⟩
    exact grow_call Tryd.call12 #[.string ⟨#[124, 124]⟩, V 2 1 E, V 2 0 E] (by simp only [List.map_toArray, List.map_cons, List.map_nil, h27, h29]; rfl) ((or_any (p := 1) (by decide) _).mono (by rintro e w2 ⟨rfl, hg⟩; exact ⟨_, rfl, hg, rfl⟩))
  · intro a w1 hG hin
    have h30 : a.eval (.tmp 30) = .tuple #[V 2 1 E, .int .i64 0] := slot_in (hin 30 (by decide)) rfl
    clear hin
    exact .inl ⟨wanted_none rfl, grow_move rfl h30⟩
  · intro a w1 hG hin
    have h25 : a.eval (.tmp 25) = .tuple #[V 2 1 E, .int .i64 0] := slot_in (hin 25 (by decide)) rfl
    clear hin
    refine .inl ⟨wanted_none rfl, ?_⟩
    exact grow_extract rfl h25 (.inl ⟨rfl, rfl⟩)
  · intro a w1 hG hin
    have h25 : a.eval (.tmp 25) = .tuple #[V 2 1 E, .int .i64 0] := slot_in (hin 25 (by decide)) rfl
    clear hin
    refine .inl ⟨wanted_none rfl, ?_⟩
    exact grow_extract rfl h25 (.inr ⟨rfl, rfl⟩)
  · intro a w1 hG hin
    clear hin
    refine .inl ⟨wanted_none rfl, ?_⟩
    refine grow_box (B := x4.heap.size + 1) rfl (by have h := hG.size; simpa using h) fun w9 h9 => ⟨_, rfl, (by have h := hG.size; simpa using h), h9⟩
  · intro s w2 l hG hl hs
    rw [show List.range 83 = [0, 1, 2, 3, 4, 5, 6, 7, 8, 9, 10, 11, 12, 13, 14, 15, 16, 17, 18, 19, 20, 21, 22, 23, 24, 25, 26, 27, 28, 29, 30, 31, 32, 33, 34, 35, 36, 37, 38, 39, 40, 41, 42, 43, 44, 45, 46, 47, 48, 49, 50, 51, 52, 53, 54, 55, 56, 57, 58, 59, 60, 61, 62, 63, 64, 65, 66, 67, 68, 69, 70, 71, 72, 73, 74, 75, 76, 77, 78, 79, 80, 81, 82] from rfl]
    simp only [List.map_cons, List.map_nil]
    rw [show List.range 83 = [0, 1, 2, 3, 4, 5, 6, 7, 8, 9, 10, 11, 12, 13, 14, 15, 16, 17, 18, 19, 20, 21, 22, 23, 24, 25, 26, 27, 28, 29, 30, 31, 32, 33, 34, 35, 36, 37, 38, 39, 40, 41, 42, 43, 44, 45, 46, 47, 48, 49, 50, 51, 52, 53, 54, 55, 56, 57, 58, 59, 60, 61, 62, 63, 64, 65, 66, 67, 68, 69, 70, 71, 72, 73, 74, 75, 76, 77, 78, 79, 80, 81, 82] from rfl] at hl hs
    simp only [List.map_cons, List.map_nil] at hl hs
    rcases hl with ⟨rfl, hin⟩ | ⟨rfl, hin⟩
    all_goals (
      have f0 : s 0 = .bool false := by first | exact (hs 0 (by decide)).symm.trans (slot_out (hin 0) rfl) | exact (hs 0 (by decide)).symm.trans (slot_out (hin 0 (fun e => absurd ((show writer _ _ 0 = none from rfl).symm.trans e) (by decide))) rfl)
      have f1 : s 1 = .bool true := by first | exact (hs 1 (by decide)).symm.trans (slot_out (hin 1) rfl) | exact (hs 1 (by decide)).symm.trans (slot_out (hin 1 (fun e => absurd ((show writer _ _ 1 = none from rfl).symm.trans e) (by decide))) rfl)
      have f2 : s 2 = undef := by first | exact (hs 2 (by decide)).symm.trans (slot_out (hin 2) rfl) | exact (hs 2 (by decide)).symm.trans (slot_out (hin 2 (fun e => absurd ((show writer _ _ 2 = none from rfl).symm.trans e) (by decide))) rfl)
      have f3 : s 3 = undef := by first | exact (hs 3 (by decide)).symm.trans (slot_out (hin 3) rfl) | exact (hs 3 (by decide)).symm.trans (slot_out (hin 3 (fun e => absurd ((show writer _ _ 3 = none from rfl).symm.trans e) (by decide))) rfl)
      have f4 : s 4 = .bool false := by first | exact (hs 4 (by decide)).symm.trans (slot_out (hin 4) rfl) | exact (hs 4 (by decide)).symm.trans (slot_out (hin 4 (fun e => absurd ((show writer _ _ 4 = none from rfl).symm.trans e) (by decide))) rfl)
      have f5 : s 5 = .bool true := by first | exact (hs 5 (by decide)).symm.trans (slot_out (hin 5) rfl) | exact (hs 5 (by decide)).symm.trans (slot_out (hin 5 (fun e => absurd ((show writer _ _ 5 = none from rfl).symm.trans e) (by decide))) rfl)
      have f6 : s 6 = .pointer (some ⟨x2.heap.size, 0, none⟩) := by first | exact (hs 6 (by decide)).symm.trans (slot_out (hin 6) rfl) | exact (hs 6 (by decide)).symm.trans (slot_out (hin 6 (fun e => absurd ((show writer _ _ 6 = none from rfl).symm.trans e) (by decide))) rfl)
      have f7 : s 7 = .pointer (some ⟨x3.heap.size, 0, none⟩) := by first | exact (hs 7 (by decide)).symm.trans (slot_out (hin 7) rfl) | exact (hs 7 (by decide)).symm.trans (slot_out (hin 7 (fun e => absurd ((show writer _ _ 7 = none from rfl).symm.trans e) (by decide))) rfl)
      have f8 : s 8 = .pointer (some ⟨x4.heap.size, 0, none⟩) := by first | exact (hs 8 (by decide)).symm.trans (slot_out (hin 8) rfl) | exact (hs 8 (by decide)).symm.trans (slot_out (hin 8 (fun e => absurd ((show writer _ _ 8 = none from rfl).symm.trans e) (by decide))) rfl)
      have f9 : s 9 = .int .i64 0 := by first | exact (hs 9 (by decide)).symm.trans (slot_out (hin 9) rfl) | exact (hs 9 (by decide)).symm.trans (slot_out (hin 9 (fun e => absurd ((show writer _ _ 9 = none from rfl).symm.trans e) (by decide))) rfl)
      have f10 : ∃ bb, s 10 = .pointer (some ⟨bb, 0, none⟩) ∧ x4.heap.size + 1 ≤ bb ∧ At w2 bb 0 0 E := by first | (have h := (slot_in (hin 10) rfl); rw [hs 10 (by decide)] at h; exact h) | (have h := (slot_in (hin 10 (fun e => absurd ((show writer _ _ 10 = some 8 from rfl).symm.trans e) (by decide))) rfl); rw [hs 10 (by decide)] at h; exact h)
      have f11 : s 11 = undef := by first | exact (hs 11 (by decide)).symm.trans (slot_out (hin 11) rfl) | exact (hs 11 (by decide)).symm.trans (slot_out (hin 11 (fun e => absurd ((show writer _ _ 11 = none from rfl).symm.trans e) (by decide))) rfl)
      have f12 : s 12 = undef := by first | exact (hs 12 (by decide)).symm.trans (slot_out (hin 12) rfl) | exact (hs 12 (by decide)).symm.trans (slot_out (hin 12 (fun e => absurd ((show writer _ _ 12 = none from rfl).symm.trans e) (by decide))) rfl)
      have f13 : s 13 = undef := by first | exact (hs 13 (by decide)).symm.trans (slot_out (hin 13) rfl) | exact (hs 13 (by decide)).symm.trans (slot_out (hin 13 (fun e => absurd ((show writer _ _ 13 = none from rfl).symm.trans e) (by decide))) rfl)
      have f14 : s 14 = .bool true := by first | exact (hs 14 (by decide)).symm.trans (slot_out (hin 14) rfl) | exact (hs 14 (by decide)).symm.trans (slot_out (hin 14 (fun e => absurd ((show writer _ _ 14 = none from rfl).symm.trans e) (by decide))) rfl)
      have f15 : s 15 = .bool false := by first | exact (hs 15 (by decide)).symm.trans (slot_out (hin 15) rfl) | exact (hs 15 (by decide)).symm.trans (slot_out (hin 15 (fun e => absurd ((show writer _ _ 15 = none from rfl).symm.trans e) (by decide))) rfl)
      have f16 : s 16 = V 2 0 E := by first | exact (hs 16 (by decide)).symm.trans (slot_out (hin 16) rfl) | exact (hs 16 (by decide)).symm.trans (slot_out (hin 16 (fun e => absurd ((show writer _ _ 16 = none from rfl).symm.trans e) (by decide))) rfl)
      have f17 : s 17 = .bool true := by first | exact (hs 17 (by decide)).symm.trans (slot_out (hin 17) rfl) | exact (hs 17 (by decide)).symm.trans (slot_out (hin 17 (fun e => absurd ((show writer _ _ 17 = none from rfl).symm.trans e) (by decide))) rfl)
      have f18 : s 18 = V 2 1 E := by first | exact (hs 18 (by decide)).symm.trans (slot_out (hin 18) rfl) | exact (hs 18 (by decide)).symm.trans (slot_out (hin 18 (fun e => absurd ((show writer _ _ 18 = none from rfl).symm.trans e) (by decide))) rfl)
      have f19 : s 19 = .tuple #[V 2 0 E, .int .i64 0] := by first | exact (hs 19 (by decide)).symm.trans (slot_out (hin 19) rfl) | exact (hs 19 (by decide)).symm.trans (slot_out (hin 19 (fun e => absurd ((show writer _ _ 19 = none from rfl).symm.trans e) (by decide))) rfl)
      have f20 : s 20 = V 2 0 E := by first | exact (hs 20 (by decide)).symm.trans (slot_out (hin 20) rfl) | exact (hs 20 (by decide)).symm.trans (slot_out (hin 20 (fun e => absurd ((show writer _ _ 20 = none from rfl).symm.trans e) (by decide))) rfl)
      have f21 : s 21 = V 2 1 E := by first | exact (hs 21 (by decide)).symm.trans (slot_out (hin 21) rfl) | exact (hs 21 (by decide)).symm.trans (slot_out (hin 21 (fun e => absurd ((show writer _ _ 21 = none from rfl).symm.trans e) (by decide))) rfl)
      have f22 : s 22 = .tuple #[V 2 0 E, .int .i64 0] := by first | exact (hs 22 (by decide)).symm.trans (slot_out (hin 22) rfl) | exact (hs 22 (by decide)).symm.trans (slot_out (hin 22 (fun e => absurd ((show writer _ _ 22 = none from rfl).symm.trans e) (by decide))) rfl)
      have f23 : s 23 = V 2 0 E := by first | exact (hs 23 (by decide)).symm.trans (slot_out (hin 23) rfl) | exact (hs 23 (by decide)).symm.trans (slot_out (hin 23 (fun e => absurd ((show writer _ _ 23 = none from rfl).symm.trans e) (by decide))) rfl)
      have f24 : s 24 = .int .i64 0 := by first | exact (hs 24 (by decide)).symm.trans (slot_out (hin 24) rfl) | exact (hs 24 (by decide)).symm.trans (slot_out (hin 24 (fun e => absurd ((show writer _ _ 24 = none from rfl).symm.trans e) (by decide))) rfl)
      have f25 : s 25 = .tuple #[V 2 1 E, .int .i64 0] := by first | exact (hs 25 (by decide)).symm.trans (slot_in (hin 25) rfl) | exact (hs 25 (by decide)).symm.trans (slot_in (hin 25 (fun e => absurd ((show writer _ _ 25 = some 5 from rfl).symm.trans e) (by decide))) rfl)
      have f31 : s 31 = V 2 1 E := by first | exact (hs 31 (by decide)).symm.trans (slot_in (hin 31) rfl) | exact (hs 31 (by decide)).symm.trans (slot_in (hin 31 (fun e => absurd ((show writer _ _ 31 = some 6 from rfl).symm.trans e) (by decide))) rfl)
      have f33 : s 33 = undef := by first | exact (hs 33 (by decide)).symm.trans (slot_out (hin 33) rfl) | exact (hs 33 (by decide)).symm.trans (slot_out (hin 33 (fun e => absurd ((show writer _ _ 33 = none from rfl).symm.trans e) (by decide))) rfl)
      have f34 : s 34 = undef := by first | exact (hs 34 (by decide)).symm.trans (slot_out (hin 34) rfl) | exact (hs 34 (by decide)).symm.trans (slot_out (hin 34 (fun e => absurd ((show writer _ _ 34 = none from rfl).symm.trans e) (by decide))) rfl)
      have f35 : s 35 = undef := by first | exact (hs 35 (by decide)).symm.trans (slot_out (hin 35) rfl) | exact (hs 35 (by decide)).symm.trans (slot_out (hin 35 (fun e => absurd ((show writer _ _ 35 = none from rfl).symm.trans e) (by decide))) rfl)
      have f36 : s 36 = undef := by first | exact (hs 36 (by decide)).symm.trans (slot_out (hin 36) rfl) | exact (hs 36 (by decide)).symm.trans (slot_out (hin 36 (fun e => absurd ((show writer _ _ 36 = none from rfl).symm.trans e) (by decide))) rfl)
      have f37 : s 37 = undef := by first | exact (hs 37 (by decide)).symm.trans (slot_out (hin 37) rfl) | exact (hs 37 (by decide)).symm.trans (slot_out (hin 37 (fun e => absurd ((show writer _ _ 37 = none from rfl).symm.trans e) (by decide))) rfl)
      have f38 : s 38 = undef := by first | exact (hs 38 (by decide)).symm.trans (slot_out (hin 38) rfl) | exact (hs 38 (by decide)).symm.trans (slot_out (hin 38 (fun e => absurd ((show writer _ _ 38 = none from rfl).symm.trans e) (by decide))) rfl)
      have f39 : s 39 = undef := by first | exact (hs 39 (by decide)).symm.trans (slot_out (hin 39) rfl) | exact (hs 39 (by decide)).symm.trans (slot_out (hin 39 (fun e => absurd ((show writer _ _ 39 = none from rfl).symm.trans e) (by decide))) rfl)
      have f40 : s 40 = undef := by first | exact (hs 40 (by decide)).symm.trans (slot_out (hin 40) rfl) | exact (hs 40 (by decide)).symm.trans (slot_out (hin 40 (fun e => absurd ((show writer _ _ 40 = none from rfl).symm.trans e) (by decide))) rfl)
      have f41 : s 41 = undef := by first | exact (hs 41 (by decide)).symm.trans (slot_out (hin 41) rfl) | exact (hs 41 (by decide)).symm.trans (slot_out (hin 41 (fun e => absurd ((show writer _ _ 41 = none from rfl).symm.trans e) (by decide))) rfl)
      have f42 : s 42 = undef := by first | exact (hs 42 (by decide)).symm.trans (slot_out (hin 42) rfl) | exact (hs 42 (by decide)).symm.trans (slot_out (hin 42 (fun e => absurd ((show writer _ _ 42 = none from rfl).symm.trans e) (by decide))) rfl)
      have f43 : s 43 = undef := by first | exact (hs 43 (by decide)).symm.trans (slot_out (hin 43) rfl) | exact (hs 43 (by decide)).symm.trans (slot_out (hin 43 (fun e => absurd ((show writer _ _ 43 = none from rfl).symm.trans e) (by decide))) rfl)
      have f44 : s 44 = undef := by first | exact (hs 44 (by decide)).symm.trans (slot_out (hin 44) rfl) | exact (hs 44 (by decide)).symm.trans (slot_out (hin 44 (fun e => absurd ((show writer _ _ 44 = none from rfl).symm.trans e) (by decide))) rfl)
      have f45 : s 45 = undef := by first | exact (hs 45 (by decide)).symm.trans (slot_out (hin 45) rfl) | exact (hs 45 (by decide)).symm.trans (slot_out (hin 45 (fun e => absurd ((show writer _ _ 45 = none from rfl).symm.trans e) (by decide))) rfl)
      have f46 : s 46 = undef := by first | exact (hs 46 (by decide)).symm.trans (slot_out (hin 46) rfl) | exact (hs 46 (by decide)).symm.trans (slot_out (hin 46 (fun e => absurd ((show writer _ _ 46 = none from rfl).symm.trans e) (by decide))) rfl)
      have f47 : s 47 = undef := by first | exact (hs 47 (by decide)).symm.trans (slot_out (hin 47) rfl) | exact (hs 47 (by decide)).symm.trans (slot_out (hin 47 (fun e => absurd ((show writer _ _ 47 = none from rfl).symm.trans e) (by decide))) rfl)
      have f48 : s 48 = undef := by first | exact (hs 48 (by decide)).symm.trans (slot_out (hin 48) rfl) | exact (hs 48 (by decide)).symm.trans (slot_out (hin 48 (fun e => absurd ((show writer _ _ 48 = none from rfl).symm.trans e) (by decide))) rfl)
      have f49 : s 49 = undef := by first | exact (hs 49 (by decide)).symm.trans (slot_out (hin 49) rfl) | exact (hs 49 (by decide)).symm.trans (slot_out (hin 49 (fun e => absurd ((show writer _ _ 49 = none from rfl).symm.trans e) (by decide))) rfl)
      have f50 : s 50 = undef := by first | exact (hs 50 (by decide)).symm.trans (slot_out (hin 50) rfl) | exact (hs 50 (by decide)).symm.trans (slot_out (hin 50 (fun e => absurd ((show writer _ _ 50 = none from rfl).symm.trans e) (by decide))) rfl)
      have f51 : s 51 = undef := by first | exact (hs 51 (by decide)).symm.trans (slot_out (hin 51) rfl) | exact (hs 51 (by decide)).symm.trans (slot_out (hin 51 (fun e => absurd ((show writer _ _ 51 = none from rfl).symm.trans e) (by decide))) rfl)
      have f52 : s 52 = undef := by first | exact (hs 52 (by decide)).symm.trans (slot_out (hin 52) rfl) | exact (hs 52 (by decide)).symm.trans (slot_out (hin 52 (fun e => absurd ((show writer _ _ 52 = none from rfl).symm.trans e) (by decide))) rfl)
      have f53 : s 53 = undef := by first | exact (hs 53 (by decide)).symm.trans (slot_out (hin 53) rfl) | exact (hs 53 (by decide)).symm.trans (slot_out (hin 53 (fun e => absurd ((show writer _ _ 53 = none from rfl).symm.trans e) (by decide))) rfl)
      have f54 : s 54 = undef := by first | exact (hs 54 (by decide)).symm.trans (slot_out (hin 54) rfl) | exact (hs 54 (by decide)).symm.trans (slot_out (hin 54 (fun e => absurd ((show writer _ _ 54 = none from rfl).symm.trans e) (by decide))) rfl)
      have f55 : s 55 = undef := by first | exact (hs 55 (by decide)).symm.trans (slot_out (hin 55) rfl) | exact (hs 55 (by decide)).symm.trans (slot_out (hin 55 (fun e => absurd ((show writer _ _ 55 = none from rfl).symm.trans e) (by decide))) rfl)
      have f56 : s 56 = undef := by first | exact (hs 56 (by decide)).symm.trans (slot_out (hin 56) rfl) | exact (hs 56 (by decide)).symm.trans (slot_out (hin 56 (fun e => absurd ((show writer _ _ 56 = none from rfl).symm.trans e) (by decide))) rfl)
      have f57 : s 57 = undef := by first | exact (hs 57 (by decide)).symm.trans (slot_out (hin 57) rfl) | exact (hs 57 (by decide)).symm.trans (slot_out (hin 57 (fun e => absurd ((show writer _ _ 57 = none from rfl).symm.trans e) (by decide))) rfl)
      have f58 : s 58 = undef := by first | exact (hs 58 (by decide)).symm.trans (slot_out (hin 58) rfl) | exact (hs 58 (by decide)).symm.trans (slot_out (hin 58 (fun e => absurd ((show writer _ _ 58 = none from rfl).symm.trans e) (by decide))) rfl)
      have f59 : s 59 = undef := by first | exact (hs 59 (by decide)).symm.trans (slot_out (hin 59) rfl) | exact (hs 59 (by decide)).symm.trans (slot_out (hin 59 (fun e => absurd ((show writer _ _ 59 = none from rfl).symm.trans e) (by decide))) rfl)
      have f60 : s 60 = undef := by first | exact (hs 60 (by decide)).symm.trans (slot_out (hin 60) rfl) | exact (hs 60 (by decide)).symm.trans (slot_out (hin 60 (fun e => absurd ((show writer _ _ 60 = none from rfl).symm.trans e) (by decide))) rfl)
      have f61 : s 61 = undef := by first | exact (hs 61 (by decide)).symm.trans (slot_out (hin 61) rfl) | exact (hs 61 (by decide)).symm.trans (slot_out (hin 61 (fun e => absurd ((show writer _ _ 61 = none from rfl).symm.trans e) (by decide))) rfl)
      have f62 : s 62 = undef := by first | exact (hs 62 (by decide)).symm.trans (slot_out (hin 62) rfl) | exact (hs 62 (by decide)).symm.trans (slot_out (hin 62 (fun e => absurd ((show writer _ _ 62 = none from rfl).symm.trans e) (by decide))) rfl)
      have f63 : s 63 = undef := by first | exact (hs 63 (by decide)).symm.trans (slot_out (hin 63) rfl) | exact (hs 63 (by decide)).symm.trans (slot_out (hin 63 (fun e => absurd ((show writer _ _ 63 = none from rfl).symm.trans e) (by decide))) rfl)
      have f64 : s 64 = undef := by first | exact (hs 64 (by decide)).symm.trans (slot_out (hin 64) rfl) | exact (hs 64 (by decide)).symm.trans (slot_out (hin 64 (fun e => absurd ((show writer _ _ 64 = none from rfl).symm.trans e) (by decide))) rfl)
      have f65 : s 65 = undef := by first | exact (hs 65 (by decide)).symm.trans (slot_out (hin 65) rfl) | exact (hs 65 (by decide)).symm.trans (slot_out (hin 65 (fun e => absurd ((show writer _ _ 65 = none from rfl).symm.trans e) (by decide))) rfl)
      have f66 : s 66 = undef := by first | exact (hs 66 (by decide)).symm.trans (slot_out (hin 66) rfl) | exact (hs 66 (by decide)).symm.trans (slot_out (hin 66 (fun e => absurd ((show writer _ _ 66 = none from rfl).symm.trans e) (by decide))) rfl)
      have f67 : s 67 = undef := by first | exact (hs 67 (by decide)).symm.trans (slot_out (hin 67) rfl) | exact (hs 67 (by decide)).symm.trans (slot_out (hin 67 (fun e => absurd ((show writer _ _ 67 = none from rfl).symm.trans e) (by decide))) rfl)
      have f68 : s 68 = undef := by first | exact (hs 68 (by decide)).symm.trans (slot_out (hin 68) rfl) | exact (hs 68 (by decide)).symm.trans (slot_out (hin 68 (fun e => absurd ((show writer _ _ 68 = none from rfl).symm.trans e) (by decide))) rfl)
      have f69 : s 69 = undef := by first | exact (hs 69 (by decide)).symm.trans (slot_out (hin 69) rfl) | exact (hs 69 (by decide)).symm.trans (slot_out (hin 69 (fun e => absurd ((show writer _ _ 69 = none from rfl).symm.trans e) (by decide))) rfl)
      have f70 : s 70 = undef := by first | exact (hs 70 (by decide)).symm.trans (slot_out (hin 70) rfl) | exact (hs 70 (by decide)).symm.trans (slot_out (hin 70 (fun e => absurd ((show writer _ _ 70 = none from rfl).symm.trans e) (by decide))) rfl)
      have f71 : s 71 = undef := by first | exact (hs 71 (by decide)).symm.trans (slot_out (hin 71) rfl) | exact (hs 71 (by decide)).symm.trans (slot_out (hin 71 (fun e => absurd ((show writer _ _ 71 = none from rfl).symm.trans e) (by decide))) rfl)
      have f72 : s 72 = undef := by first | exact (hs 72 (by decide)).symm.trans (slot_out (hin 72) rfl) | exact (hs 72 (by decide)).symm.trans (slot_out (hin 72 (fun e => absurd ((show writer _ _ 72 = none from rfl).symm.trans e) (by decide))) rfl)
      have f73 : s 73 = undef := by first | exact (hs 73 (by decide)).symm.trans (slot_out (hin 73) rfl) | exact (hs 73 (by decide)).symm.trans (slot_out (hin 73 (fun e => absurd ((show writer _ _ 73 = none from rfl).symm.trans e) (by decide))) rfl)
      have f74 : s 74 = undef := by first | exact (hs 74 (by decide)).symm.trans (slot_out (hin 74) rfl) | exact (hs 74 (by decide)).symm.trans (slot_out (hin 74 (fun e => absurd ((show writer _ _ 74 = none from rfl).symm.trans e) (by decide))) rfl)
      have f75 : s 75 = undef := by first | exact (hs 75 (by decide)).symm.trans (slot_out (hin 75) rfl) | exact (hs 75 (by decide)).symm.trans (slot_out (hin 75 (fun e => absurd ((show writer _ _ 75 = none from rfl).symm.trans e) (by decide))) rfl)
      have f76 : s 76 = undef := by first | exact (hs 76 (by decide)).symm.trans (slot_out (hin 76) rfl) | exact (hs 76 (by decide)).symm.trans (slot_out (hin 76 (fun e => absurd ((show writer _ _ 76 = none from rfl).symm.trans e) (by decide))) rfl)
      have f77 : s 77 = undef := by first | exact (hs 77 (by decide)).symm.trans (slot_out (hin 77) rfl) | exact (hs 77 (by decide)).symm.trans (slot_out (hin 77 (fun e => absurd ((show writer _ _ 77 = none from rfl).symm.trans e) (by decide))) rfl)
      have f78 : s 78 = undef := by first | exact (hs 78 (by decide)).symm.trans (slot_out (hin 78) rfl) | exact (hs 78 (by decide)).symm.trans (slot_out (hin 78 (fun e => absurd ((show writer _ _ 78 = none from rfl).symm.trans e) (by decide))) rfl)
      have f79 : s 79 = undef := by first | exact (hs 79 (by decide)).symm.trans (slot_out (hin 79) rfl) | exact (hs 79 (by decide)).symm.trans (slot_out (hin 79 (fun e => absurd ((show writer _ _ 79 = none from rfl).symm.trans e) (by decide))) rfl)
      have f80 : s 80 = undef := by first | exact (hs 80 (by decide)).symm.trans (slot_out (hin 80) rfl) | exact (hs 80 (by decide)).symm.trans (slot_out (hin 80 (fun e => absurd ((show writer _ _ 80 = none from rfl).symm.trans e) (by decide))) rfl)
      have f81 : s 81 = undef := by first | exact (hs 81 (by decide)).symm.trans (slot_out (hin 81) rfl) | exact (hs 81 (by decide)).symm.trans (slot_out (hin 81 (fun e => absurd ((show writer _ _ 81 = none from rfl).symm.trans e) (by decide))) rfl)
      have f82 : s 82 = undef := by first | exact (hs 82 (by decide)).symm.trans (slot_out (hin 82) rfl) | exact (hs 82 (by decide)).symm.trans (slot_out (hin 82 (fun e => absurd ((show writer _ _ 82 = none from rfl).symm.trans e) (by decide))) rfl)
      (try (have f32 : s 32 = .int .i64 0 := (hs 32 (by decide)).symm.trans (slot_in (hin 32) rfl); rw [f32]; clear f32))
      clear hin hs
      rw [f0, f1, f2, f3, f4, f5, f6, f7, f8, f9, f11, f12, f13, f14, f15, f16, f17, f18, f19, f20, f21, f22, f23, f24, f25, f31, f33, f34, f35, f36, f37, f38, f39, f40, f41, f42, f43, f44, f45, f46, f47, f48, f49, f50, f51, f52, f53, f54, f55, f56, f57, f58, f59, f60, f61, f62, f63, f64, f65, f66, f67, f68, f69, f70, f71, f72, f73, f74, f75, f76, f77, f78, f79, f80, f81, f82]
      obtain ⟨bb, e10, hbb, hA⟩ := f10
      rw [e10]
      clear e10 f0 f1 f2 f3 f4 f5 f6 f7 f8 f9 f11 f12 f13 f14 f15 f16 f17 f18 f19 f20 f21 f22 f23 f24 f25 f31 f33 f34 f35 f36 f37 f38 f39 f40 f41 f42 f43 f44 f45 f46 f47 f48 f49 f50 f51 f52 f53 f54 f55 f56 f57 f58 f59 f60 f61 f62 f63 f64 f65 f66 f67 f68 f69 f70 f71 f72 f73 f74 f75 f76 f77 f78 f79 f80 f81 f82
      simp only [V, E]
      have NB := hid hA
      obtain ⟨l9, p9, q9, r9, f9⟩ := hA
      simp only [List.drop_succ_cons, List.drop_zero]
      go_upto_region 6 with (fail)
      clear l9 p9 q9 r9 f9
      have s1 := B1.out.lt
      have s2 := B2.out.lt
      have s3 := B3.out.lt
      have sw := HG.out.size
      simp at s1 s2 s3 sw
      have C1 := keep (B1.out.mono hG) (c := bb) (by omega) 2 1 ⟨#[]⟩
      have C2 := keep (B2.out.mono hG) (c := bb) (by omega) 2 1 ⟨#[]⟩
      have C3 := keep (B3.out.mono hG) (c := bb) (by omega) 2 1 ⟨#[]⟩
      have CN := NB.out.set 2 1 ⟨#[]⟩
      have CG := G.set (G.set (G.set (HG.out.trans hG) (p := ⟨bb, 0, none⟩) (by simp; omega) (.int .i64 2)) (p := ⟨bb, 1, none⟩) (by simp; omega) (.int .i64 1)) (p := ⟨bb, 2, none⟩) (by simp; omega) (.string ⟨#[]⟩)
      generalize ((w2.setCell ⟨bb, 0, none⟩ (.int .i64 2)).setCell ⟨bb, 1, none⟩ (.int .i64 1)).setCell ⟨bb, 2, none⟩ (.string ⟨#[]⟩) = y at C1 C2 C3 CN CG ⊢
      replace B1 := hid C1
      replace B2 := hid C2
      replace B3 := hid C3
      have B4 := hid CN
      replace HG := hid CG
      clear C1 C2 C3 CN CG NB hG s1 s2 s3 sw hbb
      obtain ⟨l1, p1, q1, r1, f1⟩ := B1.out
      obtain ⟨l2, p2, q2, r2, f2⟩ := B2.out
      obtain ⟨l3, p3, q3, r3, f3⟩ := B3.out
      obtain ⟨l4, p4, q4, r4, f4⟩ := B4.out
      go_wp2_with fail
      refine (or_any (p := 1) (by decide) _).mono ?_
      rintro e x5 ⟨rfl, g5⟩
      (try simp only [R.v, R.u, V])
      clear l1 p1 q1 r1 f1
      clear l2 p2 q2 r2 f2
      clear l3 p3 q3 r3 f3
      clear l4 p4 q4 r4 f4
      have h5 : G y x5 := g5
      replace B1 := hid (B1.out.mono h5)
      replace B2 := hid (B2.out.mono h5)
      replace B3 := hid (B3.out.mono h5)
      replace B4 := hid (B4.out.mono h5)
      replace HG := hid (HG.out.trans h5)
      clear h5 g5
      obtain ⟨l1, p1, q1, r1, f1⟩ := B1.out
      obtain ⟨l2, p2, q2, r2, f2⟩ := B2.out
      obtain ⟨l3, p3, q3, r3, f3⟩ := B3.out
      obtain ⟨l4, p4, q4, r4, f4⟩ := B4.out
      have B5 := hid (At.alloc x5 2 1 E)
      replace B1 := hid (B1.out.more (.cells #[.int .i64 2, .int .i64 1, .string ⟨#[]⟩] 24))
      replace B2 := hid (B2.out.more (.cells #[.int .i64 2, .int .i64 1, .string ⟨#[]⟩] 24))
      replace B3 := hid (B3.out.more (.cells #[.int .i64 2, .int .i64 1, .string ⟨#[]⟩] 24))
      replace B4 := hid (B4.out.more (.cells #[.int .i64 2, .int .i64 1, .string ⟨#[]⟩] 24))
      replace HG := hid (HG.out.alloc (.cells #[.int .i64 2, .int .i64 1, .string ⟨#[]⟩] 24))
      go_upto_region 7 with (fail)
      clear l1 p1 q1 r1 f1 l2 p2 q2 r2 f2 l3 p3 q3 r3 f3 l4 p4 q4 r4 f4
      refine wp_region_grows (says [Say.is (.bool true), Say.is (.bool true), Say.is (.int .i64 0), Say.is (.bool true), Say.is (.bool true), Say.is (.bool true), Say.is (.int .i64 0), Say.is (.bool true), Say.is (.bool true), Say.is (.bool true), Say.is (.int .i64 0), Say.is (.bool true), Say.is (.bool true), Say.is (.bool true), Say.is (V 2 0 E), Say.is (V 2 1 E), Say.is (V 2 1 E), Say.is (.bool true), Say.is (.bool true), Say.is (.bool true), Say.is (V 2 0 E), Say.is (V 2 1 E), Say.is (V 2 0 E), Say.is (V 2 0 E), Say.is (.bool true), Say.is (.bool true), Say.is (.bool true), Say.is (V 2 0 E), Say.is (.bool false), Say.is (.bool false), Say.is (undef), Say.is (.bool false), Say.is (V 2 0 E), Say.is (.bool true), Say.is (.bool true), Say.is (.bool true), Say.is (V 2 1 E), Say.is (.bool false), Say.is (.bool false), Say.is (.bool true), Say.is (.bool true), Say.is (V 2 1 E), Say.is (.bool true), Say.is (.bool true), Say.is (.bool true)]) 83 (by kernel_rfl) (by kernel_rfl) rfl (says_mono _) (allSteps_take ⟨?_, ?_, ?_, ?_, ?_, ?_, ?_, ?_, ?_, ?_, ?_, ?_, ?_, ?_, ?_, ?_, ?_, ?_, ?_, ?_, ?_, ?_, ?_, ?_, ?_, ?_, ?_, ?_, ?_, ?_, ?_, ?_, ?_, ?_, ?_, ?_, ?_, ?_, ?_, ?_, ?_, ?_, ?_, ?_, ?_, trivial⟩) ?_
      · intro a w1 hG hin
        have h5 : a.eval (.tmp 5) = .bool true := slot_out (hin 5 (by decide)) rfl
        clear hin
        exact .inl ⟨wanted_none rfl, grow_move rfl h5⟩
      · intro a w1 hG hin
        have h39 : a.eval (.tmp 39) = .bool true := slot_in (hin 39 (by decide)) rfl
        clear hin
        exact .inl ⟨wanted_none rfl, grow_move rfl h39⟩
      · intro a w1 hG hin
        have h9 : a.eval (.tmp 9) = .int .i64 0 := slot_out (hin 9 (by decide)) rfl
        have h40 : a.eval (.tmp 40) = .bool true := slot_in (hin 40 (by decide)) rfl
        clear hin
        exact .inl ⟨wanted_yes rfl rfl h40, grow_move rfl h9⟩
      · intro a w1 hG hin
        have h41 : a.eval (.tmp 41) = .int .i64 0 := slot_in (hin 41 (by decide)) rfl
        have h40 : a.eval (.tmp 40) = .bool true := slot_in (hin 40 (by decide)) rfl
        clear hin
        refine .inl ⟨wanted_yes rfl rfl h40, ?_⟩
        exact grow_eqint rfl h41 rfl rfl
      · intro a w1 hG hin
        have h40 : a.eval (.tmp 40) = .bool true := slot_in (hin 40 (by decide)) rfl
        have h42 : a.eval (.tmp 42) = .bool true := slot_in (hin 42 (by decide)) rfl
        clear hin
        exact .inl ⟨wanted_none rfl, grow_pick rfl h40 h42⟩
      · intro a w1 hG hin
        have h43 : a.eval (.tmp 43) = .bool true := slot_in (hin 43 (by decide)) rfl
        clear hin
        exact .inl ⟨wanted_none rfl, grow_move rfl h43⟩
      · intro a w1 hG hin
        have h11 : a.eval (.tmp 11) = .int .i64 0 := slot_out (hin 11 (by decide)) rfl
        have h44 : a.eval (.tmp 44) = .bool true := slot_in (hin 44 (by decide)) rfl
        clear hin
        exact .inl ⟨wanted_yes rfl rfl h44, grow_move rfl h11⟩
      · intro a w1 hG hin
        have h45 : a.eval (.tmp 45) = .int .i64 0 := slot_in (hin 45 (by decide)) rfl
        have h44 : a.eval (.tmp 44) = .bool true := slot_in (hin 44 (by decide)) rfl
        clear hin
        refine .inl ⟨wanted_yes rfl rfl h44, ?_⟩
        exact grow_eqint rfl h45 rfl rfl
      · intro a w1 hG hin
        have h44 : a.eval (.tmp 44) = .bool true := slot_in (hin 44 (by decide)) rfl
        have h46 : a.eval (.tmp 46) = .bool true := slot_in (hin 46 (by decide)) rfl
        clear hin
        exact .inl ⟨wanted_none rfl, grow_pick rfl h44 h46⟩
      · intro a w1 hG hin
        have h47 : a.eval (.tmp 47) = .bool true := slot_in (hin 47 (by decide)) rfl
        clear hin
        exact .inl ⟨wanted_none rfl, grow_move rfl h47⟩
      · intro a w1 hG hin
        have h13 : a.eval (.tmp 13) = .int .i64 0 := slot_out (hin 13 (by decide)) rfl
        have h48 : a.eval (.tmp 48) = .bool true := slot_in (hin 48 (by decide)) rfl
        clear hin
        exact .inl ⟨wanted_yes rfl rfl h48, grow_move rfl h13⟩
      · intro a w1 hG hin
        have h49 : a.eval (.tmp 49) = .int .i64 0 := slot_in (hin 49 (by decide)) rfl
        have h48 : a.eval (.tmp 48) = .bool true := slot_in (hin 48 (by decide)) rfl
        clear hin
        refine .inl ⟨wanted_yes rfl rfl h48, ?_⟩
        exact grow_eqint rfl h49 rfl rfl
      · intro a w1 hG hin
        have h48 : a.eval (.tmp 48) = .bool true := slot_in (hin 48 (by decide)) rfl
        have h50 : a.eval (.tmp 50) = .bool true := slot_in (hin 50 (by decide)) rfl
        clear hin
        exact .inl ⟨wanted_none rfl, grow_pick rfl h48 h50⟩
      · intro a w1 hG hin
        have h51 : a.eval (.tmp 51) = .bool true := slot_in (hin 51 (by decide)) rfl
        clear hin
        exact .inl ⟨wanted_none rfl, grow_move rfl h51⟩
      · intro a w1 hG hin
        have h8 : a.eval (.tmp 8) = .pointer (some ⟨x4.heap.size, 0, none⟩) := slot_out (hin 8 (by decide)) rfl
        have h52 : a.eval (.tmp 52) = .bool true := slot_in (hin 52 (by decide)) rfl
        clear hin
        refine .inl ⟨wanted_yes rfl rfl h52, ?_⟩
        exact grow_load rfl (B3.out.mono hG) h8 rfl
      · intro a w1 hG hin
        have h53 : a.eval (.tmp 53) = V 2 0 E := slot_in (hin 53 (by decide)) rfl
        have h52 : a.eval (.tmp 52) = .bool true := slot_in (hin 52 (by decide)) rfl
        clear hin
        refine .inl ⟨wanted_yes rfl rfl h52, ?_⟩
        exact grow_call Tryd.call13 #[.string ⟨#[33]⟩, V 2 0 E] (by simp only [List.map_toArray, List.map_cons, List.map_nil, h53]; rfl) ((not_any (p := 1) (by decide) _).mono (by rintro e w2 ⟨rfl, hg⟩; exact ⟨_, rfl, hg, rfl⟩))
      · intro a w1 hG hin
        have h10 : a.eval (.tmp 10) = .pointer (some ⟨bb, 0, none⟩) := slot_out (hin 10 (by decide)) rfl
        have h52 : a.eval (.tmp 52) = .bool true := slot_in (hin 52 (by decide)) rfl
        clear hin
        refine .inl ⟨wanted_yes rfl rfl h52, ?_⟩
        exact grow_load rfl (B4.out.mono hG) h10 rfl
      · intro a w1 hG hin
        have h54 : a.eval (.tmp 54) = V 2 1 E := slot_in (hin 54 (by decide)) rfl
        have h55 : a.eval (.tmp 55) = V 2 1 E := slot_in (hin 55 (by decide)) rfl
        have h52 : a.eval (.tmp 52) = .bool true := slot_in (hin 52 (by decide)) rfl
        clear hin
        refine .inl ⟨wanted_yes rfl rfl h52, ?_⟩
        exact grow_eqV rfl h54 h55 (congrArg Value.bool (by simp [sameV]))
      · intro a w1 hG hin
        have h52 : a.eval (.tmp 52) = .bool true := slot_in (hin 52 (by decide)) rfl
        have h56 : a.eval (.tmp 56) = .bool true := slot_in (hin 56 (by decide)) rfl
        clear hin
        exact .inl ⟨wanted_none rfl, grow_pick rfl h52 h56⟩
      · intro a w1 hG hin
        have h57 : a.eval (.tmp 57) = .bool true := slot_in (hin 57 (by decide)) rfl
        clear hin
        exact .inl ⟨wanted_none rfl, grow_move rfl h57⟩
      · intro a w1 hG hin
        have h6 : a.eval (.tmp 6) = .pointer (some ⟨x2.heap.size, 0, none⟩) := slot_out (hin 6 (by decide)) rfl
        have h58 : a.eval (.tmp 58) = .bool true := slot_in (hin 58 (by decide)) rfl
        clear hin
        refine .inl ⟨wanted_yes rfl rfl h58, ?_⟩
        exact grow_load rfl (B1.out.mono hG) h6 rfl
      · intro a w1 hG hin
        have h59 : a.eval (.tmp 59) = V 2 0 E := slot_in (hin 59 (by decide)) rfl
        have h58 : a.eval (.tmp 58) = .bool true := slot_in (hin 58 (by decide)) rfl
        clear hin
        refine .inl ⟨wanted_yes rfl rfl h58, ?_⟩
        exact grow_call Tryd.call13 #[.string ⟨#[33]⟩, V 2 0 E] (by simp only [List.map_toArray, List.map_cons, List.map_nil, h59]; rfl) ((not_any (p := 1) (by decide) _).mono (by rintro e w2 ⟨rfl, hg⟩; exact ⟨_, rfl, hg, rfl⟩))
      · intro a w1 hG hin
        have h60 : a.eval (.tmp 60) = V 2 1 E := slot_in (hin 60 (by decide)) rfl
        have h58 : a.eval (.tmp 58) = .bool true := slot_in (hin 58 (by decide)) rfl
        clear hin
        refine .inl ⟨wanted_yes rfl rfl h58, ?_⟩
        exact grow_call Tryd.call13 #[.string ⟨#[33]⟩, V 2 1 E] (by simp only [List.map_toArray, List.map_cons, List.map_nil, h60]; rfl) ((not_any (p := 0) (by decide) _).mono (by rintro e w2 ⟨rfl, hg⟩; exact ⟨_, rfl, hg, rfl⟩))
      · intro a w1 hG hin
        have h6 : a.eval (.tmp 6) = .pointer (some ⟨x2.heap.size, 0, none⟩) := slot_out (hin 6 (by decide)) rfl
        have h58 : a.eval (.tmp 58) = .bool true := slot_in (hin 58 (by decide)) rfl
        clear hin
        refine .inl ⟨wanted_yes rfl rfl h58, ?_⟩
        exact grow_load rfl (B1.out.mono hG) h6 rfl
      · intro a w1 hG hin
        have h61 : a.eval (.tmp 61) = V 2 0 E := slot_in (hin 61 (by decide)) rfl
        have h62 : a.eval (.tmp 62) = V 2 0 E := slot_in (hin 62 (by decide)) rfl
        have h58 : a.eval (.tmp 58) = .bool true := slot_in (hin 58 (by decide)) rfl
        clear hin
        refine .inl ⟨wanted_yes rfl rfl h58, ?_⟩
        exact grow_eqV rfl h61 h62 (congrArg Value.bool (by simp [sameV]))
      · intro a w1 hG hin
        have h58 : a.eval (.tmp 58) = .bool true := slot_in (hin 58 (by decide)) rfl
        have h63 : a.eval (.tmp 63) = .bool true := slot_in (hin 63 (by decide)) rfl
        clear hin
        exact .inl ⟨wanted_none rfl, grow_pick rfl h58 h63⟩
      · intro a w1 hG hin
        have h64 : a.eval (.tmp 64) = .bool true := slot_in (hin 64 (by decide)) rfl
        clear hin
        exact .inl ⟨wanted_none rfl, grow_move rfl h64⟩
      · intro a w1 hG hin
        have h8 : a.eval (.tmp 8) = .pointer (some ⟨x4.heap.size, 0, none⟩) := slot_out (hin 8 (by decide)) rfl
        have h65 : a.eval (.tmp 65) = .bool true := slot_in (hin 65 (by decide)) rfl
        clear hin
        refine .inl ⟨wanted_yes rfl rfl h65, ?_⟩
        exact grow_load rfl (B3.out.mono hG) h8 rfl
      · intro a w1 hG hin
        have h0 : a.eval (.tmp 0) = .bool false := slot_out (hin 0 (by decide)) rfl
        have h65 : a.eval (.tmp 65) = .bool true := slot_in (hin 65 (by decide)) rfl
        clear hin
        exact .inl ⟨wanted_yes rfl rfl h65, grow_move rfl h0⟩
      · intro a w1 hG hin
        have h67 : a.eval (.tmp 67) = .bool false := slot_in (hin 67 (by decide)) rfl
        have h65 : a.eval (.tmp 65) = .bool true := slot_in (hin 65 (by decide)) rfl
        clear hin
        exact .inl ⟨wanted_yes rfl rfl h65, grow_move rfl h67⟩
      · intro a w1 hG hin
        have h1 : a.eval (.tmp 1) = .bool true := slot_out (hin 1 (by decide)) rfl
        have h68 : a.eval (.tmp 68) = .bool false := slot_in (hin 68 (by decide)) rfl
        clear hin
        exact .inr ⟨wanted_no rfl rfl h68, fun _ _ => rfl⟩
      · intro a w1 hG hin
        have h68 : a.eval (.tmp 68) = .bool false := slot_in (hin 68 (by decide)) rfl
        have h69 : a.eval (.tmp 69) = undef := slot_in (hin 69 (by decide)) rfl
        have h65 : a.eval (.tmp 65) = .bool true := slot_in (hin 65 (by decide)) rfl
        clear hin
        exact .inl ⟨wanted_yes rfl rfl h65, grow_pick rfl h68 rfl⟩
      · intro a w1 hG hin
        have h70 : a.eval (.tmp 70) = .bool false := slot_in (hin 70 (by decide)) rfl
        have h65 : a.eval (.tmp 65) = .bool true := slot_in (hin 65 (by decide)) rfl
        clear hin
        refine .inl ⟨wanted_yes rfl rfl h65, ?_⟩
        exact grow_call Tryd.call14 #[.bool false] (by simp only [List.map_toArray, List.map_cons, List.map_nil, h70]) ((truth_any (p := 0) (by decide) _).mono (by rintro e w2 ⟨rfl, hg⟩; exact ⟨_, rfl, hg, rfl⟩))
      · intro a w1 hG hin
        have h66 : a.eval (.tmp 66) = V 2 0 E := slot_in (hin 66 (by decide)) rfl
        have h71 : a.eval (.tmp 71) = V 2 0 E := slot_in (hin 71 (by decide)) rfl
        have h65 : a.eval (.tmp 65) = .bool true := slot_in (hin 65 (by decide)) rfl
        clear hin
        refine .inl ⟨wanted_yes rfl rfl h65, ?_⟩
        exact grow_eqV rfl h66 h71 (congrArg Value.bool (by simp [sameV]))
      · intro a w1 hG hin
        have h65 : a.eval (.tmp 65) = .bool true := slot_in (hin 65 (by decide)) rfl
        have h72 : a.eval (.tmp 72) = .bool true := slot_in (hin 72 (by decide)) rfl
        clear hin
        exact .inl ⟨wanted_none rfl, grow_pick rfl h65 h72⟩
      · intro a w1 hG hin
        have h73 : a.eval (.tmp 73) = .bool true := slot_in (hin 73 (by decide)) rfl
        clear hin
        exact .inl ⟨wanted_none rfl, grow_move rfl h73⟩
      · intro a w1 hG hin
        have h12 : a.eval (.tmp 12) = .pointer (some ⟨x5.heap.size, 0, none⟩) := slot_out (hin 12 (by decide)) rfl
        have h74 : a.eval (.tmp 74) = .bool true := slot_in (hin 74 (by decide)) rfl
        clear hin
        refine .inl ⟨wanted_yes rfl rfl h74, ?_⟩
        exact grow_load rfl (B5.out.mono hG) h12 rfl
      · intro a w1 hG hin
        have h0 : a.eval (.tmp 0) = .bool false := slot_out (hin 0 (by decide)) rfl
        have h74 : a.eval (.tmp 74) = .bool true := slot_in (hin 74 (by decide)) rfl
        clear hin
        exact .inl ⟨wanted_yes rfl rfl h74, grow_move rfl h0⟩
      · intro a w1 hG hin
        have h76 : a.eval (.tmp 76) = .bool false := slot_in (hin 76 (by decide)) rfl
        have h74 : a.eval (.tmp 74) = .bool true := slot_in (hin 74 (by decide)) rfl
        clear hin
        exact .inl ⟨wanted_yes rfl rfl h74, grow_move rfl h76⟩
      · intro a w1 hG hin
        have h1 : a.eval (.tmp 1) = .bool true := slot_out (hin 1 (by decide)) rfl
        have h77 : a.eval (.tmp 77) = .bool false := slot_in (hin 77 (by decide)) rfl
        clear hin
        exact .inl ⟨wanted_yes rfl rfl h77, grow_move rfl h1⟩
      · intro a w1 hG hin
        have h77 : a.eval (.tmp 77) = .bool false := slot_in (hin 77 (by decide)) rfl
        have h78 : a.eval (.tmp 78) = .bool true := slot_in (hin 78 (by decide)) rfl
        have h74 : a.eval (.tmp 74) = .bool true := slot_in (hin 74 (by decide)) rfl
        clear hin
        exact .inl ⟨wanted_yes rfl rfl h74, grow_pick rfl h77 h78⟩
      · intro a w1 hG hin
        have h79 : a.eval (.tmp 79) = .bool true := slot_in (hin 79 (by decide)) rfl
        have h74 : a.eval (.tmp 74) = .bool true := slot_in (hin 74 (by decide)) rfl
        clear hin
        refine .inl ⟨wanted_yes rfl rfl h74, ?_⟩
        exact grow_call Tryd.call14 #[.bool true] (by simp only [List.map_toArray, List.map_cons, List.map_nil, h79]) ((truth_any (p := 1) (by decide) _).mono (by rintro e w2 ⟨rfl, hg⟩; exact ⟨_, rfl, hg, rfl⟩))
      · intro a w1 hG hin
        have h75 : a.eval (.tmp 75) = V 2 1 E := slot_in (hin 75 (by decide)) rfl
        have h80 : a.eval (.tmp 80) = V 2 1 E := slot_in (hin 80 (by decide)) rfl
        have h74 : a.eval (.tmp 74) = .bool true := slot_in (hin 74 (by decide)) rfl
        clear hin
        refine .inl ⟨wanted_yes rfl rfl h74, ?_⟩
        exact grow_eqV rfl h75 h80 (congrArg Value.bool (by simp [sameV]))
      · intro a w1 hG hin
        have h74 : a.eval (.tmp 74) = .bool true := slot_in (hin 74 (by decide)) rfl
        have h81 : a.eval (.tmp 81) = .bool true := slot_in (hin 81 (by decide)) rfl
        clear hin
        exact .inl ⟨wanted_none rfl, grow_pick rfl h74 h81⟩
      · intro a w1 hG hin
        have h82 : a.eval (.tmp 82) = .bool true := slot_in (hin 82 (by decide)) rfl
        clear hin
        exact .inl ⟨wanted_none rfl, grow_assign rfl h82⟩
      · intro s w3 hG hin hs
        have f4 : s 4 = .bool true := (hs 4 (by decide)).symm.trans (slot_in (hin 4) rfl)
        clear hin hs
        rw [show List.range 83 = [0, 1, 2, 3, 4, 5, 6, 7, 8, 9, 10, 11, 12, 13, 14, 15, 16, 17, 18, 19, 20, 21, 22, 23, 24, 25, 26, 27, 28, 29, 30, 31, 32, 33, 34, 35, 36, 37, 38, 39, 40, 41, 42, 43, 44, 45, 46, 47, 48, 49, 50, 51, 52, 53, 54, 55, 56, 57, 58, 59, 60, 61, 62, 63, 64, 65, 66, 67, 68, 69, 70, 71, 72, 73, 74, 75, 76, 77, 78, 79, 80, 81, 82] from rfl]
        simp only [List.map_cons, List.map_nil]
        rw [f4]
        go_wp2_with fail
        go_ret
        exact ⟨rfl, HG.out.trans hG⟩)

set_option maxRecDepth 100000 in
set_option maxHeartbeats 4000000 in
theorem logic_FF (w : World) : Calls Tryd.prog 6 #[.bool false, .bool false] w fun e w' => e = .returned (.bool true) ∧ G w w' := by
  go_enter Tryd.func6, Tryd.ntmps6
  go_wp2_with fail
  refine (shown_any _).mono ?_
  rintro e x1 ⟨rfl, g1⟩
  (try simp only [R.v, R.u, V])
  have h1 : G w x1 := g1
  have HG := hid h1
  clear h1 g1
  go_wp2_with fail
  refine (truth_any (p := 0) rfl _).mono ?_
  rintro e x2 ⟨rfl, g2⟩
  (try simp only [R.v, R.u, V])
  have h2 : G x1 x2 := g2
  replace HG := hid (HG.out.trans h2)
  clear h2 g2
  go_wp2_with fail
  refine (truth_any (p := 0) rfl _).mono ?_
  rintro e x3 ⟨rfl, g3⟩
  (try simp only [R.v, R.u, V])
  have h3 : G x2 x3 := ((G.refl _).alloc _).trans g3
  have B1 := hid (At.after g3)
  replace HG := hid (HG.out.trans h3)
  clear h3 g3
  obtain ⟨l1, p1, q1, r1, f1⟩ := B1.out
  go_wp2_with fail
  refine (and_any (p := 0) (by decide) _).mono ?_
  rintro e x4 ⟨rfl, g4⟩
  (try simp only [R.v, R.u, V])
  clear l1 p1 q1 r1 f1
  have h4 : G x3 x4 := ((G.refl _).alloc _).trans g4
  replace B1 := hid (B1.out.mono h4)
  have B2 := hid (At.after g4)
  replace HG := hid (HG.out.trans h4)
  clear h4 g4
  obtain ⟨l1, p1, q1, r1, f1⟩ := B1.out
  obtain ⟨l2, p2, q2, r2, f2⟩ := B2.out
  have B3 := hid (At.alloc x4 2 0 E)
  replace B1 := hid (B1.out.more (.cells #[.int .i64 2, .int .i64 0, .string ⟨#[]⟩] 24))
  replace B2 := hid (B2.out.more (.cells #[.int .i64 2, .int .i64 0, .string ⟨#[]⟩] 24))
  replace HG := hid (HG.out.alloc (.cells #[.int .i64 2, .int .i64 0, .string ⟨#[]⟩] 24))
  go_upto_region 5 with (fail)
  clear l1 p1 q1 r1 f1 l2 p2 q2 r2 f2
  refine wp_region_late (says [Say.is (V 2 0 E), Say.is (V 2 1 E), Say.is (V 2 0 E), Say.is (V 2 1 E), Say.is (.tuple #[V 2 1 E, .int .i64 0]), Say.is (.tuple #[V 2 1 E, .int .i64 0]), Say.is (V 2 1 E), Say.is (.int .i64 0), Say.box (x4.heap.size + 1)]) 9 7 83 (by kernel_rfl) (by kernel_rfl) rfl (says_mono _) (allSteps_take ⟨?_, ?_, ?_, ?_, ?_, ?_, ?_, ?_, ?_, trivial⟩) _ _ rfl rfl ?_
  · intro a w1 hG hin
    have h6 : a.eval (.tmp 6) = .pointer (some ⟨x2.heap.size, 0, none⟩) := slot_out (hin 6 (by decide)) rfl
    clear hin
    refine .inl ⟨wanted_none rfl, ?_⟩
    exact grow_load rfl (B1.out.mono hG) h6 rfl
  · intro a w1 hG hin
    have h26 : a.eval (.tmp 26) = V 2 0 E := slot_in (hin 26 (by decide)) rfl
    clear hin
    refine .inl ⟨wanted_none rfl, ?_⟩
    exact grow_call Tryd.call13 #[.string ⟨#[33]⟩, V 2 0 E] (by simp only [List.map_toArray, List.map_cons, List.map_nil, h26]; rfl) ((not_any (p := 1) (by decide) _).mono (by rintro e w2 ⟨rfl, hg⟩; exact ⟨_, rfl, hg, rfl⟩))
  · intro a w1 hG hin
    have h7 : a.eval (.tmp 7) = .pointer (some ⟨x3.heap.size, 0, none⟩) := slot_out (hin 7 (by decide)) rfl
    clear hin
    refine .inl ⟨wanted_none rfl, ?_⟩
    exact grow_load rfl (B2.out.mono hG) h7 rfl
  · intro a w1 hG hin
    have h28 : a.eval (.tmp 28) = V 2 0 E := slot_in (hin 28 (by decide)) rfl
    clear hin
    refine .inl ⟨wanted_none rfl, ?_⟩
    exact grow_call Tryd.call13 #[.string ⟨#[33]⟩, V 2 0 E] (by simp only [List.map_toArray, List.map_cons, List.map_nil, h28]; rfl) ((not_any (p := 1) (by decide) _).mono (by rintro e w2 ⟨rfl, hg⟩; exact ⟨_, rfl, hg, rfl⟩))
  · intro a w1 hG hin
    have h27 : a.eval (.tmp 27) = V 2 1 E := slot_in (hin 27 (by decide)) rfl
    have h29 : a.eval (.tmp 29) = V 2 1 E := slot_in (hin 29 (by decide)) rfl
    clear hin
    refine .inl ⟨wanted_none rfl, ?_⟩
    exact grow_call Tryd.call12 #[.string ⟨#[124, 124]⟩, V 2 1 E, V 2 1 E] (by simp only [List.map_toArray, List.map_cons, List.map_nil, h27, h29]; rfl) ((or_any (p := 1) (by decide) _).mono (by rintro e w2 ⟨rfl, hg⟩; exact ⟨_, rfl, hg, rfl⟩))
  · intro a w1 hG hin
    have h30 : a.eval (.tmp 30) = .tuple #[V 2 1 E, .int .i64 0] := slot_in (hin 30 (by decide)) rfl
    clear hin
    exact .inl ⟨wanted_none rfl, grow_move rfl h30⟩
  · intro a w1 hG hin
    have h25 : a.eval (.tmp 25) = .tuple #[V 2 1 E, .int .i64 0] := slot_in (hin 25 (by decide)) rfl
    clear hin
    refine .inl ⟨wanted_none rfl, ?_⟩
    exact grow_extract rfl h25 (.inl ⟨rfl, rfl⟩)
  · intro a w1 hG hin
    have h25 : a.eval (.tmp 25) = .tuple #[V 2 1 E, .int .i64 0] := slot_in (hin 25 (by decide)) rfl
    clear hin
    refine .inl ⟨wanted_none rfl, ?_⟩
    exact grow_extract rfl h25 (.inr ⟨rfl, rfl⟩)
  · intro a w1 hG hin
    clear hin
    refine .inl ⟨wanted_none rfl, ?_⟩
    refine grow_box (B := x4.heap.size + 1) rfl (by have h := hG.size; simpa using h) fun w9 h9 => ⟨_, rfl, (by have h := hG.size; simpa using h), h9⟩
  · intro s w2 l hG hl hs
    rw [show List.range 83 = [0, 1, 2, 3, 4, 5, 6, 7, 8, 9, 10, 11, 12, 13, 14, 15, 16, 17, 18, 19, 20, 21, 22, 23, 24, 25, 26, 27, 28, 29, 30, 31, 32, 33, 34, 35, 36, 37, 38, 39, 40, 41, 42, 43, 44, 45, 46, 47, 48, 49, 50, 51, 52, 53, 54, 55, 56, 57, 58, 59, 60, 61, 62, 63, 64, 65, 66, 67, 68, 69, 70, 71, 72, 73, 74, 75, 76, 77, 78, 79, 80, 81, 82] from rfl]
    simp only [List.map_cons, List.map_nil]
    rw [show List.range 83 = [0, 1, 2, 3, 4, 5, 6, 7, 8, 9, 10, 11, 12, 13, 14, 15, 16, 17, 18, 19, 20, 21, 22, 23, 24, 25, 26, 27, 28, 29, 30, 31, 32, 33, 34, 35, 36, 37, 38, 39, 40, 41, 42, 43, 44, 45, 46, 47, 48, 49, 50, 51, 52, 53, 54, 55, 56, 57, 58, 59, 60, 61, 62, 63, 64, 65, 66, 67, 68, 69, 70, 71, 72, 73, 74, 75, 76, 77, 78, 79, 80, 81, 82] from rfl] at hl hs
    simp only [List.map_cons, List.map_nil] at hl hs
    rcases hl with ⟨rfl, hin⟩ | ⟨rfl, hin⟩
    all_goals (
      have f0 : s 0 = .bool false := by first | exact (hs 0 (by decide)).symm.trans (slot_out (hin 0) rfl) | exact (hs 0 (by decide)).symm.trans (slot_out (hin 0 (fun e => absurd ((show writer _ _ 0 = none from rfl).symm.trans e) (by decide))) rfl)
      have f1 : s 1 = .bool false := by first | exact (hs 1 (by decide)).symm.trans (slot_out (hin 1) rfl) | exact (hs 1 (by decide)).symm.trans (slot_out (hin 1 (fun e => absurd ((show writer _ _ 1 = none from rfl).symm.trans e) (by decide))) rfl)
      have f2 : s 2 = undef := by first | exact (hs 2 (by decide)).symm.trans (slot_out (hin 2) rfl) | exact (hs 2 (by decide)).symm.trans (slot_out (hin 2 (fun e => absurd ((show writer _ _ 2 = none from rfl).symm.trans e) (by decide))) rfl)
      have f3 : s 3 = undef := by first | exact (hs 3 (by decide)).symm.trans (slot_out (hin 3) rfl) | exact (hs 3 (by decide)).symm.trans (slot_out (hin 3 (fun e => absurd ((show writer _ _ 3 = none from rfl).symm.trans e) (by decide))) rfl)
      have f4 : s 4 = .bool false := by first | exact (hs 4 (by decide)).symm.trans (slot_out (hin 4) rfl) | exact (hs 4 (by decide)).symm.trans (slot_out (hin 4 (fun e => absurd ((show writer _ _ 4 = none from rfl).symm.trans e) (by decide))) rfl)
      have f5 : s 5 = .bool true := by first | exact (hs 5 (by decide)).symm.trans (slot_out (hin 5) rfl) | exact (hs 5 (by decide)).symm.trans (slot_out (hin 5 (fun e => absurd ((show writer _ _ 5 = none from rfl).symm.trans e) (by decide))) rfl)
      have f6 : s 6 = .pointer (some ⟨x2.heap.size, 0, none⟩) := by first | exact (hs 6 (by decide)).symm.trans (slot_out (hin 6) rfl) | exact (hs 6 (by decide)).symm.trans (slot_out (hin 6 (fun e => absurd ((show writer _ _ 6 = none from rfl).symm.trans e) (by decide))) rfl)
      have f7 : s 7 = .pointer (some ⟨x3.heap.size, 0, none⟩) := by first | exact (hs 7 (by decide)).symm.trans (slot_out (hin 7) rfl) | exact (hs 7 (by decide)).symm.trans (slot_out (hin 7 (fun e => absurd ((show writer _ _ 7 = none from rfl).symm.trans e) (by decide))) rfl)
      have f8 : s 8 = .pointer (some ⟨x4.heap.size, 0, none⟩) := by first | exact (hs 8 (by decide)).symm.trans (slot_out (hin 8) rfl) | exact (hs 8 (by decide)).symm.trans (slot_out (hin 8 (fun e => absurd ((show writer _ _ 8 = none from rfl).symm.trans e) (by decide))) rfl)
      have f9 : s 9 = .int .i64 0 := by first | exact (hs 9 (by decide)).symm.trans (slot_out (hin 9) rfl) | exact (hs 9 (by decide)).symm.trans (slot_out (hin 9 (fun e => absurd ((show writer _ _ 9 = none from rfl).symm.trans e) (by decide))) rfl)
      have f10 : ∃ bb, s 10 = .pointer (some ⟨bb, 0, none⟩) ∧ x4.heap.size + 1 ≤ bb ∧ At w2 bb 0 0 E := by first | (have h := (slot_in (hin 10) rfl); rw [hs 10 (by decide)] at h; exact h) | (have h := (slot_in (hin 10 (fun e => absurd ((show writer _ _ 10 = some 8 from rfl).symm.trans e) (by decide))) rfl); rw [hs 10 (by decide)] at h; exact h)
      have f11 : s 11 = undef := by first | exact (hs 11 (by decide)).symm.trans (slot_out (hin 11) rfl) | exact (hs 11 (by decide)).symm.trans (slot_out (hin 11 (fun e => absurd ((show writer _ _ 11 = none from rfl).symm.trans e) (by decide))) rfl)
      have f12 : s 12 = undef := by first | exact (hs 12 (by decide)).symm.trans (slot_out (hin 12) rfl) | exact (hs 12 (by decide)).symm.trans (slot_out (hin 12 (fun e => absurd ((show writer _ _ 12 = none from rfl).symm.trans e) (by decide))) rfl)
      have f13 : s 13 = undef := by first | exact (hs 13 (by decide)).symm.trans (slot_out (hin 13) rfl) | exact (hs 13 (by decide)).symm.trans (slot_out (hin 13 (fun e => absurd ((show writer _ _ 13 = none from rfl).symm.trans e) (by decide))) rfl)
      have f14 : s 14 = .bool true := by first | exact (hs 14 (by decide)).symm.trans (slot_out (hin 14) rfl) | exact (hs 14 (by decide)).symm.trans (slot_out (hin 14 (fun e => absurd ((show writer _ _ 14 = none from rfl).symm.trans e) (by decide))) rfl)
      have f15 : s 15 = .bool false := by first | exact (hs 15 (by decide)).symm.trans (slot_out (hin 15) rfl) | exact (hs 15 (by decide)).symm.trans (slot_out (hin 15 (fun e => absurd ((show writer _ _ 15 = none from rfl).symm.trans e) (by decide))) rfl)
      have f16 : s 16 = V 2 0 E := by first | exact (hs 16 (by decide)).symm.trans (slot_out (hin 16) rfl) | exact (hs 16 (by decide)).symm.trans (slot_out (hin 16 (fun e => absurd ((show writer _ _ 16 = none from rfl).symm.trans e) (by decide))) rfl)
      have f17 : s 17 = .bool false := by first | exact (hs 17 (by decide)).symm.trans (slot_out (hin 17) rfl) | exact (hs 17 (by decide)).symm.trans (slot_out (hin 17 (fun e => absurd ((show writer _ _ 17 = none from rfl).symm.trans e) (by decide))) rfl)
      have f18 : s 18 = V 2 0 E := by first | exact (hs 18 (by decide)).symm.trans (slot_out (hin 18) rfl) | exact (hs 18 (by decide)).symm.trans (slot_out (hin 18 (fun e => absurd ((show writer _ _ 18 = none from rfl).symm.trans e) (by decide))) rfl)
      have f19 : s 19 = .tuple #[V 2 0 E, .int .i64 0] := by first | exact (hs 19 (by decide)).symm.trans (slot_out (hin 19) rfl) | exact (hs 19 (by decide)).symm.trans (slot_out (hin 19 (fun e => absurd ((show writer _ _ 19 = none from rfl).symm.trans e) (by decide))) rfl)
      have f20 : s 20 = V 2 0 E := by first | exact (hs 20 (by decide)).symm.trans (slot_out (hin 20) rfl) | exact (hs 20 (by decide)).symm.trans (slot_out (hin 20 (fun e => absurd ((show writer _ _ 20 = none from rfl).symm.trans e) (by decide))) rfl)
      have f21 : s 21 = V 2 0 E := by first | exact (hs 21 (by decide)).symm.trans (slot_out (hin 21) rfl) | exact (hs 21 (by decide)).symm.trans (slot_out (hin 21 (fun e => absurd ((show writer _ _ 21 = none from rfl).symm.trans e) (by decide))) rfl)
      have f22 : s 22 = .tuple #[V 2 0 E, .int .i64 0] := by first | exact (hs 22 (by decide)).symm.trans (slot_out (hin 22) rfl) | exact (hs 22 (by decide)).symm.trans (slot_out (hin 22 (fun e => absurd ((show writer _ _ 22 = none from rfl).symm.trans e) (by decide))) rfl)
      have f23 : s 23 = V 2 0 E := by first | exact (hs 23 (by decide)).symm.trans (slot_out (hin 23) rfl) | exact (hs 23 (by decide)).symm.trans (slot_out (hin 23 (fun e => absurd ((show writer _ _ 23 = none from rfl).symm.trans e) (by decide))) rfl)
      have f24 : s 24 = .int .i64 0 := by first | exact (hs 24 (by decide)).symm.trans (slot_out (hin 24) rfl) | exact (hs 24 (by decide)).symm.trans (slot_out (hin 24 (fun e => absurd ((show writer _ _ 24 = none from rfl).symm.trans e) (by decide))) rfl)
      have f25 : s 25 = .tuple #[V 2 1 E, .int .i64 0] := by first | exact (hs 25 (by decide)).symm.trans (slot_in (hin 25) rfl) | exact (hs 25 (by decide)).symm.trans (slot_in (hin 25 (fun e => absurd ((show writer _ _ 25 = some 5 from rfl).symm.trans e) (by decide))) rfl)
      have f31 : s 31 = V 2 1 E := by first | exact (hs 31 (by decide)).symm.trans (slot_in (hin 31) rfl) | exact (hs 31 (by decide)).symm.trans (slot_in (hin 31 (fun e => absurd ((show writer _ _ 31 = some 6 from rfl).symm.trans e) (by decide))) rfl)
      have f33 : s 33 = undef := by first | exact (hs 33 (by decide)).symm.trans (slot_out (hin 33) rfl) | exact (hs 33 (by decide)).symm.trans (slot_out (hin 33 (fun e => absurd ((show writer _ _ 33 = none from rfl).symm.trans e) (by decide))) rfl)
      have f34 : s 34 = undef := by first | exact (hs 34 (by decide)).symm.trans (slot_out (hin 34) rfl) | exact (hs 34 (by decide)).symm.trans (slot_out (hin 34 (fun e => absurd ((show writer _ _ 34 = none from rfl).symm.trans e) (by decide))) rfl)
      have f35 : s 35 = undef := by first | exact (hs 35 (by decide)).symm.trans (slot_out (hin 35) rfl) | exact (hs 35 (by decide)).symm.trans (slot_out (hin 35 (fun e => absurd ((show writer _ _ 35 = none from rfl).symm.trans e) (by decide))) rfl)
      have f36 : s 36 = undef := by first | exact (hs 36 (by decide)).symm.trans (slot_out (hin 36) rfl) | exact (hs 36 (by decide)).symm.trans (slot_out (hin 36 (fun e => absurd ((show writer _ _ 36 = none from rfl).symm.trans e) (by decide))) rfl)
      have f37 : s 37 = undef := by first | exact (hs 37 (by decide)).symm.trans (slot_out (hin 37) rfl) | exact (hs 37 (by decide)).symm.trans (slot_out (hin 37 (fun e => absurd ((show writer _ _ 37 = none from rfl).symm.trans e) (by decide))) rfl)
      have f38 : s 38 = undef := by first | exact (hs 38 (by decide)).symm.trans (slot_out (hin 38) rfl) | exact (hs 38 (by decide)).symm.trans (slot_out (hin 38 (fun e => absurd ((show writer _ _ 38 = none from rfl).symm.trans e) (by decide))) rfl)
      have f39 : s 39 = undef := by first | exact (hs 39 (by decide)).symm.trans (slot_out (hin 39) rfl) | exact (hs 39 (by decide)).symm.trans (slot_out (hin 39 (fun e => absurd ((show writer _ _ 39 = none from rfl).symm.trans e) (by decide))) rfl)
      have f40 : s 40 = undef := by first | exact (hs 40 (by decide)).symm.trans (slot_out (hin 40) rfl) | exact (hs 40 (by decide)).symm.trans (slot_out (hin 40 (fun e => absurd ((show writer _ _ 40 = none from rfl).symm.trans e) (by decide))) rfl)
      have f41 : s 41 = undef := by first | exact (hs 41 (by decide)).symm.trans (slot_out (hin 41) rfl) | exact (hs 41 (by decide)).symm.trans (slot_out (hin 41 (fun e => absurd ((show writer _ _ 41 = none from rfl).symm.trans e) (by decide))) rfl)
      have f42 : s 42 = undef := by first | exact (hs 42 (by decide)).symm.trans (slot_out (hin 42) rfl) | exact (hs 42 (by decide)).symm.trans (slot_out (hin 42 (fun e => absurd ((show writer _ _ 42 = none from rfl).symm.trans e) (by decide))) rfl)
      have f43 : s 43 = undef := by first | exact (hs 43 (by decide)).symm.trans (slot_out (hin 43) rfl) | exact (hs 43 (by decide)).symm.trans (slot_out (hin 43 (fun e => absurd ((show writer _ _ 43 = none from rfl).symm.trans e) (by decide))) rfl)
      have f44 : s 44 = undef := by first | exact (hs 44 (by decide)).symm.trans (slot_out (hin 44) rfl) | exact (hs 44 (by decide)).symm.trans (slot_out (hin 44 (fun e => absurd ((show writer _ _ 44 = none from rfl).symm.trans e) (by decide))) rfl)
      have f45 : s 45 = undef := by first | exact (hs 45 (by decide)).symm.trans (slot_out (hin 45) rfl) | exact (hs 45 (by decide)).symm.trans (slot_out (hin 45 (fun e => absurd ((show writer _ _ 45 = none from rfl).symm.trans e) (by decide))) rfl)
      have f46 : s 46 = undef := by first | exact (hs 46 (by decide)).symm.trans (slot_out (hin 46) rfl) | exact (hs 46 (by decide)).symm.trans (slot_out (hin 46 (fun e => absurd ((show writer _ _ 46 = none from rfl).symm.trans e) (by decide))) rfl)
      have f47 : s 47 = undef := by first | exact (hs 47 (by decide)).symm.trans (slot_out (hin 47) rfl) | exact (hs 47 (by decide)).symm.trans (slot_out (hin 47 (fun e => absurd ((show writer _ _ 47 = none from rfl).symm.trans e) (by decide))) rfl)
      have f48 : s 48 = undef := by first | exact (hs 48 (by decide)).symm.trans (slot_out (hin 48) rfl) | exact (hs 48 (by decide)).symm.trans (slot_out (hin 48 (fun e => absurd ((show writer _ _ 48 = none from rfl).symm.trans e) (by decide))) rfl)
      have f49 : s 49 = undef := by first | exact (hs 49 (by decide)).symm.trans (slot_out (hin 49) rfl) | exact (hs 49 (by decide)).symm.trans (slot_out (hin 49 (fun e => absurd ((show writer _ _ 49 = none from rfl).symm.trans e) (by decide))) rfl)
      have f50 : s 50 = undef := by first | exact (hs 50 (by decide)).symm.trans (slot_out (hin 50) rfl) | exact (hs 50 (by decide)).symm.trans (slot_out (hin 50 (fun e => absurd ((show writer _ _ 50 = none from rfl).symm.trans e) (by decide))) rfl)
      have f51 : s 51 = undef := by first | exact (hs 51 (by decide)).symm.trans (slot_out (hin 51) rfl) | exact (hs 51 (by decide)).symm.trans (slot_out (hin 51 (fun e => absurd ((show writer _ _ 51 = none from rfl).symm.trans e) (by decide))) rfl)
      have f52 : s 52 = undef := by first | exact (hs 52 (by decide)).symm.trans (slot_out (hin 52) rfl) | exact (hs 52 (by decide)).symm.trans (slot_out (hin 52 (fun e => absurd ((show writer _ _ 52 = none from rfl).symm.trans e) (by decide))) rfl)
      have f53 : s 53 = undef := by first | exact (hs 53 (by decide)).symm.trans (slot_out (hin 53) rfl) | exact (hs 53 (by decide)).symm.trans (slot_out (hin 53 (fun e => absurd ((show writer _ _ 53 = none from rfl).symm.trans e) (by decide))) rfl)
      have f54 : s 54 = undef := by first | exact (hs 54 (by decide)).symm.trans (slot_out (hin 54) rfl) | exact (hs 54 (by decide)).symm.trans (slot_out (hin 54 (fun e => absurd ((show writer _ _ 54 = none from rfl).symm.trans e) (by decide))) rfl)
      have f55 : s 55 = undef := by first | exact (hs 55 (by decide)).symm.trans (slot_out (hin 55) rfl) | exact (hs 55 (by decide)).symm.trans (slot_out (hin 55 (fun e => absurd ((show writer _ _ 55 = none from rfl).symm.trans e) (by decide))) rfl)
      have f56 : s 56 = undef := by first | exact (hs 56 (by decide)).symm.trans (slot_out (hin 56) rfl) | exact (hs 56 (by decide)).symm.trans (slot_out (hin 56 (fun e => absurd ((show writer _ _ 56 = none from rfl).symm.trans e) (by decide))) rfl)
      have f57 : s 57 = undef := by first | exact (hs 57 (by decide)).symm.trans (slot_out (hin 57) rfl) | exact (hs 57 (by decide)).symm.trans (slot_out (hin 57 (fun e => absurd ((show writer _ _ 57 = none from rfl).symm.trans e) (by decide))) rfl)
      have f58 : s 58 = undef := by first | exact (hs 58 (by decide)).symm.trans (slot_out (hin 58) rfl) | exact (hs 58 (by decide)).symm.trans (slot_out (hin 58 (fun e => absurd ((show writer _ _ 58 = none from rfl).symm.trans e) (by decide))) rfl)
      have f59 : s 59 = undef := by first | exact (hs 59 (by decide)).symm.trans (slot_out (hin 59) rfl) | exact (hs 59 (by decide)).symm.trans (slot_out (hin 59 (fun e => absurd ((show writer _ _ 59 = none from rfl).symm.trans e) (by decide))) rfl)
      have f60 : s 60 = undef := by first | exact (hs 60 (by decide)).symm.trans (slot_out (hin 60) rfl) | exact (hs 60 (by decide)).symm.trans (slot_out (hin 60 (fun e => absurd ((show writer _ _ 60 = none from rfl).symm.trans e) (by decide))) rfl)
      have f61 : s 61 = undef := by first | exact (hs 61 (by decide)).symm.trans (slot_out (hin 61) rfl) | exact (hs 61 (by decide)).symm.trans (slot_out (hin 61 (fun e => absurd ((show writer _ _ 61 = none from rfl).symm.trans e) (by decide))) rfl)
      have f62 : s 62 = undef := by first | exact (hs 62 (by decide)).symm.trans (slot_out (hin 62) rfl) | exact (hs 62 (by decide)).symm.trans (slot_out (hin 62 (fun e => absurd ((show writer _ _ 62 = none from rfl).symm.trans e) (by decide))) rfl)
      have f63 : s 63 = undef := by first | exact (hs 63 (by decide)).symm.trans (slot_out (hin 63) rfl) | exact (hs 63 (by decide)).symm.trans (slot_out (hin 63 (fun e => absurd ((show writer _ _ 63 = none from rfl).symm.trans e) (by decide))) rfl)
      have f64 : s 64 = undef := by first | exact (hs 64 (by decide)).symm.trans (slot_out (hin 64) rfl) | exact (hs 64 (by decide)).symm.trans (slot_out (hin 64 (fun e => absurd ((show writer _ _ 64 = none from rfl).symm.trans e) (by decide))) rfl)
      have f65 : s 65 = undef := by first | exact (hs 65 (by decide)).symm.trans (slot_out (hin 65) rfl) | exact (hs 65 (by decide)).symm.trans (slot_out (hin 65 (fun e => absurd ((show writer _ _ 65 = none from rfl).symm.trans e) (by decide))) rfl)
      have f66 : s 66 = undef := by first | exact (hs 66 (by decide)).symm.trans (slot_out (hin 66) rfl) | exact (hs 66 (by decide)).symm.trans (slot_out (hin 66 (fun e => absurd ((show writer _ _ 66 = none from rfl).symm.trans e) (by decide))) rfl)
      have f67 : s 67 = undef := by first | exact (hs 67 (by decide)).symm.trans (slot_out (hin 67) rfl) | exact (hs 67 (by decide)).symm.trans (slot_out (hin 67 (fun e => absurd ((show writer _ _ 67 = none from rfl).symm.trans e) (by decide))) rfl)
      have f68 : s 68 = undef := by first | exact (hs 68 (by decide)).symm.trans (slot_out (hin 68) rfl) | exact (hs 68 (by decide)).symm.trans (slot_out (hin 68 (fun e => absurd ((show writer _ _ 68 = none from rfl).symm.trans e) (by decide))) rfl)
      have f69 : s 69 = undef := by first | exact (hs 69 (by decide)).symm.trans (slot_out (hin 69) rfl) | exact (hs 69 (by decide)).symm.trans (slot_out (hin 69 (fun e => absurd ((show writer _ _ 69 = none from rfl).symm.trans e) (by decide))) rfl)
      have f70 : s 70 = undef := by first | exact (hs 70 (by decide)).symm.trans (slot_out (hin 70) rfl) | exact (hs 70 (by decide)).symm.trans (slot_out (hin 70 (fun e => absurd ((show writer _ _ 70 = none from rfl).symm.trans e) (by decide))) rfl)
      have f71 : s 71 = undef := by first | exact (hs 71 (by decide)).symm.trans (slot_out (hin 71) rfl) | exact (hs 71 (by decide)).symm.trans (slot_out (hin 71 (fun e => absurd ((show writer _ _ 71 = none from rfl).symm.trans e) (by decide))) rfl)
      have f72 : s 72 = undef := by first | exact (hs 72 (by decide)).symm.trans (slot_out (hin 72) rfl) | exact (hs 72 (by decide)).symm.trans (slot_out (hin 72 (fun e => absurd ((show writer _ _ 72 = none from rfl).symm.trans e) (by decide))) rfl)
      have f73 : s 73 = undef := by first | exact (hs 73 (by decide)).symm.trans (slot_out (hin 73) rfl) | exact (hs 73 (by decide)).symm.trans (slot_out (hin 73 (fun e => absurd ((show writer _ _ 73 = none from rfl).symm.trans e) (by decide))) rfl)
      have f74 : s 74 = undef := by first | exact (hs 74 (by decide)).symm.trans (slot_out (hin 74) rfl) | exact (hs 74 (by decide)).symm.trans (slot_out (hin 74 (fun e => absurd ((show writer _ _ 74 = none from rfl).symm.trans e) (by decide))) rfl)
      have f75 : s 75 = undef := by first | exact (hs 75 (by decide)).symm.trans (slot_out (hin 75) rfl) | exact (hs 75 (by decide)).symm.trans (slot_out (hin 75 (fun e => absurd ((show writer _ _ 75 = none from rfl).symm.trans e) (by decide))) rfl)
      have f76 : s 76 = undef := by first | exact (hs 76 (by decide)).symm.trans (slot_out (hin 76) rfl) | exact (hs 76 (by decide)).symm.trans (slot_out (hin 76 (fun e => absurd ((show writer _ _ 76 = none from rfl).symm.trans e) (by decide))) rfl)
      have f77 : s 77 = undef := by first | exact (hs 77 (by decide)).symm.trans (slot_out (hin 77) rfl) | exact (hs 77 (by decide)).symm.trans (slot_out (hin 77 (fun e => absurd ((show writer _ _ 77 = none from rfl).symm.trans e) (by decide))) rfl)
      have f78 : s 78 = undef := by first | exact (hs 78 (by decide)).symm.trans (slot_out (hin 78) rfl) | exact (hs 78 (by decide)).symm.trans (slot_out (hin 78 (fun e => absurd ((show writer _ _ 78 = none from rfl).symm.trans e) (by decide))) rfl)
      have f79 : s 79 = undef := by first | exact (hs 79 (by decide)).symm.trans (slot_out (hin 79) rfl) | exact (hs 79 (by decide)).symm.trans (slot_out (hin 79 (fun e => absurd ((show writer _ _ 79 = none from rfl).symm.trans e) (by decide))) rfl)
      have f80 : s 80 = undef := by first | exact (hs 80 (by decide)).symm.trans (slot_out (hin 80) rfl) | exact (hs 80 (by decide)).symm.trans (slot_out (hin 80 (fun e => absurd ((show writer _ _ 80 = none from rfl).symm.trans e) (by decide))) rfl)
      have f81 : s 81 = undef := by first | exact (hs 81 (by decide)).symm.trans (slot_out (hin 81) rfl) | exact (hs 81 (by decide)).symm.trans (slot_out (hin 81 (fun e => absurd ((show writer _ _ 81 = none from rfl).symm.trans e) (by decide))) rfl)
      have f82 : s 82 = undef := by first | exact (hs 82 (by decide)).symm.trans (slot_out (hin 82) rfl) | exact (hs 82 (by decide)).symm.trans (slot_out (hin 82 (fun e => absurd ((show writer _ _ 82 = none from rfl).symm.trans e) (by decide))) rfl)
      (try (have f32 : s 32 = .int .i64 0 := (hs 32 (by decide)).symm.trans (slot_in (hin 32) rfl); rw [f32]; clear f32))
      clear hin hs
      rw [f0, f1, f2, f3, f4, f5, f6, f7, f8, f9, f11, f12, f13, f14, f15, f16, f17, f18, f19, f20, f21, f22, f23, f24, f25, f31, f33, f34, f35, f36, f37, f38, f39, f40, f41, f42, f43, f44, f45, f46, f47, f48, f49, f50, f51, f52, f53, f54, f55, f56, f57, f58, f59, f60, f61, f62, f63, f64, f65, f66, f67, f68, f69, f70, f71, f72, f73, f74, f75, f76, f77, f78, f79, f80, f81, f82]
      obtain ⟨bb, e10, hbb, hA⟩ := f10
      rw [e10]
      clear e10 f0 f1 f2 f3 f4 f5 f6 f7 f8 f9 f11 f12 f13 f14 f15 f16 f17 f18 f19 f20 f21 f22 f23 f24 f25 f31 f33 f34 f35 f36 f37 f38 f39 f40 f41 f42 f43 f44 f45 f46 f47 f48 f49 f50 f51 f52 f53 f54 f55 f56 f57 f58 f59 f60 f61 f62 f63 f64 f65 f66 f67 f68 f69 f70 f71 f72 f73 f74 f75 f76 f77 f78 f79 f80 f81 f82
      simp only [V, E]
      have NB := hid hA
      obtain ⟨l9, p9, q9, r9, f9⟩ := hA
      simp only [List.drop_succ_cons, List.drop_zero]
      go_upto_region 6 with (fail)
      clear l9 p9 q9 r9 f9
      have s1 := B1.out.lt
      have s2 := B2.out.lt
      have s3 := B3.out.lt
      have sw := HG.out.size
      simp at s1 s2 s3 sw
      have C1 := keep (B1.out.mono hG) (c := bb) (by omega) 2 1 ⟨#[]⟩
      have C2 := keep (B2.out.mono hG) (c := bb) (by omega) 2 1 ⟨#[]⟩
      have C3 := keep (B3.out.mono hG) (c := bb) (by omega) 2 1 ⟨#[]⟩
      have CN := NB.out.set 2 1 ⟨#[]⟩
      have CG := G.set (G.set (G.set (HG.out.trans hG) (p := ⟨bb, 0, none⟩) (by simp; omega) (.int .i64 2)) (p := ⟨bb, 1, none⟩) (by simp; omega) (.int .i64 1)) (p := ⟨bb, 2, none⟩) (by simp; omega) (.string ⟨#[]⟩)
      generalize ((w2.setCell ⟨bb, 0, none⟩ (.int .i64 2)).setCell ⟨bb, 1, none⟩ (.int .i64 1)).setCell ⟨bb, 2, none⟩ (.string ⟨#[]⟩) = y at C1 C2 C3 CN CG ⊢
      replace B1 := hid C1
      replace B2 := hid C2
      replace B3 := hid C3
      have B4 := hid CN
      replace HG := hid CG
      clear C1 C2 C3 CN CG NB hG s1 s2 s3 sw hbb
      obtain ⟨l1, p1, q1, r1, f1⟩ := B1.out
      obtain ⟨l2, p2, q2, r2, f2⟩ := B2.out
      obtain ⟨l3, p3, q3, r3, f3⟩ := B3.out
      obtain ⟨l4, p4, q4, r4, f4⟩ := B4.out
      go_wp2_with fail
      refine (or_any (p := 0) (by decide) _).mono ?_
      rintro e x5 ⟨rfl, g5⟩
      (try simp only [R.v, R.u, V])
      clear l1 p1 q1 r1 f1
      clear l2 p2 q2 r2 f2
      clear l3 p3 q3 r3 f3
      clear l4 p4 q4 r4 f4
      have h5 : G y x5 := g5
      replace B1 := hid (B1.out.mono h5)
      replace B2 := hid (B2.out.mono h5)
      replace B3 := hid (B3.out.mono h5)
      replace B4 := hid (B4.out.mono h5)
      replace HG := hid (HG.out.trans h5)
      clear h5 g5
      obtain ⟨l1, p1, q1, r1, f1⟩ := B1.out
      obtain ⟨l2, p2, q2, r2, f2⟩ := B2.out
      obtain ⟨l3, p3, q3, r3, f3⟩ := B3.out
      obtain ⟨l4, p4, q4, r4, f4⟩ := B4.out
      have B5 := hid (At.alloc x5 2 0 E)
      replace B1 := hid (B1.out.more (.cells #[.int .i64 2, .int .i64 0, .string ⟨#[]⟩] 24))
      replace B2 := hid (B2.out.more (.cells #[.int .i64 2, .int .i64 0, .string ⟨#[]⟩] 24))
      replace B3 := hid (B3.out.more (.cells #[.int .i64 2, .int .i64 0, .string ⟨#[]⟩] 24))
      replace B4 := hid (B4.out.more (.cells #[.int .i64 2, .int .i64 0, .string ⟨#[]⟩] 24))
      replace HG := hid (HG.out.alloc (.cells #[.int .i64 2, .int .i64 0, .string ⟨#[]⟩] 24))
      go_upto_region 7 with (fail)
      clear l1 p1 q1 r1 f1 l2 p2 q2 r2 f2 l3 p3 q3 r3 f3 l4 p4 q4 r4 f4
      refine wp_region_grows (says [Say.is (.bool true), Say.is (.bool true), Say.is (.int .i64 0), Say.is (.bool true), Say.is (.bool true), Say.is (.bool true), Say.is (.int .i64 0), Say.is (.bool true), Say.is (.bool true), Say.is (.bool true), Say.is (.int .i64 0), Say.is (.bool true), Say.is (.bool true), Say.is (.bool true), Say.is (V 2 0 E), Say.is (V 2 1 E), Say.is (V 2 1 E), Say.is (.bool true), Say.is (.bool true), Say.is (.bool true), Say.is (V 2 0 E), Say.is (V 2 1 E), Say.is (V 2 0 E), Say.is (V 2 0 E), Say.is (.bool true), Say.is (.bool true), Say.is (.bool true), Say.is (V 2 0 E), Say.is (.bool false), Say.is (.bool false), Say.is (undef), Say.is (.bool false), Say.is (V 2 0 E), Say.is (.bool true), Say.is (.bool true), Say.is (.bool true), Say.is (V 2 0 E), Say.is (.bool false), Say.is (.bool false), Say.is (.bool false), Say.is (.bool false), Say.is (V 2 0 E), Say.is (.bool true), Say.is (.bool true), Say.is (.bool true)]) 83 (by kernel_rfl) (by kernel_rfl) rfl (says_mono _) (allSteps_take ⟨?_, ?_, ?_, ?_, ?_, ?_, ?_, ?_, ?_, ?_, ?_, ?_, ?_, ?_, ?_, ?_, ?_, ?_, ?_, ?_, ?_, ?_, ?_, ?_, ?_, ?_, ?_, ?_, ?_, ?_, ?_, ?_, ?_, ?_, ?_, ?_, ?_, ?_, ?_, ?_, ?_, ?_, ?_, ?_, ?_, trivial⟩) ?_
      · intro a w1 hG hin
        have h5 : a.eval (.tmp 5) = .bool true := slot_out (hin 5 (by decide)) rfl
        clear hin
        exact .inl ⟨wanted_none rfl, grow_move rfl h5⟩
      · intro a w1 hG hin
        have h39 : a.eval (.tmp 39) = .bool true := slot_in (hin 39 (by decide)) rfl
        clear hin
        exact .inl ⟨wanted_none rfl, grow_move rfl h39⟩
      · intro a w1 hG hin
        have h9 : a.eval (.tmp 9) = .int .i64 0 := slot_out (hin 9 (by decide)) rfl
        have h40 : a.eval (.tmp 40) = .bool true := slot_in (hin 40 (by decide)) rfl
        clear hin
        exact .inl ⟨wanted_yes rfl rfl h40, grow_move rfl h9⟩
      · intro a w1 hG hin
        have h41 : a.eval (.tmp 41) = .int .i64 0 := slot_in (hin 41 (by decide)) rfl
        have h40 : a.eval (.tmp 40) = .bool true := slot_in (hin 40 (by decide)) rfl
        clear hin
        refine .inl ⟨wanted_yes rfl rfl h40, ?_⟩
        exact grow_eqint rfl h41 rfl rfl
      · intro a w1 hG hin
        have h40 : a.eval (.tmp 40) = .bool true := slot_in (hin 40 (by decide)) rfl
        have h42 : a.eval (.tmp 42) = .bool true := slot_in (hin 42 (by decide)) rfl
        clear hin
        exact .inl ⟨wanted_none rfl, grow_pick rfl h40 h42⟩
      · intro a w1 hG hin
        have h43 : a.eval (.tmp 43) = .bool true := slot_in (hin 43 (by decide)) rfl
        clear hin
        exact .inl ⟨wanted_none rfl, grow_move rfl h43⟩
      · intro a w1 hG hin
        have h11 : a.eval (.tmp 11) = .int .i64 0 := slot_out (hin 11 (by decide)) rfl
        have h44 : a.eval (.tmp 44) = .bool true := slot_in (hin 44 (by decide)) rfl
        clear hin
        exact .inl ⟨wanted_yes rfl rfl h44, grow_move rfl h11⟩
      · intro a w1 hG hin
        have h45 : a.eval (.tmp 45) = .int .i64 0 := slot_in (hin 45 (by decide)) rfl
        have h44 : a.eval (.tmp 44) = .bool true := slot_in (hin 44 (by decide)) rfl
        clear hin
        refine .inl ⟨wanted_yes rfl rfl h44, ?_⟩
        exact grow_eqint rfl h45 rfl rfl
      · intro a w1 hG hin
        have h44 : a.eval (.tmp 44) = .bool true := slot_in (hin 44 (by decide)) rfl
        have h46 : a.eval (.tmp 46) = .bool true := slot_in (hin 46 (by decide)) rfl
        clear hin
        exact .inl ⟨wanted_none rfl, grow_pick rfl h44 h46⟩
      · intro a w1 hG hin
        have h47 : a.eval (.tmp 47) = .bool true := slot_in (hin 47 (by decide)) rfl
        clear hin
        exact .inl ⟨wanted_none rfl, grow_move rfl h47⟩
      · intro a w1 hG hin
        have h13 : a.eval (.tmp 13) = .int .i64 0 := slot_out (hin 13 (by decide)) rfl
        have h48 : a.eval (.tmp 48) = .bool true := slot_in (hin 48 (by decide)) rfl
        clear hin
        exact .inl ⟨wanted_yes rfl rfl h48, grow_move rfl h13⟩
      · intro a w1 hG hin
        have h49 : a.eval (.tmp 49) = .int .i64 0 := slot_in (hin 49 (by decide)) rfl
        have h48 : a.eval (.tmp 48) = .bool true := slot_in (hin 48 (by decide)) rfl
        clear hin
        refine .inl ⟨wanted_yes rfl rfl h48, ?_⟩
        exact grow_eqint rfl h49 rfl rfl
      · intro a w1 hG hin
        have h48 : a.eval (.tmp 48) = .bool true := slot_in (hin 48 (by decide)) rfl
        have h50 : a.eval (.tmp 50) = .bool true := slot_in (hin 50 (by decide)) rfl
        clear hin
        exact .inl ⟨wanted_none rfl, grow_pick rfl h48 h50⟩
      · intro a w1 hG hin
        have h51 : a.eval (.tmp 51) = .bool true := slot_in (hin 51 (by decide)) rfl
        clear hin
        exact .inl ⟨wanted_none rfl, grow_move rfl h51⟩
      · intro a w1 hG hin
        have h8 : a.eval (.tmp 8) = .pointer (some ⟨x4.heap.size, 0, none⟩) := slot_out (hin 8 (by decide)) rfl
        have h52 : a.eval (.tmp 52) = .bool true := slot_in (hin 52 (by decide)) rfl
        clear hin
        refine .inl ⟨wanted_yes rfl rfl h52, ?_⟩
        exact grow_load rfl (B3.out.mono hG) h8 rfl
      · intro a w1 hG hin
        have h53 : a.eval (.tmp 53) = V 2 0 E := slot_in (hin 53 (by decide)) rfl
        have h52 : a.eval (.tmp 52) = .bool true := slot_in (hin 52 (by decide)) rfl
        clear hin
        refine .inl ⟨wanted_yes rfl rfl h52, ?_⟩
        exact grow_call Tryd.call13 #[.string ⟨#[33]⟩, V 2 0 E] (by simp only [List.map_toArray, List.map_cons, List.map_nil, h53]; rfl) ((not_any (p := 1) (by decide) _).mono (by rintro e w2 ⟨rfl, hg⟩; exact ⟨_, rfl, hg, rfl⟩))
      · intro a w1 hG hin
        have h10 : a.eval (.tmp 10) = .pointer (some ⟨bb, 0, none⟩) := slot_out (hin 10 (by decide)) rfl
        have h52 : a.eval (.tmp 52) = .bool true := slot_in (hin 52 (by decide)) rfl
        clear hin
        refine .inl ⟨wanted_yes rfl rfl h52, ?_⟩
        exact grow_load rfl (B4.out.mono hG) h10 rfl
      · intro a w1 hG hin
        have h54 : a.eval (.tmp 54) = V 2 1 E := slot_in (hin 54 (by decide)) rfl
        have h55 : a.eval (.tmp 55) = V 2 1 E := slot_in (hin 55 (by decide)) rfl
        have h52 : a.eval (.tmp 52) = .bool true := slot_in (hin 52 (by decide)) rfl
        clear hin
        refine .inl ⟨wanted_yes rfl rfl h52, ?_⟩
        exact grow_eqV rfl h54 h55 (congrArg Value.bool (by simp [sameV]))
      · intro a w1 hG hin
        have h52 : a.eval (.tmp 52) = .bool true := slot_in (hin 52 (by decide)) rfl
        have h56 : a.eval (.tmp 56) = .bool true := slot_in (hin 56 (by decide)) rfl
        clear hin
        exact .inl ⟨wanted_none rfl, grow_pick rfl h52 h56⟩
      · intro a w1 hG hin
        have h57 : a.eval (.tmp 57) = .bool true := slot_in (hin 57 (by decide)) rfl
        clear hin
        exact .inl ⟨wanted_none rfl, grow_move rfl h57⟩
      · intro a w1 hG hin
        have h6 : a.eval (.tmp 6) = .pointer (some ⟨x2.heap.size, 0, none⟩) := slot_out (hin 6 (by decide)) rfl
        have h58 : a.eval (.tmp 58) = .bool true := slot_in (hin 58 (by decide)) rfl
        clear hin
        refine .inl ⟨wanted_yes rfl rfl h58, ?_⟩
        exact grow_load rfl (B1.out.mono hG) h6 rfl
      · intro a w1 hG hin
        have h59 : a.eval (.tmp 59) = V 2 0 E := slot_in (hin 59 (by decide)) rfl
        have h58 : a.eval (.tmp 58) = .bool true := slot_in (hin 58 (by decide)) rfl
        clear hin
        refine .inl ⟨wanted_yes rfl rfl h58, ?_⟩
        exact grow_call Tryd.call13 #[.string ⟨#[33]⟩, V 2 0 E] (by simp only [List.map_toArray, List.map_cons, List.map_nil, h59]; rfl) ((not_any (p := 1) (by decide) _).mono (by rintro e w2 ⟨rfl, hg⟩; exact ⟨_, rfl, hg, rfl⟩))
      · intro a w1 hG hin
        have h60 : a.eval (.tmp 60) = V 2 1 E := slot_in (hin 60 (by decide)) rfl
        have h58 : a.eval (.tmp 58) = .bool true := slot_in (hin 58 (by decide)) rfl
        clear hin
        refine .inl ⟨wanted_yes rfl rfl h58, ?_⟩
        exact grow_call Tryd.call13 #[.string ⟨#[33]⟩, V 2 1 E] (by simp only [List.map_toArray, List.map_cons, List.map_nil, h60]; rfl) ((not_any (p := 0) (by decide) _).mono (by rintro e w2 ⟨rfl, hg⟩; exact ⟨_, rfl, hg, rfl⟩))
      · intro a w1 hG hin
        have h6 : a.eval (.tmp 6) = .pointer (some ⟨x2.heap.size, 0, none⟩) := slot_out (hin 6 (by decide)) rfl
        have h58 : a.eval (.tmp 58) = .bool true := slot_in (hin 58 (by decide)) rfl
        clear hin
        refine .inl ⟨wanted_yes rfl rfl h58, ?_⟩
        exact grow_load rfl (B1.out.mono hG) h6 rfl
      · intro a w1 hG hin
        have h61 : a.eval (.tmp 61) = V 2 0 E := slot_in (hin 61 (by decide)) rfl
        have h62 : a.eval (.tmp 62) = V 2 0 E := slot_in (hin 62 (by decide)) rfl
        have h58 : a.eval (.tmp 58) = .bool true := slot_in (hin 58 (by decide)) rfl
        clear hin
        refine .inl ⟨wanted_yes rfl rfl h58, ?_⟩
        exact grow_eqV rfl h61 h62 (congrArg Value.bool (by simp [sameV]))
      · intro a w1 hG hin
        have h58 : a.eval (.tmp 58) = .bool true := slot_in (hin 58 (by decide)) rfl
        have h63 : a.eval (.tmp 63) = .bool true := slot_in (hin 63 (by decide)) rfl
        clear hin
        exact .inl ⟨wanted_none rfl, grow_pick rfl h58 h63⟩
      · intro a w1 hG hin
        have h64 : a.eval (.tmp 64) = .bool true := slot_in (hin 64 (by decide)) rfl
        clear hin
        exact .inl ⟨wanted_none rfl, grow_move rfl h64⟩
      · intro a w1 hG hin
        have h8 : a.eval (.tmp 8) = .pointer (some ⟨x4.heap.size, 0, none⟩) := slot_out (hin 8 (by decide)) rfl
        have h65 : a.eval (.tmp 65) = .bool true := slot_in (hin 65 (by decide)) rfl
        clear hin
        refine .inl ⟨wanted_yes rfl rfl h65, ?_⟩
        exact grow_load rfl (B3.out.mono hG) h8 rfl
      · intro a w1 hG hin
        have h0 : a.eval (.tmp 0) = .bool false := slot_out (hin 0 (by decide)) rfl
        have h65 : a.eval (.tmp 65) = .bool true := slot_in (hin 65 (by decide)) rfl
        clear hin
        exact .inl ⟨wanted_yes rfl rfl h65, grow_move rfl h0⟩
      · intro a w1 hG hin
        have h67 : a.eval (.tmp 67) = .bool false := slot_in (hin 67 (by decide)) rfl
        have h65 : a.eval (.tmp 65) = .bool true := slot_in (hin 65 (by decide)) rfl
        clear hin
        exact .inl ⟨wanted_yes rfl rfl h65, grow_move rfl h67⟩
      · intro a w1 hG hin
        have h1 : a.eval (.tmp 1) = .bool false := slot_out (hin 1 (by decide)) rfl
        have h68 : a.eval (.tmp 68) = .bool false := slot_in (hin 68 (by decide)) rfl
        clear hin
        exact .inr ⟨wanted_no rfl rfl h68, fun _ _ => rfl⟩
      · intro a w1 hG hin
        have h68 : a.eval (.tmp 68) = .bool false := slot_in (hin 68 (by decide)) rfl
        have h69 : a.eval (.tmp 69) = undef := slot_in (hin 69 (by decide)) rfl
        have h65 : a.eval (.tmp 65) = .bool true := slot_in (hin 65 (by decide)) rfl
        clear hin
        exact .inl ⟨wanted_yes rfl rfl h65, grow_pick rfl h68 rfl⟩
      · intro a w1 hG hin
        have h70 : a.eval (.tmp 70) = .bool false := slot_in (hin 70 (by decide)) rfl
        have h65 : a.eval (.tmp 65) = .bool true := slot_in (hin 65 (by decide)) rfl
        clear hin
        refine .inl ⟨wanted_yes rfl rfl h65, ?_⟩
        exact grow_call Tryd.call14 #[.bool false] (by simp only [List.map_toArray, List.map_cons, List.map_nil, h70]) ((truth_any (p := 0) (by decide) _).mono (by rintro e w2 ⟨rfl, hg⟩; exact ⟨_, rfl, hg, rfl⟩))
      · intro a w1 hG hin
        have h66 : a.eval (.tmp 66) = V 2 0 E := slot_in (hin 66 (by decide)) rfl
        have h71 : a.eval (.tmp 71) = V 2 0 E := slot_in (hin 71 (by decide)) rfl
        have h65 : a.eval (.tmp 65) = .bool true := slot_in (hin 65 (by decide)) rfl
        clear hin
        refine .inl ⟨wanted_yes rfl rfl h65, ?_⟩
        exact grow_eqV rfl h66 h71 (congrArg Value.bool (by simp [sameV]))
      · intro a w1 hG hin
        have h65 : a.eval (.tmp 65) = .bool true := slot_in (hin 65 (by decide)) rfl
        have h72 : a.eval (.tmp 72) = .bool true := slot_in (hin 72 (by decide)) rfl
        clear hin
        exact .inl ⟨wanted_none rfl, grow_pick rfl h65 h72⟩
      · intro a w1 hG hin
        have h73 : a.eval (.tmp 73) = .bool true := slot_in (hin 73 (by decide)) rfl
        clear hin
        exact .inl ⟨wanted_none rfl, grow_move rfl h73⟩
      · intro a w1 hG hin
        have h12 : a.eval (.tmp 12) = .pointer (some ⟨x5.heap.size, 0, none⟩) := slot_out (hin 12 (by decide)) rfl
        have h74 : a.eval (.tmp 74) = .bool true := slot_in (hin 74 (by decide)) rfl
        clear hin
        refine .inl ⟨wanted_yes rfl rfl h74, ?_⟩
        exact grow_load rfl (B5.out.mono hG) h12 rfl
      · intro a w1 hG hin
        have h0 : a.eval (.tmp 0) = .bool false := slot_out (hin 0 (by decide)) rfl
        have h74 : a.eval (.tmp 74) = .bool true := slot_in (hin 74 (by decide)) rfl
        clear hin
        exact .inl ⟨wanted_yes rfl rfl h74, grow_move rfl h0⟩
      · intro a w1 hG hin
        have h76 : a.eval (.tmp 76) = .bool false := slot_in (hin 76 (by decide)) rfl
        have h74 : a.eval (.tmp 74) = .bool true := slot_in (hin 74 (by decide)) rfl
        clear hin
        exact .inl ⟨wanted_yes rfl rfl h74, grow_move rfl h76⟩
      · intro a w1 hG hin
        have h1 : a.eval (.tmp 1) = .bool false := slot_out (hin 1 (by decide)) rfl
        have h77 : a.eval (.tmp 77) = .bool false := slot_in (hin 77 (by decide)) rfl
        clear hin
        exact .inl ⟨wanted_yes rfl rfl h77, grow_move rfl h1⟩
      · intro a w1 hG hin
        have h77 : a.eval (.tmp 77) = .bool false := slot_in (hin 77 (by decide)) rfl
        have h78 : a.eval (.tmp 78) = .bool false := slot_in (hin 78 (by decide)) rfl
        have h74 : a.eval (.tmp 74) = .bool true := slot_in (hin 74 (by decide)) rfl
        clear hin
        exact .inl ⟨wanted_yes rfl rfl h74, grow_pick rfl h77 h78⟩
      · intro a w1 hG hin
        have h79 : a.eval (.tmp 79) = .bool false := slot_in (hin 79 (by decide)) rfl
        have h74 : a.eval (.tmp 74) = .bool true := slot_in (hin 74 (by decide)) rfl
        clear hin
        refine .inl ⟨wanted_yes rfl rfl h74, ?_⟩
        exact grow_call Tryd.call14 #[.bool false] (by simp only [List.map_toArray, List.map_cons, List.map_nil, h79]) ((truth_any (p := 0) (by decide) _).mono (by rintro e w2 ⟨rfl, hg⟩; exact ⟨_, rfl, hg, rfl⟩))
      · intro a w1 hG hin
        have h75 : a.eval (.tmp 75) = V 2 0 E := slot_in (hin 75 (by decide)) rfl
        have h80 : a.eval (.tmp 80) = V 2 0 E := slot_in (hin 80 (by decide)) rfl
        have h74 : a.eval (.tmp 74) = .bool true := slot_in (hin 74 (by decide)) rfl
        clear hin
        refine .inl ⟨wanted_yes rfl rfl h74, ?_⟩
        exact grow_eqV rfl h75 h80 (congrArg Value.bool (by simp [sameV]))
      · intro a w1 hG hin
        have h74 : a.eval (.tmp 74) = .bool true := slot_in (hin 74 (by decide)) rfl
        have h81 : a.eval (.tmp 81) = .bool true := slot_in (hin 81 (by decide)) rfl
        clear hin
        exact .inl ⟨wanted_none rfl, grow_pick rfl h74 h81⟩
      · intro a w1 hG hin
        have h82 : a.eval (.tmp 82) = .bool true := slot_in (hin 82 (by decide)) rfl
        clear hin
        exact .inl ⟨wanted_none rfl, grow_assign rfl h82⟩
      · intro s w3 hG hin hs
        have f4 : s 4 = .bool true := (hs 4 (by decide)).symm.trans (slot_in (hin 4) rfl)
        clear hin hs
        rw [show List.range 83 = [0, 1, 2, 3, 4, 5, 6, 7, 8, 9, 10, 11, 12, 13, 14, 15, 16, 17, 18, 19, 20, 21, 22, 23, 24, 25, 26, 27, 28, 29, 30, 31, 32, 33, 34, 35, 36, 37, 38, 39, 40, 41, 42, 43, 44, 45, 46, 47, 48, 49, 50, 51, 52, 53, 54, 55, 56, 57, 58, 59, 60, 61, 62, 63, 64, 65, 66, 67, 68, 69, 70, 71, 72, 73, 74, 75, 76, 77, 78, 79, 80, 81, 82] from rfl]
        simp only [List.map_cons, List.map_nil]
        rw [f4]
        go_wp2_with fail
        go_ret
        exact ⟨rfl, HG.out.trans hG⟩)

theorem logic_law (a b : Bool) (w : World) : Calls Tryd.prog 6 #[.bool a, .bool b] w fun e w' => e = .returned (.bool true) ∧ G w w' := by
  cases a <;> cases b
  · exact logic_FF w
  · exact logic_FT w
  · exact logic_TF w
  · exact logic_TT w
end Bx
end Go.Proofs.YtlmmpcoakemooaaDoor
