/-
  The walk over ValueDivides: it returns true, and writes nothing that was there. No conditions.
-/
import Derived.Test.YtlmmpcoakemooaaDoorTruths
import Derived.Test.YtlmmpcoakemooaaDoorNums
import Derived.Test.YtlmmpcoakemooaaDoorSaysC
import Derived.Test.YtlmmpcoakemooaaDoorLate
import Derived.Test.YtlmmpcoakemooaaDoorDivMath
namespace Go.Proofs.YtlmmpcoakemooaaDoor
open Go.RowKit

namespace Bx

theorem div0_any (a : Int) (w : World) : Calls Tryd.prog 12 #[.string ⟨#[47]⟩, V 1 a E, V 1 0 E] w fun e w' => e = .returned (.tuple #[V 0 0 E, .int .i64 1]) ∧ G w w' := by
  have k := bin_any ⟨#[47]⟩ 1 a E 1 0 E w (by decide) (by decide)
  rw [show binR ⟨#[47]⟩ 1 a E 1 0 E = ⟨0, 0, E, 1⟩ by simp [binR, numR]] at k
  exact k
theorem mod0_any (a : Int) (w : World) : Calls Tryd.prog 12 #[.string ⟨#[37]⟩, V 1 a E, V 1 0 E] w fun e w' => e = .returned (.tuple #[V 0 0 E, .int .i64 1]) ∧ G w w' := by
  have k := bin_any ⟨#[37]⟩ 1 a E 1 0 E w (by decide) (by decide)
  rw [show binR ⟨#[37]⟩ 1 a E 1 0 E = ⟨0, 0, E, 1⟩ by simp [binR, numR]] at k
  exact k
theorem div_any {a b p : Int} (hb : b ≠ 0) (h : wrap64 (a.tdiv b) = p) (w : World) : Calls Tryd.prog 12 #[.string ⟨#[47]⟩, V 1 a E, V 1 b E] w fun e w' => e = .returned (.tuple #[V 1 p E, .int .i64 0]) ∧ G w w' := by
  have k := bin_any ⟨#[47]⟩ 1 a E 1 b E w (by decide) (by decide)
  rw [show binR ⟨#[47]⟩ 1 a E 1 b E = ⟨1, wrap64 (a.tdiv b), E, 0⟩ by simp [binR, numR, hb]] at k
  subst h
  exact k
theorem mod_any {a b p : Int} (hb : b ≠ 0) (h : a.tmod b = p) (w : World) : Calls Tryd.prog 12 #[.string ⟨#[37]⟩, V 1 a E, V 1 b E] w fun e w' => e = .returned (.tuple #[V 1 p E, .int .i64 0]) ∧ G w w' := by
  have k := bin_any ⟨#[37]⟩ 1 a E 1 b E w (by decide) (by decide)
  rw [show binR ⟨#[37]⟩ 1 a E 1 b E = ⟨1, a.tmod b, E, 0⟩ by simp [binR, numR, hb]] at k
  subst h
  exact k

set_option maxRecDepth 100000 in
set_option maxHeartbeats 8000000 in
theorem divides_zero (a b s m : Int) (w : World) (hb : b = 0) (h1 : wrap64 (a + b) = s) (h2 : wrap64 (s - b) = a) (h3 : wrap64 (a - a) = 0) (hm : wrap64 (-a) = m) (h4 : wrap64 (a + m) = 0) :
    Calls Tryd.prog 5 #[.int .i64 a, .int .i64 b] w fun e w' => e = .returned (.bool true) ∧ G w w' := by
  subst hb
  go_enter Tryd.func5, Tryd.ntmps5
  go_wp2_with fail
  refine (shown_any _).mono ?_
  rintro e x1 ⟨rfl, g1⟩
  (try simp only [R.v, R.u, V])
  have h1 : G w x1 := g1
  have HG := hid h1
  clear h1 g1
  go_wp2_with fail
  refine (int_any _ _).mono ?_
  rintro e x2 ⟨rfl, g2⟩
  (try simp only [R.v, R.u, V])
  have h2 : G x1 x2 := g2
  replace HG := hid (HG.out.trans h2)
  clear h2 g2
  go_wp2_with fail
  refine (int_any _ _).mono ?_
  rintro e x3 ⟨rfl, g3⟩
  (try simp only [R.v, R.u, V])
  have h3 : G x2 x3 := ((G.refl _).alloc _).trans g3
  have B1 := hid (At.after g3)
  replace HG := hid (HG.out.trans h3)
  clear h3 g3
  obtain ⟨l1, p1, q1, r1, f1⟩ := B1.out
  go_wp2_with fail
  refine (add_any h1 _).mono ?_
  rintro e x4 ⟨rfl, g4⟩
  (try simp only [R.v, R.u, V])
  clear l1 p1 q1 r1 f1
  have h4 : G x3 x4 := ((G.refl _).alloc _).trans g4
  replace B1 := hid (B1.out.mono h4)
  have B2 := hid (At.after g4)
  replace HG := hid (HG.out.trans h4)
  clear h4 g4
  obtain ⟨l1, p1, q1, r1, f1⟩ := B1.out
  obtain ⟨l2, p2, q2, r2, f2⟩ := B2.out
  go_wp2_with fail
  refine (sub_any h2 _).mono ?_
  rintro e x5 ⟨rfl, g5⟩
  (try simp only [R.v, R.u, V])
  clear l1 p1 q1 r1 f1
  clear l2 p2 q2 r2 f2
  have h5 : G x4 x5 := ((G.refl _).alloc _).trans g5
  replace B1 := hid (B1.out.mono h5)
  replace B2 := hid (B2.out.mono h5)
  have B3 := hid (At.after g5)
  replace HG := hid (HG.out.trans h5)
  clear h5 g5
  obtain ⟨l1, p1, q1, r1, f1⟩ := B1.out
  obtain ⟨l2, p2, q2, r2, f2⟩ := B2.out
  obtain ⟨l3, p3, q3, r3, f3⟩ := B3.out
  go_wp2_with fail
  refine (sub_any h3 _).mono ?_
  rintro e x6 ⟨rfl, g6⟩
  (try simp only [R.v, R.u, V])
  clear l1 p1 q1 r1 f1
  clear l2 p2 q2 r2 f2
  clear l3 p3 q3 r3 f3
  have h6 : G x5 x6 := ((G.refl _).alloc _).trans g6
  replace B1 := hid (B1.out.mono h6)
  replace B2 := hid (B2.out.mono h6)
  replace B3 := hid (B3.out.mono h6)
  have B4 := hid (At.after g6)
  replace HG := hid (HG.out.trans h6)
  clear h6 g6
  obtain ⟨l1, p1, q1, r1, f1⟩ := B1.out
  obtain ⟨l2, p2, q2, r2, f2⟩ := B2.out
  obtain ⟨l3, p3, q3, r3, f3⟩ := B3.out
  obtain ⟨l4, p4, q4, r4, f4⟩ := B4.out
  go_upto_region 7 with (fail)
  clear l1 p1 q1 r1 f1
  clear l2 p2 q2 r2 f2
  clear l3 p3 q3 r3 f3
  clear l4 p4 q4 r4 f4
  replace B1 := hid (B1.out.more (.cells #[.int .i64 1, .int .i64 0, .string ⟨#[]⟩] 24))
  replace B2 := hid (B2.out.more (.cells #[.int .i64 1, .int .i64 0, .string ⟨#[]⟩] 24))
  replace B3 := hid (B3.out.more (.cells #[.int .i64 1, .int .i64 0, .string ⟨#[]⟩] 24))
  replace B4 := hid (B4.out.more (.cells #[.int .i64 1, .int .i64 0, .string ⟨#[]⟩] 24))
  have B5 := hid (At.alloc x6 1 0 E)
  replace HG := hid (HG.out.alloc (.cells #[.int .i64 1, .int .i64 0, .string ⟨#[]⟩] 24))
  refine wp_region_late (says [Say.is (V 1 a E), Say.is (V 1 a E), Say.is (V 1 m E), Say.is (.tuple #[V 1 0 E, .int .i64 0]), Say.is (.tuple #[V 1 0 E, .int .i64 0]), Say.is (V 1 0 E), Say.is (.int .i64 0), Say.box (x6.heap.size + 1)]) 8 6 192 (by kernel_rfl) (by kernel_rfl) rfl (says_mono _) (allSteps_take ⟨?_, ?_, ?_, ?_, ?_, ?_, ?_, ?_, trivial⟩) _ _ rfl rfl ?_
  · intro ac w1 hG hin
    have h6 : ac.eval (.tmp 6) = .pointer (some ⟨x2.heap.size, 0, none⟩) := slot_out (hin 6 (by decide)) rfl
    clear hin
    refine .inl ⟨wanted_none rfl, ?_⟩
    exact grow_load rfl (B1.out.mono hG) h6 rfl
  · intro ac w1 hG hin
    have h6 : ac.eval (.tmp 6) = .pointer (some ⟨x2.heap.size, 0, none⟩) := slot_out (hin 6 (by decide)) rfl
    clear hin
    refine .inl ⟨wanted_none rfl, ?_⟩
    exact grow_load rfl (B1.out.mono hG) h6 rfl
  · intro ac w1 hG hin
    have h53 : ac.eval (.tmp 53) = V 1 a E := slot_in (hin 53 (by decide)) rfl
    clear hin
    refine .inl ⟨wanted_none rfl, ?_⟩
    exact grow_call Tryd.call13 #[.string ⟨#[45]⟩, V 1 a E] (by simp only [List.map_toArray, List.map_cons, List.map_nil, h53]; rfl) ((neg_any hm _).mono (by rintro e w2 ⟨rfl, hg⟩; exact ⟨_, rfl, hg, rfl⟩))
  · intro ac w1 hG hin
    have h52 : ac.eval (.tmp 52) = V 1 a E := slot_in (hin 52 (by decide)) rfl
    have h54 : ac.eval (.tmp 54) = V 1 m E := slot_in (hin 54 (by decide)) rfl
    clear hin
    refine .inl ⟨wanted_none rfl, ?_⟩
    exact grow_call Tryd.call12 #[.string ⟨#[43]⟩, V 1 a E, V 1 m E] (by simp only [List.map_toArray, List.map_cons, List.map_nil, h52, h54]; rfl) ((add_any h4 _).mono (by rintro e w2 ⟨rfl, hg⟩; exact ⟨_, rfl, hg, rfl⟩))
  · intro ac w1 hG hin
    have h55 : ac.eval (.tmp 55) = .tuple #[V 1 0 E, .int .i64 0] := slot_in (hin 55 (by decide)) rfl
    clear hin
    exact .inl ⟨wanted_none rfl, grow_move rfl h55⟩
  · intro ac w1 hG hin
    have h51 : ac.eval (.tmp 51) = .tuple #[V 1 0 E, .int .i64 0] := slot_in (hin 51 (by decide)) rfl
    clear hin
    refine .inl ⟨wanted_none rfl, ?_⟩
    exact grow_extract rfl h51 (.inl ⟨rfl, rfl⟩)
  · intro ac w1 hG hin
    have h51 : ac.eval (.tmp 51) = .tuple #[V 1 0 E, .int .i64 0] := slot_in (hin 51 (by decide)) rfl
    clear hin
    refine .inl ⟨wanted_none rfl, ?_⟩
    exact grow_extract rfl h51 (.inr ⟨rfl, rfl⟩)
  · intro ac w1 hG hin
    clear hin
    refine .inl ⟨wanted_none rfl, ?_⟩
    refine grow_box (B := x6.heap.size + 1) rfl (by have h := hG.size; simpa using h) fun w9 h9 => ⟨_, rfl, (by have h := hG.size; simpa using h), h9⟩
  · intro sl w2 ls hG hl hs
    rw [show List.range 192 = [0, 1, 2, 3, 4, 5, 6, 7, 8, 9, 10, 11, 12, 13, 14, 15, 16, 17, 18, 19, 20, 21, 22, 23, 24, 25, 26, 27, 28, 29, 30, 31, 32, 33, 34, 35, 36, 37, 38, 39, 40, 41, 42, 43, 44, 45, 46, 47, 48, 49, 50, 51, 52, 53, 54, 55, 56, 57, 58, 59, 60, 61, 62, 63, 64, 65, 66, 67, 68, 69, 70, 71, 72, 73, 74, 75, 76, 77, 78, 79, 80, 81, 82, 83, 84, 85, 86, 87, 88, 89, 90, 91, 92, 93, 94, 95, 96, 97, 98, 99, 100, 101, 102, 103, 104, 105, 106, 107, 108, 109, 110, 111, 112, 113, 114, 115, 116, 117, 118, 119, 120, 121, 122, 123, 124, 125, 126, 127, 128, 129, 130, 131, 132, 133, 134, 135, 136, 137, 138, 139, 140, 141, 142, 143, 144, 145, 146, 147, 148, 149, 150, 151, 152, 153, 154, 155, 156, 157, 158, 159, 160, 161, 162, 163, 164, 165, 166, 167, 168, 169, 170, 171, 172, 173, 174, 175, 176, 177, 178, 179, 180, 181, 182, 183, 184, 185, 186, 187, 188, 189, 190, 191] from rfl]
    simp only [List.map_cons, List.map_nil]
    rw [show List.range 192 = [0, 1, 2, 3, 4, 5, 6, 7, 8, 9, 10, 11, 12, 13, 14, 15, 16, 17, 18, 19, 20, 21, 22, 23, 24, 25, 26, 27, 28, 29, 30, 31, 32, 33, 34, 35, 36, 37, 38, 39, 40, 41, 42, 43, 44, 45, 46, 47, 48, 49, 50, 51, 52, 53, 54, 55, 56, 57, 58, 59, 60, 61, 62, 63, 64, 65, 66, 67, 68, 69, 70, 71, 72, 73, 74, 75, 76, 77, 78, 79, 80, 81, 82, 83, 84, 85, 86, 87, 88, 89, 90, 91, 92, 93, 94, 95, 96, 97, 98, 99, 100, 101, 102, 103, 104, 105, 106, 107, 108, 109, 110, 111, 112, 113, 114, 115, 116, 117, 118, 119, 120, 121, 122, 123, 124, 125, 126, 127, 128, 129, 130, 131, 132, 133, 134, 135, 136, 137, 138, 139, 140, 141, 142, 143, 144, 145, 146, 147, 148, 149, 150, 151, 152, 153, 154, 155, 156, 157, 158, 159, 160, 161, 162, 163, 164, 165, 166, 167, 168, 169, 170, 171, 172, 173, 174, 175, 176, 177, 178, 179, 180, 181, 182, 183, 184, 185, 186, 187, 188, 189, 190, 191] from rfl] at hl hs
    simp only [List.map_cons, List.map_nil] at hl hs
    rcases hl with ⟨rfl, hin⟩ | ⟨rfl, hin⟩
    all_goals (
      have f0 : sl 0 = .int .i64 a := by first | exact (hs 0 (by decide)).symm.trans (slot_out (hin 0) rfl) | exact (hs 0 (by decide)).symm.trans (slot_out (hin 0 (fun e => absurd ((show writer _ _ 0 = none from rfl).symm.trans e) (by decide))) rfl)
      have f1 : sl 1 = .int .i64 0 := by first | exact (hs 1 (by decide)).symm.trans (slot_out (hin 1) rfl) | exact (hs 1 (by decide)).symm.trans (slot_out (hin 1 (fun e => absurd ((show writer _ _ 1 = none from rfl).symm.trans e) (by decide))) rfl)
      have f4 : sl 4 = .bool false := by first | exact (hs 4 (by decide)).symm.trans (slot_out (hin 4) rfl) | exact (hs 4 (by decide)).symm.trans (slot_out (hin 4 (fun e => absurd ((show writer _ _ 4 = none from rfl).symm.trans e) (by decide))) rfl)
      have f5 : sl 5 = .bool true := by first | exact (hs 5 (by decide)).symm.trans (slot_out (hin 5) rfl) | exact (hs 5 (by decide)).symm.trans (slot_out (hin 5 (fun e => absurd ((show writer _ _ 5 = none from rfl).symm.trans e) (by decide))) rfl)
      have f6 : sl 6 = .pointer (some ⟨x2.heap.size, 0, none⟩) := by first | exact (hs 6 (by decide)).symm.trans (slot_out (hin 6) rfl) | exact (hs 6 (by decide)).symm.trans (slot_out (hin 6 (fun e => absurd ((show writer _ _ 6 = none from rfl).symm.trans e) (by decide))) rfl)
      have f7 : sl 7 = .pointer (some ⟨x3.heap.size, 0, none⟩) := by first | exact (hs 7 (by decide)).symm.trans (slot_out (hin 7) rfl) | exact (hs 7 (by decide)).symm.trans (slot_out (hin 7 (fun e => absurd ((show writer _ _ 7 = none from rfl).symm.trans e) (by decide))) rfl)
      have f8 : sl 8 = .pointer (some ⟨x4.heap.size, 0, none⟩) := by first | exact (hs 8 (by decide)).symm.trans (slot_out (hin 8) rfl) | exact (hs 8 (by decide)).symm.trans (slot_out (hin 8 (fun e => absurd ((show writer _ _ 8 = none from rfl).symm.trans e) (by decide))) rfl)
      have f9 : sl 9 = .int .i64 0 := by first | exact (hs 9 (by decide)).symm.trans (slot_out (hin 9) rfl) | exact (hs 9 (by decide)).symm.trans (slot_out (hin 9 (fun e => absurd ((show writer _ _ 9 = none from rfl).symm.trans e) (by decide))) rfl)
      have f10 : sl 10 = .pointer (some ⟨x5.heap.size, 0, none⟩) := by first | exact (hs 10 (by decide)).symm.trans (slot_out (hin 10) rfl) | exact (hs 10 (by decide)).symm.trans (slot_out (hin 10 (fun e => absurd ((show writer _ _ 10 = none from rfl).symm.trans e) (by decide))) rfl)
      have f11 : sl 11 = .int .i64 0 := by first | exact (hs 11 (by decide)).symm.trans (slot_out (hin 11) rfl) | exact (hs 11 (by decide)).symm.trans (slot_out (hin 11 (fun e => absurd ((show writer _ _ 11 = none from rfl).symm.trans e) (by decide))) rfl)
      have f12 : sl 12 = .pointer (some ⟨x6.heap.size, 0, none⟩) := by first | exact (hs 12 (by decide)).symm.trans (slot_out (hin 12) rfl) | exact (hs 12 (by decide)).symm.trans (slot_out (hin 12 (fun e => absurd ((show writer _ _ 12 = none from rfl).symm.trans e) (by decide))) rfl)
      have f13 : sl 13 = .int .i64 0 := by first | exact (hs 13 (by decide)).symm.trans (slot_out (hin 13) rfl) | exact (hs 13 (by decide)).symm.trans (slot_out (hin 13 (fun e => absurd ((show writer _ _ 13 = none from rfl).symm.trans e) (by decide))) rfl)
      have f14 : ∃ bb, sl 14 = .pointer (some ⟨bb, 0, none⟩) ∧ x6.heap.size + 1 ≤ bb ∧ At w2 bb 0 0 E := by first | (have h := (slot_in (hin 14) rfl); rw [hs 14 (by decide)] at h; exact h) | (have h := (slot_in (hin 14 (fun e => absurd ((show writer _ _ 14 = some 7 from rfl).symm.trans e) (by decide))) rfl); rw [hs 14 (by decide)] at h; exact h)
      have f15 : sl 15 = undef := by first | exact (hs 15 (by decide)).symm.trans (slot_out (hin 15) rfl) | exact (hs 15 (by decide)).symm.trans (slot_out (hin 15 (fun e => absurd ((show writer _ _ 15 = none from rfl).symm.trans e) (by decide))) rfl)
      have f51 : sl 51 = .tuple #[V 1 0 E, .int .i64 0] := by first | exact (hs 51 (by decide)).symm.trans (slot_in (hin 51) rfl) | exact (hs 51 (by decide)).symm.trans (slot_in (hin 51 (fun e => absurd ((show writer _ _ 51 = some 4 from rfl).symm.trans e) (by decide))) rfl)
      have f56 : sl 56 = V 1 0 E := by first | exact (hs 56 (by decide)).symm.trans (slot_in (hin 56) rfl) | exact (hs 56 (by decide)).symm.trans (slot_in (hin 56 (fun e => absurd ((show writer _ _ 56 = some 5 from rfl).symm.trans e) (by decide))) rfl)
      (try (have f57 : sl 57 = .int .i64 0 := (hs 57 (by decide)).symm.trans (slot_in (hin 57) rfl); rw [f57]; clear f57))
      clear hin hs
      rw [f0, f1, f4, f5, f6, f7, f8, f9, f10, f11, f12, f13, f15, f51, f56]
      obtain ⟨bb, e10, hbb, hA⟩ := f14
      rw [e10]
      clear e10 f0 f1 f4 f5 f6 f7 f8 f9 f10 f11 f12 f13 f15 f51 f56
      (try simp only [V, E])
      have NB := hid hA
      obtain ⟨l9, p9, q9, r9, f9⟩ := hA
      (try simp only [List.drop_succ_cons, List.drop_zero])
      go_upto_region 8 with (fail)
      clear l9 p9 q9 r9 f9
      have s1 := B1.out.lt
      have s2 := B2.out.lt
      have s3 := B3.out.lt
      have s4 := B4.out.lt
      have s5 := B5.out.lt
      have sw := HG.out.size
      (try simp at s1 s2 s3 s4 s5 sw)
      have C1 := keep (B1.out.mono hG) (c := bb) (by omega) 1 0 ⟨#[]⟩
      have C2 := keep (B2.out.mono hG) (c := bb) (by omega) 1 0 ⟨#[]⟩
      have C3 := keep (B3.out.mono hG) (c := bb) (by omega) 1 0 ⟨#[]⟩
      have C4 := keep (B4.out.mono hG) (c := bb) (by omega) 1 0 ⟨#[]⟩
      have C5 := keep (B5.out.mono hG) (c := bb) (by omega) 1 0 ⟨#[]⟩
      have CN := NB.out.set 1 0 ⟨#[]⟩
      have CG := G.set (G.set (G.set (HG.out.trans hG) (p := ⟨bb, 0, none⟩) (by simp; omega) (.int .i64 1)) (p := ⟨bb, 1, none⟩) (by simp; omega) (.int .i64 0)) (p := ⟨bb, 2, none⟩) (by simp; omega) (.string ⟨#[]⟩)
      generalize ((w2.setCell ⟨bb, 0, none⟩ (.int .i64 1)).setCell ⟨bb, 1, none⟩ (.int .i64 0)).setCell ⟨bb, 2, none⟩ (.string ⟨#[]⟩) = y at C1 C2 C3 C4 C5 CN CG ⊢
      replace B1 := hid C1
      replace B2 := hid C2
      replace B3 := hid C3
      replace B4 := hid C4
      replace B5 := hid C5
      have B6 := hid CN
      replace HG := hid CG
      clear C1 C2 C3 C4 C5 CN CG NB hG s1 s2 s3 s4 s5 sw hbb
      obtain ⟨l1, p1, q1, r1, f1⟩ := B1.out
      obtain ⟨l2, p2, q2, r2, f2⟩ := B2.out
      obtain ⟨l3, p3, q3, r3, f3⟩ := B3.out
      obtain ⟨l4, p4, q4, r4, f4⟩ := B4.out
      obtain ⟨l5, p5, q5, r5, f5⟩ := B5.out
      obtain ⟨l6, p6, q6, r6, f6⟩ := B6.out
      clear l1 p1 q1 r1 f1
      clear l2 p2 q2 r2 f2
      clear l3 p3 q3 r3 f3
      clear l4 p4 q4 r4 f4
      clear l5 p5 q5 r5 f5
      clear l6 p6 q6 r6 f6
      refine wp_region_grows (says [Say.is (.int .i64 0), Say.is (.bool false), Say.is (.bool false), Say.is (.int .i64 0), Say.is (.bool false), Say.is (.bool false), Say.is (.bool false), Say.is (.int .i64 0), Say.is (.bool false), Say.is (.bool false), Say.is (.bool false), Say.is (.int .i64 0), Say.is (.bool false), Say.is (.bool false), Say.is (.bool false), Say.is (V 1 a E), Say.is (V 1 a E), Say.is (.bool false), Say.is (.bool false), Say.is (.bool false), Say.is (V 1 0 E), Say.is (V 1 0 E), Say.is (.bool false), Say.is (.bool false), Say.is (.bool false), Say.is (V 1 0 E), Say.is (V 1 0 E), Say.is (.bool false), Say.is (.bool false)]) 192 (by kernel_rfl) (by kernel_rfl) rfl (says_mono _) (allSteps_take ⟨?_, ?_, ?_, ?_, ?_, ?_, ?_, ?_, ?_, ?_, ?_, ?_, ?_, ?_, ?_, ?_, ?_, ?_, ?_, ?_, ?_, ?_, ?_, ?_, ?_, ?_, ?_, ?_, ?_, trivial⟩) ?_
      · intro ac w1 hG hin
        have h9 : ac.eval (.tmp 9) = .int .i64 0 := slot_out (hin 9 (by decide)) rfl
        clear hin
        exact .inl ⟨wanted_none rfl, grow_move rfl h9⟩
      · intro ac w1 hG hin
        have h58 : ac.eval (.tmp 58) = .int .i64 0 := slot_in (hin 58 (by decide)) rfl
        clear hin
        refine .inl ⟨wanted_none rfl, ?_⟩
        exact grow_neint rfl h58 rfl rfl
      · intro ac w1 hG hin
        have h59 : ac.eval (.tmp 59) = .bool false := slot_in (hin 59 (by decide)) rfl
        clear hin
        exact .inl ⟨wanted_none rfl, grow_move rfl h59⟩
      · intro ac w1 hG hin
        have h11 : ac.eval (.tmp 11) = .int .i64 0 := slot_out (hin 11 (by decide)) rfl
        have h60 : ac.eval (.tmp 60) = .bool false := slot_in (hin 60 (by decide)) rfl
        clear hin
        exact .inl ⟨wanted_yes rfl rfl h60, grow_move rfl h11⟩
      · intro ac w1 hG hin
        have h61 : ac.eval (.tmp 61) = .int .i64 0 := slot_in (hin 61 (by decide)) rfl
        have h60 : ac.eval (.tmp 60) = .bool false := slot_in (hin 60 (by decide)) rfl
        clear hin
        refine .inl ⟨wanted_yes rfl rfl h60, ?_⟩
        exact grow_neint rfl h61 rfl rfl
      · intro ac w1 hG hin
        have h60 : ac.eval (.tmp 60) = .bool false := slot_in (hin 60 (by decide)) rfl
        have h62 : ac.eval (.tmp 62) = .bool false := slot_in (hin 62 (by decide)) rfl
        clear hin
        exact .inl ⟨wanted_none rfl, grow_pick rfl h60 h62⟩
      · intro ac w1 hG hin
        have h63 : ac.eval (.tmp 63) = .bool false := slot_in (hin 63 (by decide)) rfl
        clear hin
        exact .inl ⟨wanted_none rfl, grow_move rfl h63⟩
      · intro ac w1 hG hin
        have h13 : ac.eval (.tmp 13) = .int .i64 0 := slot_out (hin 13 (by decide)) rfl
        have h64 : ac.eval (.tmp 64) = .bool false := slot_in (hin 64 (by decide)) rfl
        clear hin
        exact .inl ⟨wanted_yes rfl rfl h64, grow_move rfl h13⟩
      · intro ac w1 hG hin
        have h65 : ac.eval (.tmp 65) = .int .i64 0 := slot_in (hin 65 (by decide)) rfl
        have h64 : ac.eval (.tmp 64) = .bool false := slot_in (hin 64 (by decide)) rfl
        clear hin
        refine .inl ⟨wanted_yes rfl rfl h64, ?_⟩
        exact grow_neint rfl h65 rfl rfl
      · intro ac w1 hG hin
        have h64 : ac.eval (.tmp 64) = .bool false := slot_in (hin 64 (by decide)) rfl
        have h66 : ac.eval (.tmp 66) = .bool false := slot_in (hin 66 (by decide)) rfl
        clear hin
        exact .inl ⟨wanted_none rfl, grow_pick rfl h64 h66⟩
      · intro ac w1 hG hin
        have h67 : ac.eval (.tmp 67) = .bool false := slot_in (hin 67 (by decide)) rfl
        clear hin
        exact .inl ⟨wanted_none rfl, grow_move rfl h67⟩
      · intro ac w1 hG hin
        have h15 : ac.eval (.tmp 15) = .int .i64 0 := slot_out (hin 15 (by decide)) rfl
        have h68 : ac.eval (.tmp 68) = .bool false := slot_in (hin 68 (by decide)) rfl
        clear hin
        exact .inl ⟨wanted_yes rfl rfl h68, grow_move rfl h15⟩
      · intro ac w1 hG hin
        have h69 : ac.eval (.tmp 69) = .int .i64 0 := slot_in (hin 69 (by decide)) rfl
        have h68 : ac.eval (.tmp 68) = .bool false := slot_in (hin 68 (by decide)) rfl
        clear hin
        refine .inl ⟨wanted_yes rfl rfl h68, ?_⟩
        exact grow_neint rfl h69 rfl rfl
      · intro ac w1 hG hin
        have h68 : ac.eval (.tmp 68) = .bool false := slot_in (hin 68 (by decide)) rfl
        have h70 : ac.eval (.tmp 70) = .bool false := slot_in (hin 70 (by decide)) rfl
        clear hin
        exact .inl ⟨wanted_none rfl, grow_pick rfl h68 h70⟩
      · intro ac w1 hG hin
        have h71 : ac.eval (.tmp 71) = .bool false := slot_in (hin 71 (by decide)) rfl
        clear hin
        exact .inl ⟨wanted_none rfl, grow_move rfl h71⟩
      · intro ac w1 hG hin
        have h10 : ac.eval (.tmp 10) = .pointer (some ⟨x5.heap.size, 0, none⟩) := slot_out (hin 10 (by decide)) rfl
        have h72 : ac.eval (.tmp 72) = .bool false := slot_in (hin 72 (by decide)) rfl
        clear hin
        refine .inl ⟨wanted_yes rfl rfl h72, ?_⟩
        exact grow_load rfl (B4.out.mono hG) h10 rfl
      · intro ac w1 hG hin
        have h6 : ac.eval (.tmp 6) = .pointer (some ⟨x2.heap.size, 0, none⟩) := slot_out (hin 6 (by decide)) rfl
        have h72 : ac.eval (.tmp 72) = .bool false := slot_in (hin 72 (by decide)) rfl
        clear hin
        refine .inl ⟨wanted_yes rfl rfl h72, ?_⟩
        exact grow_load rfl (B1.out.mono hG) h6 rfl
      · intro ac w1 hG hin
        have h73 : ac.eval (.tmp 73) = V 1 a E := slot_in (hin 73 (by decide)) rfl
        have h74 : ac.eval (.tmp 74) = V 1 a E := slot_in (hin 74 (by decide)) rfl
        have h72 : ac.eval (.tmp 72) = .bool false := slot_in (hin 72 (by decide)) rfl
        clear hin
        refine .inl ⟨wanted_yes rfl rfl h72, ?_⟩
        exact grow_neV rfl h73 h74 (congrArg Value.bool (by simp [sameV]))
      · intro ac w1 hG hin
        have h72 : ac.eval (.tmp 72) = .bool false := slot_in (hin 72 (by decide)) rfl
        have h75 : ac.eval (.tmp 75) = .bool false := slot_in (hin 75 (by decide)) rfl
        clear hin
        exact .inl ⟨wanted_none rfl, grow_pick rfl h72 h75⟩
      · intro ac w1 hG hin
        have h76 : ac.eval (.tmp 76) = .bool false := slot_in (hin 76 (by decide)) rfl
        clear hin
        exact .inl ⟨wanted_none rfl, grow_move rfl h76⟩
      · intro ac w1 hG hin
        have h12 : ac.eval (.tmp 12) = .pointer (some ⟨x6.heap.size, 0, none⟩) := slot_out (hin 12 (by decide)) rfl
        have h77 : ac.eval (.tmp 77) = .bool false := slot_in (hin 77 (by decide)) rfl
        clear hin
        refine .inl ⟨wanted_yes rfl rfl h77, ?_⟩
        exact grow_load rfl (B5.out.mono hG) h12 rfl
      · intro ac w1 hG hin
        have h77 : ac.eval (.tmp 77) = .bool false := slot_in (hin 77 (by decide)) rfl
        clear hin
        exact .inl ⟨wanted_yes rfl rfl h77, grow_call Tryd.call11 #[ac.eval (.const (.int .i64 0))] (by simp only [List.map_toArray, List.map_cons, List.map_nil]) ((int_any _ _).mono (by rintro e w2 ⟨rfl, hg⟩; exact ⟨_, rfl, hg, rfl⟩))⟩
      · intro ac w1 hG hin
        have h78 : ac.eval (.tmp 78) = V 1 0 E := slot_in (hin 78 (by decide)) rfl
        have h79 : ac.eval (.tmp 79) = V 1 0 E := slot_in (hin 79 (by decide)) rfl
        have h77 : ac.eval (.tmp 77) = .bool false := slot_in (hin 77 (by decide)) rfl
        clear hin
        refine .inl ⟨wanted_yes rfl rfl h77, ?_⟩
        exact grow_neV rfl h78 h79 (congrArg Value.bool (by simp [sameV]))
      · intro ac w1 hG hin
        have h77 : ac.eval (.tmp 77) = .bool false := slot_in (hin 77 (by decide)) rfl
        have h80 : ac.eval (.tmp 80) = .bool false := slot_in (hin 80 (by decide)) rfl
        clear hin
        exact .inl ⟨wanted_none rfl, grow_pick rfl h77 h80⟩
      · intro ac w1 hG hin
        have h81 : ac.eval (.tmp 81) = .bool false := slot_in (hin 81 (by decide)) rfl
        clear hin
        exact .inl ⟨wanted_none rfl, grow_move rfl h81⟩
      · intro ac w1 hG hin
        have h14 : ac.eval (.tmp 14) = .pointer (some ⟨bb, 0, none⟩) := slot_out (hin 14 (by decide)) rfl
        have h82 : ac.eval (.tmp 82) = .bool false := slot_in (hin 82 (by decide)) rfl
        clear hin
        refine .inl ⟨wanted_yes rfl rfl h82, ?_⟩
        exact grow_load rfl (B6.out.mono hG) h14 rfl
      · intro ac w1 hG hin
        have h82 : ac.eval (.tmp 82) = .bool false := slot_in (hin 82 (by decide)) rfl
        clear hin
        exact .inl ⟨wanted_yes rfl rfl h82, grow_call Tryd.call11 #[ac.eval (.const (.int .i64 0))] (by simp only [List.map_toArray, List.map_cons, List.map_nil]) ((int_any _ _).mono (by rintro e w2 ⟨rfl, hg⟩; exact ⟨_, rfl, hg, rfl⟩))⟩
      · intro ac w1 hG hin
        have h83 : ac.eval (.tmp 83) = V 1 0 E := slot_in (hin 83 (by decide)) rfl
        have h84 : ac.eval (.tmp 84) = V 1 0 E := slot_in (hin 84 (by decide)) rfl
        have h82 : ac.eval (.tmp 82) = .bool false := slot_in (hin 82 (by decide)) rfl
        clear hin
        refine .inl ⟨wanted_yes rfl rfl h82, ?_⟩
        exact grow_neV rfl h83 h84 (congrArg Value.bool (by simp [sameV]))
      · intro ac w1 hG hin
        have h82 : ac.eval (.tmp 82) = .bool false := slot_in (hin 82 (by decide)) rfl
        have h85 : ac.eval (.tmp 85) = .bool false := slot_in (hin 85 (by decide)) rfl
        clear hin
        exact .inl ⟨wanted_none rfl, grow_pick rfl h82 h85⟩
      · intro sl w3 hG hin hs
        have f86 : sl 86 = .bool false := (hs 86 (by decide)).symm.trans (slot_in (hin 86) rfl)
        have f0 : sl 0 = .int .i64 a := (hs 0 (by decide)).symm.trans (slot_out (hin 0) rfl)
        have f1 : sl 1 = .int .i64 0 := (hs 1 (by decide)).symm.trans (slot_out (hin 1) rfl)
        have f4 : sl 4 = .bool false := (hs 4 (by decide)).symm.trans (slot_out (hin 4) rfl)
        have f5 : sl 5 = .bool true := (hs 5 (by decide)).symm.trans (slot_out (hin 5) rfl)
        have f6 : sl 6 = .pointer (some ⟨x2.heap.size, 0, none⟩) := (hs 6 (by decide)).symm.trans (slot_out (hin 6) rfl)
        have f7 : sl 7 = .pointer (some ⟨x3.heap.size, 0, none⟩) := (hs 7 (by decide)).symm.trans (slot_out (hin 7) rfl)
        have f8 : sl 8 = .pointer (some ⟨x4.heap.size, 0, none⟩) := (hs 8 (by decide)).symm.trans (slot_out (hin 8) rfl)
        have f9 : sl 9 = .int .i64 0 := (hs 9 (by decide)).symm.trans (slot_out (hin 9) rfl)
        have f10 : sl 10 = .pointer (some ⟨x5.heap.size, 0, none⟩) := (hs 10 (by decide)).symm.trans (slot_out (hin 10) rfl)
        have f11 : sl 11 = .int .i64 0 := (hs 11 (by decide)).symm.trans (slot_out (hin 11) rfl)
        have f12 : sl 12 = .pointer (some ⟨x6.heap.size, 0, none⟩) := (hs 12 (by decide)).symm.trans (slot_out (hin 12) rfl)
        have f13 : sl 13 = .int .i64 0 := (hs 13 (by decide)).symm.trans (slot_out (hin 13) rfl)
        have f14 : sl 14 = .pointer (some ⟨bb, 0, none⟩) := (hs 14 (by decide)).symm.trans (slot_out (hin 14) rfl)
        have f15 : sl 15 = .int .i64 0 := (hs 15 (by decide)).symm.trans (slot_out (hin 15) rfl)
        clear hin hs
        rw [show List.range 192 = [0, 1, 2, 3, 4, 5, 6, 7, 8, 9, 10, 11, 12, 13, 14, 15, 16, 17, 18, 19, 20, 21, 22, 23, 24, 25, 26, 27, 28, 29, 30, 31, 32, 33, 34, 35, 36, 37, 38, 39, 40, 41, 42, 43, 44, 45, 46, 47, 48, 49, 50, 51, 52, 53, 54, 55, 56, 57, 58, 59, 60, 61, 62, 63, 64, 65, 66, 67, 68, 69, 70, 71, 72, 73, 74, 75, 76, 77, 78, 79, 80, 81, 82, 83, 84, 85, 86, 87, 88, 89, 90, 91, 92, 93, 94, 95, 96, 97, 98, 99, 100, 101, 102, 103, 104, 105, 106, 107, 108, 109, 110, 111, 112, 113, 114, 115, 116, 117, 118, 119, 120, 121, 122, 123, 124, 125, 126, 127, 128, 129, 130, 131, 132, 133, 134, 135, 136, 137, 138, 139, 140, 141, 142, 143, 144, 145, 146, 147, 148, 149, 150, 151, 152, 153, 154, 155, 156, 157, 158, 159, 160, 161, 162, 163, 164, 165, 166, 167, 168, 169, 170, 171, 172, 173, 174, 175, 176, 177, 178, 179, 180, 181, 182, 183, 184, 185, 186, 187, 188, 189, 190, 191] from rfl]
        simp only [List.map_cons, List.map_nil]
        rw [f86, f0, f1, f4, f5, f6, f7, f8, f9, f10, f11, f12, f13, f14, f15]
        clear f86 f0 f1 f4 f5 f6 f7 f8 f9 f10 f11 f12 f13 f14 f15
        replace B1 := hid (B1.out.mono hG)
        replace B2 := hid (B2.out.mono hG)
        replace B3 := hid (B3.out.mono hG)
        replace B4 := hid (B4.out.mono hG)
        replace B5 := hid (B5.out.mono hG)
        replace B6 := hid (B6.out.mono hG)
        replace HG := hid (HG.out.trans hG)
        clear hG
        obtain ⟨l1, p1, q1, r1, f1⟩ := B1.out
        obtain ⟨l2, p2, q2, r2, f2⟩ := B2.out
        obtain ⟨l3, p3, q3, r3, f3⟩ := B3.out
        obtain ⟨l4, p4, q4, r4, f4⟩ := B4.out
        obtain ⟨l5, p5, q5, r5, f5⟩ := B5.out
        obtain ⟨l6, p6, q6, r6, f6⟩ := B6.out
        go_wp2_with fail
        refine (div0_any _ _).mono ?_
        rintro e x21 ⟨rfl, g21⟩
        (try simp only [R.v, R.u, V])
        clear l1 p1 q1 r1 f1
        clear l2 p2 q2 r2 f2
        clear l3 p3 q3 r3 f3
        clear l4 p4 q4 r4 f4
        clear l5 p5 q5 r5 f5
        clear l6 p6 q6 r6 f6
        have h21 : G w3 x21 := g21
        replace B1 := hid (B1.out.mono h21)
        replace B2 := hid (B2.out.mono h21)
        replace B3 := hid (B3.out.mono h21)
        replace B4 := hid (B4.out.mono h21)
        replace B5 := hid (B5.out.mono h21)
        replace B6 := hid (B6.out.mono h21)
        replace HG := hid (HG.out.trans h21)
        clear h21 g21
        obtain ⟨l1, p1, q1, r1, f1⟩ := B1.out
        obtain ⟨l2, p2, q2, r2, f2⟩ := B2.out
        obtain ⟨l3, p3, q3, r3, f3⟩ := B3.out
        obtain ⟨l4, p4, q4, r4, f4⟩ := B4.out
        obtain ⟨l5, p5, q5, r5, f5⟩ := B5.out
        obtain ⟨l6, p6, q6, r6, f6⟩ := B6.out
        go_wp2_with fail
        refine (mod0_any _ _).mono ?_
        rintro e x22 ⟨rfl, g22⟩
        (try simp only [R.v, R.u, V])
        clear l1 p1 q1 r1 f1
        clear l2 p2 q2 r2 f2
        clear l3 p3 q3 r3 f3
        clear l4 p4 q4 r4 f4
        clear l5 p5 q5 r5 f5
        clear l6 p6 q6 r6 f6
        have h22 : G x21 x22 := ((G.refl _).alloc _).trans g22
        replace B1 := hid (B1.out.mono h22)
        replace B2 := hid (B2.out.mono h22)
        replace B3 := hid (B3.out.mono h22)
        replace B4 := hid (B4.out.mono h22)
        replace B5 := hid (B5.out.mono h22)
        replace B6 := hid (B6.out.mono h22)
        have B7 := hid (At.after g22)
        replace HG := hid (HG.out.trans h22)
        clear h22 g22
        obtain ⟨l1, p1, q1, r1, f1⟩ := B1.out
        obtain ⟨l2, p2, q2, r2, f2⟩ := B2.out
        obtain ⟨l3, p3, q3, r3, f3⟩ := B3.out
        obtain ⟨l4, p4, q4, r4, f4⟩ := B4.out
        obtain ⟨l5, p5, q5, r5, f5⟩ := B5.out
        obtain ⟨l6, p6, q6, r6, f6⟩ := B6.out
        obtain ⟨l7, p7, q7, r7, f7⟩ := B7.out
        go_wp2_with fail
        go_ret
        refine ⟨rfl, ?_⟩
        repeat first | exact G.refl _ | refine G.then ?_ (by assumption) | refine G.alloc ?_ _ | refine G.set ?_ (by simp <;> omega) _)

set_option maxRecDepth 100000 in
set_option maxHeartbeats 8000000 in
theorem divides_rest (a b s m q r p l g : Int) (w : World) (hb : b ≠ 0) (h1 : wrap64 (a + b) = s) (h2 : wrap64 (s - b) = a) (h3 : wrap64 (a - a) = 0) (hm : wrap64 (-a) = m) (h4 : wrap64 (a + m) = 0) (hq : wrap64 (a.tdiv b) = q) (hr : a.tmod b = r) (hp : wrap64 (q * b) = p) (h5 : wrap64 (p + r) = a) (hl : one (decide (a < b)) = l) (hg : one (decide (b ≤ a)) = g)
    (hn : one (!decide (g = 1)) = l) (hless : ((l == 1) == decide (a < b)) = true) (hz : Hid (r = 0)) :
    Calls Tryd.prog 5 #[.int .i64 a, .int .i64 b] w fun e w' => e = .returned (.bool true) ∧ G w w' := by
  go_enter Tryd.func5, Tryd.ntmps5
  go_wp2_with fail
  refine (shown_any _).mono ?_
  rintro e x1 ⟨rfl, g1⟩
  (try simp only [R.v, R.u, V])
  have h1 : G w x1 := g1
  have HG := hid h1
  clear h1 g1
  go_wp2_with fail
  refine (int_any _ _).mono ?_
  rintro e x2 ⟨rfl, g2⟩
  (try simp only [R.v, R.u, V])
  have h2 : G x1 x2 := g2
  replace HG := hid (HG.out.trans h2)
  clear h2 g2
  go_wp2_with fail
  refine (int_any _ _).mono ?_
  rintro e x3 ⟨rfl, g3⟩
  (try simp only [R.v, R.u, V])
  have h3 : G x2 x3 := ((G.refl _).alloc _).trans g3
  have B1 := hid (At.after g3)
  replace HG := hid (HG.out.trans h3)
  clear h3 g3
  obtain ⟨l1, p1, q1, r1, f1⟩ := B1.out
  go_wp2_with fail
  refine (add_any h1 _).mono ?_
  rintro e x4 ⟨rfl, g4⟩
  (try simp only [R.v, R.u, V])
  clear l1 p1 q1 r1 f1
  have h4 : G x3 x4 := ((G.refl _).alloc _).trans g4
  replace B1 := hid (B1.out.mono h4)
  have B2 := hid (At.after g4)
  replace HG := hid (HG.out.trans h4)
  clear h4 g4
  obtain ⟨l1, p1, q1, r1, f1⟩ := B1.out
  obtain ⟨l2, p2, q2, r2, f2⟩ := B2.out
  go_wp2_with fail
  refine (sub_any h2 _).mono ?_
  rintro e x5 ⟨rfl, g5⟩
  (try simp only [R.v, R.u, V])
  clear l1 p1 q1 r1 f1
  clear l2 p2 q2 r2 f2
  have h5 : G x4 x5 := ((G.refl _).alloc _).trans g5
  replace B1 := hid (B1.out.mono h5)
  replace B2 := hid (B2.out.mono h5)
  have B3 := hid (At.after g5)
  replace HG := hid (HG.out.trans h5)
  clear h5 g5
  obtain ⟨l1, p1, q1, r1, f1⟩ := B1.out
  obtain ⟨l2, p2, q2, r2, f2⟩ := B2.out
  obtain ⟨l3, p3, q3, r3, f3⟩ := B3.out
  go_wp2_with fail
  refine (sub_any h3 _).mono ?_
  rintro e x6 ⟨rfl, g6⟩
  (try simp only [R.v, R.u, V])
  clear l1 p1 q1 r1 f1
  clear l2 p2 q2 r2 f2
  clear l3 p3 q3 r3 f3
  have h6 : G x5 x6 := ((G.refl _).alloc _).trans g6
  replace B1 := hid (B1.out.mono h6)
  replace B2 := hid (B2.out.mono h6)
  replace B3 := hid (B3.out.mono h6)
  have B4 := hid (At.after g6)
  replace HG := hid (HG.out.trans h6)
  clear h6 g6
  obtain ⟨l1, p1, q1, r1, f1⟩ := B1.out
  obtain ⟨l2, p2, q2, r2, f2⟩ := B2.out
  obtain ⟨l3, p3, q3, r3, f3⟩ := B3.out
  obtain ⟨l4, p4, q4, r4, f4⟩ := B4.out
  go_upto_region 7 with (fail)
  clear l1 p1 q1 r1 f1
  clear l2 p2 q2 r2 f2
  clear l3 p3 q3 r3 f3
  clear l4 p4 q4 r4 f4
  replace B1 := hid (B1.out.more (.cells #[.int .i64 1, .int .i64 0, .string ⟨#[]⟩] 24))
  replace B2 := hid (B2.out.more (.cells #[.int .i64 1, .int .i64 0, .string ⟨#[]⟩] 24))
  replace B3 := hid (B3.out.more (.cells #[.int .i64 1, .int .i64 0, .string ⟨#[]⟩] 24))
  replace B4 := hid (B4.out.more (.cells #[.int .i64 1, .int .i64 0, .string ⟨#[]⟩] 24))
  have B5 := hid (At.alloc x6 1 0 E)
  replace HG := hid (HG.out.alloc (.cells #[.int .i64 1, .int .i64 0, .string ⟨#[]⟩] 24))
  refine wp_region_late (says [Say.is (V 1 a E), Say.is (V 1 a E), Say.is (V 1 m E), Say.is (.tuple #[V 1 0 E, .int .i64 0]), Say.is (.tuple #[V 1 0 E, .int .i64 0]), Say.is (V 1 0 E), Say.is (.int .i64 0), Say.box (x6.heap.size + 1)]) 8 6 192 (by kernel_rfl) (by kernel_rfl) rfl (says_mono _) (allSteps_take ⟨?_, ?_, ?_, ?_, ?_, ?_, ?_, ?_, trivial⟩) _ _ rfl rfl ?_
  · intro ac w1 hG hin
    have h6 : ac.eval (.tmp 6) = .pointer (some ⟨x2.heap.size, 0, none⟩) := slot_out (hin 6 (by decide)) rfl
    clear hin
    refine .inl ⟨wanted_none rfl, ?_⟩
    exact grow_load rfl (B1.out.mono hG) h6 rfl
  · intro ac w1 hG hin
    have h6 : ac.eval (.tmp 6) = .pointer (some ⟨x2.heap.size, 0, none⟩) := slot_out (hin 6 (by decide)) rfl
    clear hin
    refine .inl ⟨wanted_none rfl, ?_⟩
    exact grow_load rfl (B1.out.mono hG) h6 rfl
  · intro ac w1 hG hin
    have h53 : ac.eval (.tmp 53) = V 1 a E := slot_in (hin 53 (by decide)) rfl
    clear hin
    refine .inl ⟨wanted_none rfl, ?_⟩
    exact grow_call Tryd.call13 #[.string ⟨#[45]⟩, V 1 a E] (by simp only [List.map_toArray, List.map_cons, List.map_nil, h53]; rfl) ((neg_any hm _).mono (by rintro e w2 ⟨rfl, hg⟩; exact ⟨_, rfl, hg, rfl⟩))
  · intro ac w1 hG hin
    have h52 : ac.eval (.tmp 52) = V 1 a E := slot_in (hin 52 (by decide)) rfl
    have h54 : ac.eval (.tmp 54) = V 1 m E := slot_in (hin 54 (by decide)) rfl
    clear hin
    refine .inl ⟨wanted_none rfl, ?_⟩
    exact grow_call Tryd.call12 #[.string ⟨#[43]⟩, V 1 a E, V 1 m E] (by simp only [List.map_toArray, List.map_cons, List.map_nil, h52, h54]; rfl) ((add_any h4 _).mono (by rintro e w2 ⟨rfl, hg⟩; exact ⟨_, rfl, hg, rfl⟩))
  · intro ac w1 hG hin
    have h55 : ac.eval (.tmp 55) = .tuple #[V 1 0 E, .int .i64 0] := slot_in (hin 55 (by decide)) rfl
    clear hin
    exact .inl ⟨wanted_none rfl, grow_move rfl h55⟩
  · intro ac w1 hG hin
    have h51 : ac.eval (.tmp 51) = .tuple #[V 1 0 E, .int .i64 0] := slot_in (hin 51 (by decide)) rfl
    clear hin
    refine .inl ⟨wanted_none rfl, ?_⟩
    exact grow_extract rfl h51 (.inl ⟨rfl, rfl⟩)
  · intro ac w1 hG hin
    have h51 : ac.eval (.tmp 51) = .tuple #[V 1 0 E, .int .i64 0] := slot_in (hin 51 (by decide)) rfl
    clear hin
    refine .inl ⟨wanted_none rfl, ?_⟩
    exact grow_extract rfl h51 (.inr ⟨rfl, rfl⟩)
  · intro ac w1 hG hin
    clear hin
    refine .inl ⟨wanted_none rfl, ?_⟩
    refine grow_box (B := x6.heap.size + 1) rfl (by have h := hG.size; simpa using h) fun w9 h9 => ⟨_, rfl, (by have h := hG.size; simpa using h), h9⟩
  · intro sl w2 ls hG hl hs
    rw [show List.range 192 = [0, 1, 2, 3, 4, 5, 6, 7, 8, 9, 10, 11, 12, 13, 14, 15, 16, 17, 18, 19, 20, 21, 22, 23, 24, 25, 26, 27, 28, 29, 30, 31, 32, 33, 34, 35, 36, 37, 38, 39, 40, 41, 42, 43, 44, 45, 46, 47, 48, 49, 50, 51, 52, 53, 54, 55, 56, 57, 58, 59, 60, 61, 62, 63, 64, 65, 66, 67, 68, 69, 70, 71, 72, 73, 74, 75, 76, 77, 78, 79, 80, 81, 82, 83, 84, 85, 86, 87, 88, 89, 90, 91, 92, 93, 94, 95, 96, 97, 98, 99, 100, 101, 102, 103, 104, 105, 106, 107, 108, 109, 110, 111, 112, 113, 114, 115, 116, 117, 118, 119, 120, 121, 122, 123, 124, 125, 126, 127, 128, 129, 130, 131, 132, 133, 134, 135, 136, 137, 138, 139, 140, 141, 142, 143, 144, 145, 146, 147, 148, 149, 150, 151, 152, 153, 154, 155, 156, 157, 158, 159, 160, 161, 162, 163, 164, 165, 166, 167, 168, 169, 170, 171, 172, 173, 174, 175, 176, 177, 178, 179, 180, 181, 182, 183, 184, 185, 186, 187, 188, 189, 190, 191] from rfl]
    simp only [List.map_cons, List.map_nil]
    rw [show List.range 192 = [0, 1, 2, 3, 4, 5, 6, 7, 8, 9, 10, 11, 12, 13, 14, 15, 16, 17, 18, 19, 20, 21, 22, 23, 24, 25, 26, 27, 28, 29, 30, 31, 32, 33, 34, 35, 36, 37, 38, 39, 40, 41, 42, 43, 44, 45, 46, 47, 48, 49, 50, 51, 52, 53, 54, 55, 56, 57, 58, 59, 60, 61, 62, 63, 64, 65, 66, 67, 68, 69, 70, 71, 72, 73, 74, 75, 76, 77, 78, 79, 80, 81, 82, 83, 84, 85, 86, 87, 88, 89, 90, 91, 92, 93, 94, 95, 96, 97, 98, 99, 100, 101, 102, 103, 104, 105, 106, 107, 108, 109, 110, 111, 112, 113, 114, 115, 116, 117, 118, 119, 120, 121, 122, 123, 124, 125, 126, 127, 128, 129, 130, 131, 132, 133, 134, 135, 136, 137, 138, 139, 140, 141, 142, 143, 144, 145, 146, 147, 148, 149, 150, 151, 152, 153, 154, 155, 156, 157, 158, 159, 160, 161, 162, 163, 164, 165, 166, 167, 168, 169, 170, 171, 172, 173, 174, 175, 176, 177, 178, 179, 180, 181, 182, 183, 184, 185, 186, 187, 188, 189, 190, 191] from rfl] at hl hs
    simp only [List.map_cons, List.map_nil] at hl hs
    rcases hl with ⟨rfl, hin⟩ | ⟨rfl, hin⟩
    all_goals (
      have f0 : sl 0 = .int .i64 a := by first | exact (hs 0 (by decide)).symm.trans (slot_out (hin 0) rfl) | exact (hs 0 (by decide)).symm.trans (slot_out (hin 0 (fun e => absurd ((show writer _ _ 0 = none from rfl).symm.trans e) (by decide))) rfl)
      have f1 : sl 1 = .int .i64 b := by first | exact (hs 1 (by decide)).symm.trans (slot_out (hin 1) rfl) | exact (hs 1 (by decide)).symm.trans (slot_out (hin 1 (fun e => absurd ((show writer _ _ 1 = none from rfl).symm.trans e) (by decide))) rfl)
      have f4 : sl 4 = .bool false := by first | exact (hs 4 (by decide)).symm.trans (slot_out (hin 4) rfl) | exact (hs 4 (by decide)).symm.trans (slot_out (hin 4 (fun e => absurd ((show writer _ _ 4 = none from rfl).symm.trans e) (by decide))) rfl)
      have f5 : sl 5 = .bool true := by first | exact (hs 5 (by decide)).symm.trans (slot_out (hin 5) rfl) | exact (hs 5 (by decide)).symm.trans (slot_out (hin 5 (fun e => absurd ((show writer _ _ 5 = none from rfl).symm.trans e) (by decide))) rfl)
      have f6 : sl 6 = .pointer (some ⟨x2.heap.size, 0, none⟩) := by first | exact (hs 6 (by decide)).symm.trans (slot_out (hin 6) rfl) | exact (hs 6 (by decide)).symm.trans (slot_out (hin 6 (fun e => absurd ((show writer _ _ 6 = none from rfl).symm.trans e) (by decide))) rfl)
      have f7 : sl 7 = .pointer (some ⟨x3.heap.size, 0, none⟩) := by first | exact (hs 7 (by decide)).symm.trans (slot_out (hin 7) rfl) | exact (hs 7 (by decide)).symm.trans (slot_out (hin 7 (fun e => absurd ((show writer _ _ 7 = none from rfl).symm.trans e) (by decide))) rfl)
      have f8 : sl 8 = .pointer (some ⟨x4.heap.size, 0, none⟩) := by first | exact (hs 8 (by decide)).symm.trans (slot_out (hin 8) rfl) | exact (hs 8 (by decide)).symm.trans (slot_out (hin 8 (fun e => absurd ((show writer _ _ 8 = none from rfl).symm.trans e) (by decide))) rfl)
      have f9 : sl 9 = .int .i64 0 := by first | exact (hs 9 (by decide)).symm.trans (slot_out (hin 9) rfl) | exact (hs 9 (by decide)).symm.trans (slot_out (hin 9 (fun e => absurd ((show writer _ _ 9 = none from rfl).symm.trans e) (by decide))) rfl)
      have f10 : sl 10 = .pointer (some ⟨x5.heap.size, 0, none⟩) := by first | exact (hs 10 (by decide)).symm.trans (slot_out (hin 10) rfl) | exact (hs 10 (by decide)).symm.trans (slot_out (hin 10 (fun e => absurd ((show writer _ _ 10 = none from rfl).symm.trans e) (by decide))) rfl)
      have f11 : sl 11 = .int .i64 0 := by first | exact (hs 11 (by decide)).symm.trans (slot_out (hin 11) rfl) | exact (hs 11 (by decide)).symm.trans (slot_out (hin 11 (fun e => absurd ((show writer _ _ 11 = none from rfl).symm.trans e) (by decide))) rfl)
      have f12 : sl 12 = .pointer (some ⟨x6.heap.size, 0, none⟩) := by first | exact (hs 12 (by decide)).symm.trans (slot_out (hin 12) rfl) | exact (hs 12 (by decide)).symm.trans (slot_out (hin 12 (fun e => absurd ((show writer _ _ 12 = none from rfl).symm.trans e) (by decide))) rfl)
      have f13 : sl 13 = .int .i64 0 := by first | exact (hs 13 (by decide)).symm.trans (slot_out (hin 13) rfl) | exact (hs 13 (by decide)).symm.trans (slot_out (hin 13 (fun e => absurd ((show writer _ _ 13 = none from rfl).symm.trans e) (by decide))) rfl)
      have f14 : ∃ bb, sl 14 = .pointer (some ⟨bb, 0, none⟩) ∧ x6.heap.size + 1 ≤ bb ∧ At w2 bb 0 0 E := by first | (have h := (slot_in (hin 14) rfl); rw [hs 14 (by decide)] at h; exact h) | (have h := (slot_in (hin 14 (fun e => absurd ((show writer _ _ 14 = some 7 from rfl).symm.trans e) (by decide))) rfl); rw [hs 14 (by decide)] at h; exact h)
      have f15 : sl 15 = undef := by first | exact (hs 15 (by decide)).symm.trans (slot_out (hin 15) rfl) | exact (hs 15 (by decide)).symm.trans (slot_out (hin 15 (fun e => absurd ((show writer _ _ 15 = none from rfl).symm.trans e) (by decide))) rfl)
      have f51 : sl 51 = .tuple #[V 1 0 E, .int .i64 0] := by first | exact (hs 51 (by decide)).symm.trans (slot_in (hin 51) rfl) | exact (hs 51 (by decide)).symm.trans (slot_in (hin 51 (fun e => absurd ((show writer _ _ 51 = some 4 from rfl).symm.trans e) (by decide))) rfl)
      have f56 : sl 56 = V 1 0 E := by first | exact (hs 56 (by decide)).symm.trans (slot_in (hin 56) rfl) | exact (hs 56 (by decide)).symm.trans (slot_in (hin 56 (fun e => absurd ((show writer _ _ 56 = some 5 from rfl).symm.trans e) (by decide))) rfl)
      (try (have f57 : sl 57 = .int .i64 0 := (hs 57 (by decide)).symm.trans (slot_in (hin 57) rfl); rw [f57]; clear f57))
      clear hin hs
      rw [f0, f1, f4, f5, f6, f7, f8, f9, f10, f11, f12, f13, f15, f51, f56]
      obtain ⟨bb, e10, hbb, hA⟩ := f14
      rw [e10]
      clear e10 f0 f1 f4 f5 f6 f7 f8 f9 f10 f11 f12 f13 f15 f51 f56
      (try simp only [V, E])
      have NB := hid hA
      obtain ⟨l9, p9, q9, r9, f9⟩ := hA
      (try simp only [List.drop_succ_cons, List.drop_zero])
      go_upto_region 8 with (fail)
      clear l9 p9 q9 r9 f9
      have s1 := B1.out.lt
      have s2 := B2.out.lt
      have s3 := B3.out.lt
      have s4 := B4.out.lt
      have s5 := B5.out.lt
      have sw := HG.out.size
      (try simp at s1 s2 s3 s4 s5 sw)
      have C1 := keep (B1.out.mono hG) (c := bb) (by omega) 1 0 ⟨#[]⟩
      have C2 := keep (B2.out.mono hG) (c := bb) (by omega) 1 0 ⟨#[]⟩
      have C3 := keep (B3.out.mono hG) (c := bb) (by omega) 1 0 ⟨#[]⟩
      have C4 := keep (B4.out.mono hG) (c := bb) (by omega) 1 0 ⟨#[]⟩
      have C5 := keep (B5.out.mono hG) (c := bb) (by omega) 1 0 ⟨#[]⟩
      have CN := NB.out.set 1 0 ⟨#[]⟩
      have CG := G.set (G.set (G.set (HG.out.trans hG) (p := ⟨bb, 0, none⟩) (by simp; omega) (.int .i64 1)) (p := ⟨bb, 1, none⟩) (by simp; omega) (.int .i64 0)) (p := ⟨bb, 2, none⟩) (by simp; omega) (.string ⟨#[]⟩)
      generalize ((w2.setCell ⟨bb, 0, none⟩ (.int .i64 1)).setCell ⟨bb, 1, none⟩ (.int .i64 0)).setCell ⟨bb, 2, none⟩ (.string ⟨#[]⟩) = y at C1 C2 C3 C4 C5 CN CG ⊢
      replace B1 := hid C1
      replace B2 := hid C2
      replace B3 := hid C3
      replace B4 := hid C4
      replace B5 := hid C5
      have B6 := hid CN
      replace HG := hid CG
      clear C1 C2 C3 C4 C5 CN CG NB hG s1 s2 s3 s4 s5 sw hbb
      obtain ⟨l1, p1, q1, r1, f1⟩ := B1.out
      obtain ⟨l2, p2, q2, r2, f2⟩ := B2.out
      obtain ⟨l3, p3, q3, r3, f3⟩ := B3.out
      obtain ⟨l4, p4, q4, r4, f4⟩ := B4.out
      obtain ⟨l5, p5, q5, r5, f5⟩ := B5.out
      obtain ⟨l6, p6, q6, r6, f6⟩ := B6.out
      clear l1 p1 q1 r1 f1
      clear l2 p2 q2 r2 f2
      clear l3 p3 q3 r3 f3
      clear l4 p4 q4 r4 f4
      clear l5 p5 q5 r5 f5
      clear l6 p6 q6 r6 f6
      refine wp_region_grows (says [Say.is (.int .i64 0), Say.is (.bool false), Say.is (.bool false), Say.is (.int .i64 0), Say.is (.bool false), Say.is (.bool false), Say.is (.bool false), Say.is (.int .i64 0), Say.is (.bool false), Say.is (.bool false), Say.is (.bool false), Say.is (.int .i64 0), Say.is (.bool false), Say.is (.bool false), Say.is (.bool false), Say.is (V 1 a E), Say.is (V 1 a E), Say.is (.bool false), Say.is (.bool false), Say.is (.bool false), Say.is (V 1 0 E), Say.is (V 1 0 E), Say.is (.bool false), Say.is (.bool false), Say.is (.bool false), Say.is (V 1 0 E), Say.is (V 1 0 E), Say.is (.bool false), Say.is (.bool false)]) 192 (by kernel_rfl) (by kernel_rfl) rfl (says_mono _) (allSteps_take ⟨?_, ?_, ?_, ?_, ?_, ?_, ?_, ?_, ?_, ?_, ?_, ?_, ?_, ?_, ?_, ?_, ?_, ?_, ?_, ?_, ?_, ?_, ?_, ?_, ?_, ?_, ?_, ?_, ?_, trivial⟩) ?_
      · intro ac w1 hG hin
        have h9 : ac.eval (.tmp 9) = .int .i64 0 := slot_out (hin 9 (by decide)) rfl
        clear hin
        exact .inl ⟨wanted_none rfl, grow_move rfl h9⟩
      · intro ac w1 hG hin
        have h58 : ac.eval (.tmp 58) = .int .i64 0 := slot_in (hin 58 (by decide)) rfl
        clear hin
        refine .inl ⟨wanted_none rfl, ?_⟩
        exact grow_neint rfl h58 rfl rfl
      · intro ac w1 hG hin
        have h59 : ac.eval (.tmp 59) = .bool false := slot_in (hin 59 (by decide)) rfl
        clear hin
        exact .inl ⟨wanted_none rfl, grow_move rfl h59⟩
      · intro ac w1 hG hin
        have h11 : ac.eval (.tmp 11) = .int .i64 0 := slot_out (hin 11 (by decide)) rfl
        have h60 : ac.eval (.tmp 60) = .bool false := slot_in (hin 60 (by decide)) rfl
        clear hin
        exact .inl ⟨wanted_yes rfl rfl h60, grow_move rfl h11⟩
      · intro ac w1 hG hin
        have h61 : ac.eval (.tmp 61) = .int .i64 0 := slot_in (hin 61 (by decide)) rfl
        have h60 : ac.eval (.tmp 60) = .bool false := slot_in (hin 60 (by decide)) rfl
        clear hin
        refine .inl ⟨wanted_yes rfl rfl h60, ?_⟩
        exact grow_neint rfl h61 rfl rfl
      · intro ac w1 hG hin
        have h60 : ac.eval (.tmp 60) = .bool false := slot_in (hin 60 (by decide)) rfl
        have h62 : ac.eval (.tmp 62) = .bool false := slot_in (hin 62 (by decide)) rfl
        clear hin
        exact .inl ⟨wanted_none rfl, grow_pick rfl h60 h62⟩
      · intro ac w1 hG hin
        have h63 : ac.eval (.tmp 63) = .bool false := slot_in (hin 63 (by decide)) rfl
        clear hin
        exact .inl ⟨wanted_none rfl, grow_move rfl h63⟩
      · intro ac w1 hG hin
        have h13 : ac.eval (.tmp 13) = .int .i64 0 := slot_out (hin 13 (by decide)) rfl
        have h64 : ac.eval (.tmp 64) = .bool false := slot_in (hin 64 (by decide)) rfl
        clear hin
        exact .inl ⟨wanted_yes rfl rfl h64, grow_move rfl h13⟩
      · intro ac w1 hG hin
        have h65 : ac.eval (.tmp 65) = .int .i64 0 := slot_in (hin 65 (by decide)) rfl
        have h64 : ac.eval (.tmp 64) = .bool false := slot_in (hin 64 (by decide)) rfl
        clear hin
        refine .inl ⟨wanted_yes rfl rfl h64, ?_⟩
        exact grow_neint rfl h65 rfl rfl
      · intro ac w1 hG hin
        have h64 : ac.eval (.tmp 64) = .bool false := slot_in (hin 64 (by decide)) rfl
        have h66 : ac.eval (.tmp 66) = .bool false := slot_in (hin 66 (by decide)) rfl
        clear hin
        exact .inl ⟨wanted_none rfl, grow_pick rfl h64 h66⟩
      · intro ac w1 hG hin
        have h67 : ac.eval (.tmp 67) = .bool false := slot_in (hin 67 (by decide)) rfl
        clear hin
        exact .inl ⟨wanted_none rfl, grow_move rfl h67⟩
      · intro ac w1 hG hin
        have h15 : ac.eval (.tmp 15) = .int .i64 0 := slot_out (hin 15 (by decide)) rfl
        have h68 : ac.eval (.tmp 68) = .bool false := slot_in (hin 68 (by decide)) rfl
        clear hin
        exact .inl ⟨wanted_yes rfl rfl h68, grow_move rfl h15⟩
      · intro ac w1 hG hin
        have h69 : ac.eval (.tmp 69) = .int .i64 0 := slot_in (hin 69 (by decide)) rfl
        have h68 : ac.eval (.tmp 68) = .bool false := slot_in (hin 68 (by decide)) rfl
        clear hin
        refine .inl ⟨wanted_yes rfl rfl h68, ?_⟩
        exact grow_neint rfl h69 rfl rfl
      · intro ac w1 hG hin
        have h68 : ac.eval (.tmp 68) = .bool false := slot_in (hin 68 (by decide)) rfl
        have h70 : ac.eval (.tmp 70) = .bool false := slot_in (hin 70 (by decide)) rfl
        clear hin
        exact .inl ⟨wanted_none rfl, grow_pick rfl h68 h70⟩
      · intro ac w1 hG hin
        have h71 : ac.eval (.tmp 71) = .bool false := slot_in (hin 71 (by decide)) rfl
        clear hin
        exact .inl ⟨wanted_none rfl, grow_move rfl h71⟩
      · intro ac w1 hG hin
        have h10 : ac.eval (.tmp 10) = .pointer (some ⟨x5.heap.size, 0, none⟩) := slot_out (hin 10 (by decide)) rfl
        have h72 : ac.eval (.tmp 72) = .bool false := slot_in (hin 72 (by decide)) rfl
        clear hin
        refine .inl ⟨wanted_yes rfl rfl h72, ?_⟩
        exact grow_load rfl (B4.out.mono hG) h10 rfl
      · intro ac w1 hG hin
        have h6 : ac.eval (.tmp 6) = .pointer (some ⟨x2.heap.size, 0, none⟩) := slot_out (hin 6 (by decide)) rfl
        have h72 : ac.eval (.tmp 72) = .bool false := slot_in (hin 72 (by decide)) rfl
        clear hin
        refine .inl ⟨wanted_yes rfl rfl h72, ?_⟩
        exact grow_load rfl (B1.out.mono hG) h6 rfl
      · intro ac w1 hG hin
        have h73 : ac.eval (.tmp 73) = V 1 a E := slot_in (hin 73 (by decide)) rfl
        have h74 : ac.eval (.tmp 74) = V 1 a E := slot_in (hin 74 (by decide)) rfl
        have h72 : ac.eval (.tmp 72) = .bool false := slot_in (hin 72 (by decide)) rfl
        clear hin
        refine .inl ⟨wanted_yes rfl rfl h72, ?_⟩
        exact grow_neV rfl h73 h74 (congrArg Value.bool (by simp [sameV]))
      · intro ac w1 hG hin
        have h72 : ac.eval (.tmp 72) = .bool false := slot_in (hin 72 (by decide)) rfl
        have h75 : ac.eval (.tmp 75) = .bool false := slot_in (hin 75 (by decide)) rfl
        clear hin
        exact .inl ⟨wanted_none rfl, grow_pick rfl h72 h75⟩
      · intro ac w1 hG hin
        have h76 : ac.eval (.tmp 76) = .bool false := slot_in (hin 76 (by decide)) rfl
        clear hin
        exact .inl ⟨wanted_none rfl, grow_move rfl h76⟩
      · intro ac w1 hG hin
        have h12 : ac.eval (.tmp 12) = .pointer (some ⟨x6.heap.size, 0, none⟩) := slot_out (hin 12 (by decide)) rfl
        have h77 : ac.eval (.tmp 77) = .bool false := slot_in (hin 77 (by decide)) rfl
        clear hin
        refine .inl ⟨wanted_yes rfl rfl h77, ?_⟩
        exact grow_load rfl (B5.out.mono hG) h12 rfl
      · intro ac w1 hG hin
        have h77 : ac.eval (.tmp 77) = .bool false := slot_in (hin 77 (by decide)) rfl
        clear hin
        exact .inl ⟨wanted_yes rfl rfl h77, grow_call Tryd.call11 #[ac.eval (.const (.int .i64 0))] (by simp only [List.map_toArray, List.map_cons, List.map_nil]) ((int_any _ _).mono (by rintro e w2 ⟨rfl, hg⟩; exact ⟨_, rfl, hg, rfl⟩))⟩
      · intro ac w1 hG hin
        have h78 : ac.eval (.tmp 78) = V 1 0 E := slot_in (hin 78 (by decide)) rfl
        have h79 : ac.eval (.tmp 79) = V 1 0 E := slot_in (hin 79 (by decide)) rfl
        have h77 : ac.eval (.tmp 77) = .bool false := slot_in (hin 77 (by decide)) rfl
        clear hin
        refine .inl ⟨wanted_yes rfl rfl h77, ?_⟩
        exact grow_neV rfl h78 h79 (congrArg Value.bool (by simp [sameV]))
      · intro ac w1 hG hin
        have h77 : ac.eval (.tmp 77) = .bool false := slot_in (hin 77 (by decide)) rfl
        have h80 : ac.eval (.tmp 80) = .bool false := slot_in (hin 80 (by decide)) rfl
        clear hin
        exact .inl ⟨wanted_none rfl, grow_pick rfl h77 h80⟩
      · intro ac w1 hG hin
        have h81 : ac.eval (.tmp 81) = .bool false := slot_in (hin 81 (by decide)) rfl
        clear hin
        exact .inl ⟨wanted_none rfl, grow_move rfl h81⟩
      · intro ac w1 hG hin
        have h14 : ac.eval (.tmp 14) = .pointer (some ⟨bb, 0, none⟩) := slot_out (hin 14 (by decide)) rfl
        have h82 : ac.eval (.tmp 82) = .bool false := slot_in (hin 82 (by decide)) rfl
        clear hin
        refine .inl ⟨wanted_yes rfl rfl h82, ?_⟩
        exact grow_load rfl (B6.out.mono hG) h14 rfl
      · intro ac w1 hG hin
        have h82 : ac.eval (.tmp 82) = .bool false := slot_in (hin 82 (by decide)) rfl
        clear hin
        exact .inl ⟨wanted_yes rfl rfl h82, grow_call Tryd.call11 #[ac.eval (.const (.int .i64 0))] (by simp only [List.map_toArray, List.map_cons, List.map_nil]) ((int_any _ _).mono (by rintro e w2 ⟨rfl, hg⟩; exact ⟨_, rfl, hg, rfl⟩))⟩
      · intro ac w1 hG hin
        have h83 : ac.eval (.tmp 83) = V 1 0 E := slot_in (hin 83 (by decide)) rfl
        have h84 : ac.eval (.tmp 84) = V 1 0 E := slot_in (hin 84 (by decide)) rfl
        have h82 : ac.eval (.tmp 82) = .bool false := slot_in (hin 82 (by decide)) rfl
        clear hin
        refine .inl ⟨wanted_yes rfl rfl h82, ?_⟩
        exact grow_neV rfl h83 h84 (congrArg Value.bool (by simp [sameV]))
      · intro ac w1 hG hin
        have h82 : ac.eval (.tmp 82) = .bool false := slot_in (hin 82 (by decide)) rfl
        have h85 : ac.eval (.tmp 85) = .bool false := slot_in (hin 85 (by decide)) rfl
        clear hin
        exact .inl ⟨wanted_none rfl, grow_pick rfl h82 h85⟩
      · intro sl w3 hG hin hs
        have f86 : sl 86 = .bool false := (hs 86 (by decide)).symm.trans (slot_in (hin 86) rfl)
        have f0 : sl 0 = .int .i64 a := (hs 0 (by decide)).symm.trans (slot_out (hin 0) rfl)
        have f1 : sl 1 = .int .i64 b := (hs 1 (by decide)).symm.trans (slot_out (hin 1) rfl)
        have f4 : sl 4 = .bool false := (hs 4 (by decide)).symm.trans (slot_out (hin 4) rfl)
        have f5 : sl 5 = .bool true := (hs 5 (by decide)).symm.trans (slot_out (hin 5) rfl)
        have f6 : sl 6 = .pointer (some ⟨x2.heap.size, 0, none⟩) := (hs 6 (by decide)).symm.trans (slot_out (hin 6) rfl)
        have f7 : sl 7 = .pointer (some ⟨x3.heap.size, 0, none⟩) := (hs 7 (by decide)).symm.trans (slot_out (hin 7) rfl)
        have f8 : sl 8 = .pointer (some ⟨x4.heap.size, 0, none⟩) := (hs 8 (by decide)).symm.trans (slot_out (hin 8) rfl)
        have f9 : sl 9 = .int .i64 0 := (hs 9 (by decide)).symm.trans (slot_out (hin 9) rfl)
        have f10 : sl 10 = .pointer (some ⟨x5.heap.size, 0, none⟩) := (hs 10 (by decide)).symm.trans (slot_out (hin 10) rfl)
        have f11 : sl 11 = .int .i64 0 := (hs 11 (by decide)).symm.trans (slot_out (hin 11) rfl)
        have f12 : sl 12 = .pointer (some ⟨x6.heap.size, 0, none⟩) := (hs 12 (by decide)).symm.trans (slot_out (hin 12) rfl)
        have f13 : sl 13 = .int .i64 0 := (hs 13 (by decide)).symm.trans (slot_out (hin 13) rfl)
        have f14 : sl 14 = .pointer (some ⟨bb, 0, none⟩) := (hs 14 (by decide)).symm.trans (slot_out (hin 14) rfl)
        have f15 : sl 15 = .int .i64 0 := (hs 15 (by decide)).symm.trans (slot_out (hin 15) rfl)
        clear hin hs
        rw [show List.range 192 = [0, 1, 2, 3, 4, 5, 6, 7, 8, 9, 10, 11, 12, 13, 14, 15, 16, 17, 18, 19, 20, 21, 22, 23, 24, 25, 26, 27, 28, 29, 30, 31, 32, 33, 34, 35, 36, 37, 38, 39, 40, 41, 42, 43, 44, 45, 46, 47, 48, 49, 50, 51, 52, 53, 54, 55, 56, 57, 58, 59, 60, 61, 62, 63, 64, 65, 66, 67, 68, 69, 70, 71, 72, 73, 74, 75, 76, 77, 78, 79, 80, 81, 82, 83, 84, 85, 86, 87, 88, 89, 90, 91, 92, 93, 94, 95, 96, 97, 98, 99, 100, 101, 102, 103, 104, 105, 106, 107, 108, 109, 110, 111, 112, 113, 114, 115, 116, 117, 118, 119, 120, 121, 122, 123, 124, 125, 126, 127, 128, 129, 130, 131, 132, 133, 134, 135, 136, 137, 138, 139, 140, 141, 142, 143, 144, 145, 146, 147, 148, 149, 150, 151, 152, 153, 154, 155, 156, 157, 158, 159, 160, 161, 162, 163, 164, 165, 166, 167, 168, 169, 170, 171, 172, 173, 174, 175, 176, 177, 178, 179, 180, 181, 182, 183, 184, 185, 186, 187, 188, 189, 190, 191] from rfl]
        simp only [List.map_cons, List.map_nil]
        rw [f86, f0, f1, f4, f5, f6, f7, f8, f9, f10, f11, f12, f13, f14, f15]
        clear f86 f0 f1 f4 f5 f6 f7 f8 f9 f10 f11 f12 f13 f14 f15
        replace B1 := hid (B1.out.mono hG)
        replace B2 := hid (B2.out.mono hG)
        replace B3 := hid (B3.out.mono hG)
        replace B4 := hid (B4.out.mono hG)
        replace B5 := hid (B5.out.mono hG)
        replace B6 := hid (B6.out.mono hG)
        replace HG := hid (HG.out.trans hG)
        clear hG
        obtain ⟨l1, p1, q1, r1, f1⟩ := B1.out
        obtain ⟨l2, p2, q2, r2, f2⟩ := B2.out
        obtain ⟨l3, p3, q3, r3, f3⟩ := B3.out
        obtain ⟨l4, p4, q4, r4, f4⟩ := B4.out
        obtain ⟨l5, p5, q5, r5, f5⟩ := B5.out
        obtain ⟨l6, p6, q6, r6, f6⟩ := B6.out
        go_wp2_with fail
        refine (div_any hb hq _).mono ?_
        rintro e x21 ⟨rfl, g21⟩
        (try simp only [R.v, R.u, V])
        clear l1 p1 q1 r1 f1
        clear l2 p2 q2 r2 f2
        clear l3 p3 q3 r3 f3
        clear l4 p4 q4 r4 f4
        clear l5 p5 q5 r5 f5
        clear l6 p6 q6 r6 f6
        have h21 : G w3 x21 := g21
        replace B1 := hid (B1.out.mono h21)
        replace B2 := hid (B2.out.mono h21)
        replace B3 := hid (B3.out.mono h21)
        replace B4 := hid (B4.out.mono h21)
        replace B5 := hid (B5.out.mono h21)
        replace B6 := hid (B6.out.mono h21)
        replace HG := hid (HG.out.trans h21)
        clear h21 g21
        obtain ⟨l1, p1, q1, r1, f1⟩ := B1.out
        obtain ⟨l2, p2, q2, r2, f2⟩ := B2.out
        obtain ⟨l3, p3, q3, r3, f3⟩ := B3.out
        obtain ⟨l4, p4, q4, r4, f4⟩ := B4.out
        obtain ⟨l5, p5, q5, r5, f5⟩ := B5.out
        obtain ⟨l6, p6, q6, r6, f6⟩ := B6.out
        go_wp2_with fail
        refine (mod_any hb hr _).mono ?_
        rintro e x22 ⟨rfl, g22⟩
        (try simp only [R.v, R.u, V])
        clear l1 p1 q1 r1 f1
        clear l2 p2 q2 r2 f2
        clear l3 p3 q3 r3 f3
        clear l4 p4 q4 r4 f4
        clear l5 p5 q5 r5 f5
        clear l6 p6 q6 r6 f6
        have h22 : G x21 x22 := ((G.refl _).alloc _).trans g22
        replace B1 := hid (B1.out.mono h22)
        replace B2 := hid (B2.out.mono h22)
        replace B3 := hid (B3.out.mono h22)
        replace B4 := hid (B4.out.mono h22)
        replace B5 := hid (B5.out.mono h22)
        replace B6 := hid (B6.out.mono h22)
        have B7 := hid (At.after g22)
        replace HG := hid (HG.out.trans h22)
        clear h22 g22
        obtain ⟨l1, p1, q1, r1, f1⟩ := B1.out
        obtain ⟨l2, p2, q2, r2, f2⟩ := B2.out
        obtain ⟨l3, p3, q3, r3, f3⟩ := B3.out
        obtain ⟨l4, p4, q4, r4, f4⟩ := B4.out
        obtain ⟨l5, p5, q5, r5, f5⟩ := B5.out
        obtain ⟨l6, p6, q6, r6, f6⟩ := B6.out
        obtain ⟨l7, p7, q7, r7, f7⟩ := B7.out
        go_wp2_with fail
        refine (mul_any hp _).mono ?_
        rintro e x23 ⟨rfl, g23⟩
        (try simp only [R.v, R.u, V])
        clear l1 p1 q1 r1 f1
        clear l2 p2 q2 r2 f2
        clear l3 p3 q3 r3 f3
        clear l4 p4 q4 r4 f4
        clear l5 p5 q5 r5 f5
        clear l6 p6 q6 r6 f6
        clear l7 p7 q7 r7 f7
        have h23 : G x22 x23 := ((G.refl _).alloc _).trans g23
        replace B1 := hid (B1.out.mono h23)
        replace B2 := hid (B2.out.mono h23)
        replace B3 := hid (B3.out.mono h23)
        replace B4 := hid (B4.out.mono h23)
        replace B5 := hid (B5.out.mono h23)
        replace B6 := hid (B6.out.mono h23)
        replace B7 := hid (B7.out.mono h23)
        have B8 := hid (At.after g23)
        replace HG := hid (HG.out.trans h23)
        clear h23 g23
        obtain ⟨l1, p1, q1, r1, f1⟩ := B1.out
        obtain ⟨l2, p2, q2, r2, f2⟩ := B2.out
        obtain ⟨l3, p3, q3, r3, f3⟩ := B3.out
        obtain ⟨l4, p4, q4, r4, f4⟩ := B4.out
        obtain ⟨l5, p5, q5, r5, f5⟩ := B5.out
        obtain ⟨l6, p6, q6, r6, f6⟩ := B6.out
        obtain ⟨l7, p7, q7, r7, f7⟩ := B7.out
        obtain ⟨l8, p8, q8, r8, f8⟩ := B8.out
        go_wp2_with fail
        refine (add_any h5 _).mono ?_
        rintro e x24 ⟨rfl, g24⟩
        (try simp only [R.v, R.u, V])
        clear l1 p1 q1 r1 f1
        clear l2 p2 q2 r2 f2
        clear l3 p3 q3 r3 f3
        clear l4 p4 q4 r4 f4
        clear l5 p5 q5 r5 f5
        clear l6 p6 q6 r6 f6
        clear l7 p7 q7 r7 f7
        clear l8 p8 q8 r8 f8
        have h24 : G x23 x24 := ((G.refl _).alloc _).trans g24
        replace B1 := hid (B1.out.mono h24)
        replace B2 := hid (B2.out.mono h24)
        replace B3 := hid (B3.out.mono h24)
        replace B4 := hid (B4.out.mono h24)
        replace B5 := hid (B5.out.mono h24)
        replace B6 := hid (B6.out.mono h24)
        replace B7 := hid (B7.out.mono h24)
        replace B8 := hid (B8.out.mono h24)
        have B9 := hid (At.after g24)
        replace HG := hid (HG.out.trans h24)
        clear h24 g24
        obtain ⟨l1, p1, q1, r1, f1⟩ := B1.out
        obtain ⟨l2, p2, q2, r2, f2⟩ := B2.out
        obtain ⟨l3, p3, q3, r3, f3⟩ := B3.out
        obtain ⟨l4, p4, q4, r4, f4⟩ := B4.out
        obtain ⟨l5, p5, q5, r5, f5⟩ := B5.out
        obtain ⟨l6, p6, q6, r6, f6⟩ := B6.out
        obtain ⟨l7, p7, q7, r7, f7⟩ := B7.out
        obtain ⟨l8, p8, q8, r8, f8⟩ := B8.out
        obtain ⟨l9, p9, q9, r9, f9⟩ := B9.out
        go_wp2_with fail
        refine (lt_any hl _).mono ?_
        rintro e x25 ⟨rfl, g25⟩
        (try simp only [R.v, R.u, V])
        clear l1 p1 q1 r1 f1
        clear l2 p2 q2 r2 f2
        clear l3 p3 q3 r3 f3
        clear l4 p4 q4 r4 f4
        clear l5 p5 q5 r5 f5
        clear l6 p6 q6 r6 f6
        clear l7 p7 q7 r7 f7
        clear l8 p8 q8 r8 f8
        clear l9 p9 q9 r9 f9
        have h25 : G x24 x25 := ((G.refl _).alloc _).trans g25
        replace B1 := hid (B1.out.mono h25)
        replace B2 := hid (B2.out.mono h25)
        replace B3 := hid (B3.out.mono h25)
        replace B4 := hid (B4.out.mono h25)
        replace B5 := hid (B5.out.mono h25)
        replace B6 := hid (B6.out.mono h25)
        replace B7 := hid (B7.out.mono h25)
        replace B8 := hid (B8.out.mono h25)
        replace B9 := hid (B9.out.mono h25)
        have B10 := hid (At.after g25)
        replace HG := hid (HG.out.trans h25)
        clear h25 g25
        obtain ⟨l1, p1, q1, r1, f1⟩ := B1.out
        obtain ⟨l2, p2, q2, r2, f2⟩ := B2.out
        obtain ⟨l3, p3, q3, r3, f3⟩ := B3.out
        obtain ⟨l4, p4, q4, r4, f4⟩ := B4.out
        obtain ⟨l5, p5, q5, r5, f5⟩ := B5.out
        obtain ⟨l6, p6, q6, r6, f6⟩ := B6.out
        obtain ⟨l7, p7, q7, r7, f7⟩ := B7.out
        obtain ⟨l8, p8, q8, r8, f8⟩ := B8.out
        obtain ⟨l9, p9, q9, r9, f9⟩ := B9.out
        obtain ⟨l10, p10, q10, r10, f10⟩ := B10.out
        go_wp2_with fail
        refine (le_any hg _).mono ?_
        rintro e x26 ⟨rfl, g26⟩
        (try simp only [R.v, R.u, V])
        clear l1 p1 q1 r1 f1
        clear l2 p2 q2 r2 f2
        clear l3 p3 q3 r3 f3
        clear l4 p4 q4 r4 f4
        clear l5 p5 q5 r5 f5
        clear l6 p6 q6 r6 f6
        clear l7 p7 q7 r7 f7
        clear l8 p8 q8 r8 f8
        clear l9 p9 q9 r9 f9
        clear l10 p10 q10 r10 f10
        have h26 : G x25 x26 := ((G.refl _).alloc _).trans g26
        replace B1 := hid (B1.out.mono h26)
        replace B2 := hid (B2.out.mono h26)
        replace B3 := hid (B3.out.mono h26)
        replace B4 := hid (B4.out.mono h26)
        replace B5 := hid (B5.out.mono h26)
        replace B6 := hid (B6.out.mono h26)
        replace B7 := hid (B7.out.mono h26)
        replace B8 := hid (B8.out.mono h26)
        replace B9 := hid (B9.out.mono h26)
        replace B10 := hid (B10.out.mono h26)
        have B11 := hid (At.after g26)
        replace HG := hid (HG.out.trans h26)
        clear h26 g26
        obtain ⟨l1, p1, q1, r1, f1⟩ := B1.out
        obtain ⟨l2, p2, q2, r2, f2⟩ := B2.out
        obtain ⟨l3, p3, q3, r3, f3⟩ := B3.out
        obtain ⟨l4, p4, q4, r4, f4⟩ := B4.out
        obtain ⟨l5, p5, q5, r5, f5⟩ := B5.out
        obtain ⟨l6, p6, q6, r6, f6⟩ := B6.out
        obtain ⟨l7, p7, q7, r7, f7⟩ := B7.out
        obtain ⟨l8, p8, q8, r8, f8⟩ := B8.out
        obtain ⟨l9, p9, q9, r9, f9⟩ := B9.out
        obtain ⟨l10, p10, q10, r10, f10⟩ := B10.out
        obtain ⟨l11, p11, q11, r11, f11⟩ := B11.out
        go_upto_region 18 with (fail)
        clear l1 p1 q1 r1 f1
        clear l2 p2 q2 r2 f2
        clear l3 p3 q3 r3 f3
        clear l4 p4 q4 r4 f4
        clear l5 p5 q5 r5 f5
        clear l6 p6 q6 r6 f6
        clear l7 p7 q7 r7 f7
        clear l8 p8 q8 r8 f8
        clear l9 p9 q9 r9 f9
        clear l10 p10 q10 r10 f10
        clear l11 p11 q11 r11 f11
        replace B1 := hid (B1.out.more (.cells #[.int .i64 2, .int .i64 g, .string ⟨#[]⟩] 24))
        replace B2 := hid (B2.out.more (.cells #[.int .i64 2, .int .i64 g, .string ⟨#[]⟩] 24))
        replace B3 := hid (B3.out.more (.cells #[.int .i64 2, .int .i64 g, .string ⟨#[]⟩] 24))
        replace B4 := hid (B4.out.more (.cells #[.int .i64 2, .int .i64 g, .string ⟨#[]⟩] 24))
        replace B5 := hid (B5.out.more (.cells #[.int .i64 2, .int .i64 g, .string ⟨#[]⟩] 24))
        replace B6 := hid (B6.out.more (.cells #[.int .i64 2, .int .i64 g, .string ⟨#[]⟩] 24))
        replace B7 := hid (B7.out.more (.cells #[.int .i64 2, .int .i64 g, .string ⟨#[]⟩] 24))
        replace B8 := hid (B8.out.more (.cells #[.int .i64 2, .int .i64 g, .string ⟨#[]⟩] 24))
        replace B9 := hid (B9.out.more (.cells #[.int .i64 2, .int .i64 g, .string ⟨#[]⟩] 24))
        replace B10 := hid (B10.out.more (.cells #[.int .i64 2, .int .i64 g, .string ⟨#[]⟩] 24))
        replace B11 := hid (B11.out.more (.cells #[.int .i64 2, .int .i64 g, .string ⟨#[]⟩] 24))
        have B12 := hid (At.alloc x26 2 g E)
        replace HG := hid (HG.out.alloc (.cells #[.int .i64 2, .int .i64 g, .string ⟨#[]⟩] 24))
        refine wp_region_grows (says [Say.is (.bool true), Say.is (.bool true), Say.is (.int .i64 0), Say.is (.bool true), Say.is (.bool true), Say.is (.bool true), Say.is (.int .i64 0), Say.is (.bool true), Say.is (.bool true), Say.is (.bool true), Say.is (.int .i64 0), Say.is (.bool true), Say.is (.bool true), Say.is (.bool true), Say.is (.int .i64 0), Say.is (.bool true), Say.is (.bool true), Say.is (.bool true), Say.is (V 1 a E), Say.is (V 1 a E), Say.is (.bool true), Say.is (.bool true), Say.is (.bool true), Say.is (.pointer (some ⟨x22.heap.size, 1, none⟩)), Say.is (.int .i64 r), Say.is (.bool true), Say.is (.bool true), Say.is (undef), Say.is (undef), Say.is (undef), Say.is (undef), Say.is (undef), Say.is (undef), Say.is (.bool true), Say.is (.bool true), Say.is (.bool true), Say.is (.int .i64 0), Say.is (.bool true), Say.is (.bool true), Say.is (.bool true), Say.is (.int .i64 0), Say.is (.bool true), Say.is (.bool true), Say.is (.bool true), Say.is (V 2 l E), Say.is (V 2 g E), Say.is (V 2 l E), Say.is (.bool true), Say.is (.bool true), Say.is (.bool true), Say.is (.pointer (some ⟨x25.heap.size, 1, none⟩)), Say.is (.int .i64 l), Say.is (.bool (l == 1)), Say.is (.int .i64 a), Say.is (.int .i64 b), Say.is (.bool (decide (a < b))), Say.is (.bool true), Say.is (.bool true), Say.is (.bool true)]) 192 (by kernel_rfl) (by kernel_rfl) rfl (says_mono _) (allSteps_take ⟨?_, ?_, ?_, ?_, ?_, ?_, ?_, ?_, ?_, ?_, ?_, ?_, ?_, ?_, ?_, ?_, ?_, ?_, ?_, ?_, ?_, ?_, ?_, ?_, ?_, ?_, ?_, ?_, ?_, ?_, ?_, ?_, ?_, ?_, ?_, ?_, ?_, ?_, ?_, ?_, ?_, ?_, ?_, ?_, ?_, ?_, ?_, ?_, ?_, ?_, ?_, ?_, ?_, ?_, ?_, ?_, ?_, ?_, ?_, trivial⟩) ?_
        · intro ac w1 hG hin
          have h5 : ac.eval (.tmp 5) = .bool true := slot_out (hin 5 (by decide)) rfl
          clear hin
          exact .inl ⟨wanted_none rfl, grow_move rfl h5⟩
        · intro ac w1 hG hin
          have h134 : ac.eval (.tmp 134) = .bool true := slot_in (hin 134 (by decide)) rfl
          clear hin
          exact .inl ⟨wanted_none rfl, grow_move rfl h134⟩
        · intro ac w1 hG hin
          have h17 : ac.eval (.tmp 17) = .int .i64 0 := slot_out (hin 17 (by decide)) rfl
          have h135 : ac.eval (.tmp 135) = .bool true := slot_in (hin 135 (by decide)) rfl
          clear hin
          exact .inl ⟨wanted_yes rfl rfl h135, grow_move rfl h17⟩
        · intro ac w1 hG hin
          have h136 : ac.eval (.tmp 136) = .int .i64 0 := slot_in (hin 136 (by decide)) rfl
          have h135 : ac.eval (.tmp 135) = .bool true := slot_in (hin 135 (by decide)) rfl
          clear hin
          refine .inl ⟨wanted_yes rfl rfl h135, ?_⟩
          exact grow_eqint rfl h136 rfl rfl
        · intro ac w1 hG hin
          have h135 : ac.eval (.tmp 135) = .bool true := slot_in (hin 135 (by decide)) rfl
          have h137 : ac.eval (.tmp 137) = .bool true := slot_in (hin 137 (by decide)) rfl
          clear hin
          exact .inl ⟨wanted_none rfl, grow_pick rfl h135 h137⟩
        · intro ac w1 hG hin
          have h138 : ac.eval (.tmp 138) = .bool true := slot_in (hin 138 (by decide)) rfl
          clear hin
          exact .inl ⟨wanted_none rfl, grow_move rfl h138⟩
        · intro ac w1 hG hin
          have h19 : ac.eval (.tmp 19) = .int .i64 0 := slot_out (hin 19 (by decide)) rfl
          have h139 : ac.eval (.tmp 139) = .bool true := slot_in (hin 139 (by decide)) rfl
          clear hin
          exact .inl ⟨wanted_yes rfl rfl h139, grow_move rfl h19⟩
        · intro ac w1 hG hin
          have h140 : ac.eval (.tmp 140) = .int .i64 0 := slot_in (hin 140 (by decide)) rfl
          have h139 : ac.eval (.tmp 139) = .bool true := slot_in (hin 139 (by decide)) rfl
          clear hin
          refine .inl ⟨wanted_yes rfl rfl h139, ?_⟩
          exact grow_eqint rfl h140 rfl rfl
        · intro ac w1 hG hin
          have h139 : ac.eval (.tmp 139) = .bool true := slot_in (hin 139 (by decide)) rfl
          have h141 : ac.eval (.tmp 141) = .bool true := slot_in (hin 141 (by decide)) rfl
          clear hin
          exact .inl ⟨wanted_none rfl, grow_pick rfl h139 h141⟩
        · intro ac w1 hG hin
          have h142 : ac.eval (.tmp 142) = .bool true := slot_in (hin 142 (by decide)) rfl
          clear hin
          exact .inl ⟨wanted_none rfl, grow_move rfl h142⟩
        · intro ac w1 hG hin
          have h21 : ac.eval (.tmp 21) = .int .i64 0 := slot_out (hin 21 (by decide)) rfl
          have h143 : ac.eval (.tmp 143) = .bool true := slot_in (hin 143 (by decide)) rfl
          clear hin
          exact .inl ⟨wanted_yes rfl rfl h143, grow_move rfl h21⟩
        · intro ac w1 hG hin
          have h144 : ac.eval (.tmp 144) = .int .i64 0 := slot_in (hin 144 (by decide)) rfl
          have h143 : ac.eval (.tmp 143) = .bool true := slot_in (hin 143 (by decide)) rfl
          clear hin
          refine .inl ⟨wanted_yes rfl rfl h143, ?_⟩
          exact grow_eqint rfl h144 rfl rfl
        · intro ac w1 hG hin
          have h143 : ac.eval (.tmp 143) = .bool true := slot_in (hin 143 (by decide)) rfl
          have h145 : ac.eval (.tmp 145) = .bool true := slot_in (hin 145 (by decide)) rfl
          clear hin
          exact .inl ⟨wanted_none rfl, grow_pick rfl h143 h145⟩
        · intro ac w1 hG hin
          have h146 : ac.eval (.tmp 146) = .bool true := slot_in (hin 146 (by decide)) rfl
          clear hin
          exact .inl ⟨wanted_none rfl, grow_move rfl h146⟩
        · intro ac w1 hG hin
          have h23 : ac.eval (.tmp 23) = .int .i64 0 := slot_out (hin 23 (by decide)) rfl
          have h147 : ac.eval (.tmp 147) = .bool true := slot_in (hin 147 (by decide)) rfl
          clear hin
          exact .inl ⟨wanted_yes rfl rfl h147, grow_move rfl h23⟩
        · intro ac w1 hG hin
          have h148 : ac.eval (.tmp 148) = .int .i64 0 := slot_in (hin 148 (by decide)) rfl
          have h147 : ac.eval (.tmp 147) = .bool true := slot_in (hin 147 (by decide)) rfl
          clear hin
          refine .inl ⟨wanted_yes rfl rfl h147, ?_⟩
          exact grow_eqint rfl h148 rfl rfl
        · intro ac w1 hG hin
          have h147 : ac.eval (.tmp 147) = .bool true := slot_in (hin 147 (by decide)) rfl
          have h149 : ac.eval (.tmp 149) = .bool true := slot_in (hin 149 (by decide)) rfl
          clear hin
          exact .inl ⟨wanted_none rfl, grow_pick rfl h147 h149⟩
        · intro ac w1 hG hin
          have h150 : ac.eval (.tmp 150) = .bool true := slot_in (hin 150 (by decide)) rfl
          clear hin
          exact .inl ⟨wanted_none rfl, grow_move rfl h150⟩
        · intro ac w1 hG hin
          have h22 : ac.eval (.tmp 22) = .pointer (some ⟨x24.heap.size, 0, none⟩) := slot_out (hin 22 (by decide)) rfl
          have h151 : ac.eval (.tmp 151) = .bool true := slot_in (hin 151 (by decide)) rfl
          clear hin
          refine .inl ⟨wanted_yes rfl rfl h151, ?_⟩
          exact grow_load rfl (B10.out.mono hG) h22 rfl
        · intro ac w1 hG hin
          have h6 : ac.eval (.tmp 6) = .pointer (some ⟨x2.heap.size, 0, none⟩) := slot_out (hin 6 (by decide)) rfl
          have h151 : ac.eval (.tmp 151) = .bool true := slot_in (hin 151 (by decide)) rfl
          clear hin
          refine .inl ⟨wanted_yes rfl rfl h151, ?_⟩
          exact grow_load rfl (B1.out.mono hG) h6 rfl
        · intro ac w1 hG hin
          have h152 : ac.eval (.tmp 152) = V 1 a E := slot_in (hin 152 (by decide)) rfl
          have h153 : ac.eval (.tmp 153) = V 1 a E := slot_in (hin 153 (by decide)) rfl
          have h151 : ac.eval (.tmp 151) = .bool true := slot_in (hin 151 (by decide)) rfl
          clear hin
          refine .inl ⟨wanted_yes rfl rfl h151, ?_⟩
          exact grow_eqV rfl h152 h153 (congrArg Value.bool (by simp [sameV]))
        · intro ac w1 hG hin
          have h151 : ac.eval (.tmp 151) = .bool true := slot_in (hin 151 (by decide)) rfl
          have h154 : ac.eval (.tmp 154) = .bool true := slot_in (hin 154 (by decide)) rfl
          clear hin
          exact .inl ⟨wanted_none rfl, grow_pick rfl h151 h154⟩
        · intro ac w1 hG hin
          have h155 : ac.eval (.tmp 155) = .bool true := slot_in (hin 155 (by decide)) rfl
          clear hin
          exact .inl ⟨wanted_none rfl, grow_move rfl h155⟩
        · intro ac w1 hG hin
          have h18 : ac.eval (.tmp 18) = .pointer (some ⟨x22.heap.size, 0, none⟩) := slot_out (hin 18 (by decide)) rfl
          have h156 : ac.eval (.tmp 156) = .bool true := slot_in (hin 156 (by decide)) rfl
          clear hin
          refine .inl ⟨wanted_yes rfl rfl h156, ?_⟩
          exact grow_addr rfl (by decide) h18 rfl
        · intro ac w1 hG hin
          have h157 : ac.eval (.tmp 157) = .pointer (some ⟨x22.heap.size, 1, none⟩) := slot_in (hin 157 (by decide)) rfl
          have h156 : ac.eval (.tmp 156) = .bool true := slot_in (hin 156 (by decide)) rfl
          clear hin
          refine .inl ⟨wanted_yes rfl rfl h156, ?_⟩
          exact grow_load1 rfl (B8.out.mono hG) h157 rfl
        · intro ac w1 hG hin
          have h158 : ac.eval (.tmp 158) = .int .i64 r := slot_in (hin 158 (by decide)) rfl
          have h156 : ac.eval (.tmp 156) = .bool true := slot_in (hin 156 (by decide)) rfl
          clear hin
          refine .inl ⟨wanted_yes rfl rfl h156, ?_⟩
          exact grow_eqint rfl h158 rfl (congrArg Value.bool (by simp [hz.out]))
        · intro ac w1 hG hin
          have h159 : ac.eval (.tmp 159) = .bool true := slot_in (hin 159 (by decide)) rfl
          have h156 : ac.eval (.tmp 156) = .bool true := slot_in (hin 156 (by decide)) rfl
          clear hin
          exact .inl ⟨wanted_yes rfl rfl h156, grow_move rfl h159⟩
        · intro ac w1 hG hin
          have h18 : ac.eval (.tmp 18) = .pointer (some ⟨x22.heap.size, 0, none⟩) := slot_out (hin 18 (by decide)) rfl
          have h160 : ac.eval (.tmp 160) = .bool true := slot_in (hin 160 (by decide)) rfl
          clear hin
          exact .inr ⟨wanted_no rfl rfl h160, fun _ _ => rfl⟩
        · intro ac w1 hG hin
          have h161 : ac.eval (.tmp 161) = undef := slot_in (hin 161 (by decide)) rfl
          have h160 : ac.eval (.tmp 160) = .bool true := slot_in (hin 160 (by decide)) rfl
          clear hin
          exact .inr ⟨wanted_no rfl rfl h160, fun _ _ => rfl⟩
        · intro ac w1 hG hin
          have h162 : ac.eval (.tmp 162) = undef := slot_in (hin 162 (by decide)) rfl
          have h160 : ac.eval (.tmp 160) = .bool true := slot_in (hin 160 (by decide)) rfl
          clear hin
          exact .inr ⟨wanted_no rfl rfl h160, fun _ _ => rfl⟩
        · intro ac w1 hG hin
          have h0 : ac.eval (.tmp 0) = .int .i64 a := slot_out (hin 0 (by decide)) rfl
          have h160 : ac.eval (.tmp 160) = .bool true := slot_in (hin 160 (by decide)) rfl
          clear hin
          exact .inr ⟨wanted_no rfl rfl h160, fun _ _ => rfl⟩
        · intro ac w1 hG hin
          have h164 : ac.eval (.tmp 164) = undef := slot_in (hin 164 (by decide)) rfl
          have h160 : ac.eval (.tmp 160) = .bool true := slot_in (hin 160 (by decide)) rfl
          clear hin
          exact .inr ⟨wanted_no rfl rfl h160, fun _ _ => rfl⟩
        · intro ac w1 hG hin
          have h163 : ac.eval (.tmp 163) = undef := slot_in (hin 163 (by decide)) rfl
          have h165 : ac.eval (.tmp 165) = undef := slot_in (hin 165 (by decide)) rfl
          have h160 : ac.eval (.tmp 160) = .bool true := slot_in (hin 160 (by decide)) rfl
          clear hin
          exact .inr ⟨wanted_no rfl rfl h160, fun _ _ => rfl⟩
        · intro ac w1 hG hin
          have h160 : ac.eval (.tmp 160) = .bool true := slot_in (hin 160 (by decide)) rfl
          have h166 : ac.eval (.tmp 166) = undef := slot_in (hin 166 (by decide)) rfl
          have h156 : ac.eval (.tmp 156) = .bool true := slot_in (hin 156 (by decide)) rfl
          clear hin
          exact .inl ⟨wanted_yes rfl rfl h156, grow_pick rfl h160 rfl⟩
        · intro ac w1 hG hin
          have h156 : ac.eval (.tmp 156) = .bool true := slot_in (hin 156 (by decide)) rfl
          have h167 : ac.eval (.tmp 167) = .bool true := slot_in (hin 167 (by decide)) rfl
          clear hin
          exact .inl ⟨wanted_none rfl, grow_pick rfl h156 h167⟩
        · intro ac w1 hG hin
          have h168 : ac.eval (.tmp 168) = .bool true := slot_in (hin 168 (by decide)) rfl
          clear hin
          exact .inl ⟨wanted_none rfl, grow_move rfl h168⟩
        · intro ac w1 hG hin
          have h25 : ac.eval (.tmp 25) = .int .i64 0 := slot_out (hin 25 (by decide)) rfl
          have h169 : ac.eval (.tmp 169) = .bool true := slot_in (hin 169 (by decide)) rfl
          clear hin
          exact .inl ⟨wanted_yes rfl rfl h169, grow_move rfl h25⟩
        · intro ac w1 hG hin
          have h170 : ac.eval (.tmp 170) = .int .i64 0 := slot_in (hin 170 (by decide)) rfl
          have h169 : ac.eval (.tmp 169) = .bool true := slot_in (hin 169 (by decide)) rfl
          clear hin
          refine .inl ⟨wanted_yes rfl rfl h169, ?_⟩
          exact grow_eqint rfl h170 rfl rfl
        · intro ac w1 hG hin
          have h169 : ac.eval (.tmp 169) = .bool true := slot_in (hin 169 (by decide)) rfl
          have h171 : ac.eval (.tmp 171) = .bool true := slot_in (hin 171 (by decide)) rfl
          clear hin
          exact .inl ⟨wanted_none rfl, grow_pick rfl h169 h171⟩
        · intro ac w1 hG hin
          have h172 : ac.eval (.tmp 172) = .bool true := slot_in (hin 172 (by decide)) rfl
          clear hin
          exact .inl ⟨wanted_none rfl, grow_move rfl h172⟩
        · intro ac w1 hG hin
          have h27 : ac.eval (.tmp 27) = .int .i64 0 := slot_out (hin 27 (by decide)) rfl
          have h173 : ac.eval (.tmp 173) = .bool true := slot_in (hin 173 (by decide)) rfl
          clear hin
          exact .inl ⟨wanted_yes rfl rfl h173, grow_move rfl h27⟩
        · intro ac w1 hG hin
          have h174 : ac.eval (.tmp 174) = .int .i64 0 := slot_in (hin 174 (by decide)) rfl
          have h173 : ac.eval (.tmp 173) = .bool true := slot_in (hin 173 (by decide)) rfl
          clear hin
          refine .inl ⟨wanted_yes rfl rfl h173, ?_⟩
          exact grow_eqint rfl h174 rfl rfl
        · intro ac w1 hG hin
          have h173 : ac.eval (.tmp 173) = .bool true := slot_in (hin 173 (by decide)) rfl
          have h175 : ac.eval (.tmp 175) = .bool true := slot_in (hin 175 (by decide)) rfl
          clear hin
          exact .inl ⟨wanted_none rfl, grow_pick rfl h173 h175⟩
        · intro ac w1 hG hin
          have h176 : ac.eval (.tmp 176) = .bool true := slot_in (hin 176 (by decide)) rfl
          clear hin
          exact .inl ⟨wanted_none rfl, grow_move rfl h176⟩
        · intro ac w1 hG hin
          have h24 : ac.eval (.tmp 24) = .pointer (some ⟨x25.heap.size, 0, none⟩) := slot_out (hin 24 (by decide)) rfl
          have h177 : ac.eval (.tmp 177) = .bool true := slot_in (hin 177 (by decide)) rfl
          clear hin
          refine .inl ⟨wanted_yes rfl rfl h177, ?_⟩
          exact grow_load rfl (B11.out.mono hG) h24 rfl
        · intro ac w1 hG hin
          have h26 : ac.eval (.tmp 26) = .pointer (some ⟨x26.heap.size, 0, none⟩) := slot_out (hin 26 (by decide)) rfl
          have h177 : ac.eval (.tmp 177) = .bool true := slot_in (hin 177 (by decide)) rfl
          clear hin
          refine .inl ⟨wanted_yes rfl rfl h177, ?_⟩
          exact grow_load rfl (B12.out.mono hG) h26 rfl
        · intro ac w1 hG hin
          have h179 : ac.eval (.tmp 179) = V 2 g E := slot_in (hin 179 (by decide)) rfl
          have h177 : ac.eval (.tmp 177) = .bool true := slot_in (hin 177 (by decide)) rfl
          clear hin
          refine .inl ⟨wanted_yes rfl rfl h177, ?_⟩
          exact grow_call Tryd.call13 #[.string ⟨#[33]⟩, V 2 g E] (by simp only [List.map_toArray, List.map_cons, List.map_nil, h179]; rfl) ((not_any hn _).mono (by rintro e w2 ⟨rfl, hg⟩; exact ⟨_, rfl, hg, rfl⟩))
        · intro ac w1 hG hin
          have h178 : ac.eval (.tmp 178) = V 2 l E := slot_in (hin 178 (by decide)) rfl
          have h180 : ac.eval (.tmp 180) = V 2 l E := slot_in (hin 180 (by decide)) rfl
          have h177 : ac.eval (.tmp 177) = .bool true := slot_in (hin 177 (by decide)) rfl
          clear hin
          refine .inl ⟨wanted_yes rfl rfl h177, ?_⟩
          exact grow_eqV rfl h178 h180 (congrArg Value.bool (by simp [sameV]))
        · intro ac w1 hG hin
          have h177 : ac.eval (.tmp 177) = .bool true := slot_in (hin 177 (by decide)) rfl
          have h181 : ac.eval (.tmp 181) = .bool true := slot_in (hin 181 (by decide)) rfl
          clear hin
          exact .inl ⟨wanted_none rfl, grow_pick rfl h177 h181⟩
        · intro ac w1 hG hin
          have h182 : ac.eval (.tmp 182) = .bool true := slot_in (hin 182 (by decide)) rfl
          clear hin
          exact .inl ⟨wanted_none rfl, grow_move rfl h182⟩
        · intro ac w1 hG hin
          have h24 : ac.eval (.tmp 24) = .pointer (some ⟨x25.heap.size, 0, none⟩) := slot_out (hin 24 (by decide)) rfl
          have h183 : ac.eval (.tmp 183) = .bool true := slot_in (hin 183 (by decide)) rfl
          clear hin
          refine .inl ⟨wanted_yes rfl rfl h183, ?_⟩
          exact grow_addr rfl (by decide) h24 rfl
        · intro ac w1 hG hin
          have h184 : ac.eval (.tmp 184) = .pointer (some ⟨x25.heap.size, 1, none⟩) := slot_in (hin 184 (by decide)) rfl
          have h183 : ac.eval (.tmp 183) = .bool true := slot_in (hin 183 (by decide)) rfl
          clear hin
          refine .inl ⟨wanted_yes rfl rfl h183, ?_⟩
          exact grow_load1 rfl (B11.out.mono hG) h184 rfl
        · intro ac w1 hG hin
          have h185 : ac.eval (.tmp 185) = .int .i64 l := slot_in (hin 185 (by decide)) rfl
          have h183 : ac.eval (.tmp 183) = .bool true := slot_in (hin 183 (by decide)) rfl
          clear hin
          refine .inl ⟨wanted_yes rfl rfl h183, ?_⟩
          exact grow_eqint rfl h185 rfl rfl
        · intro ac w1 hG hin
          have h0 : ac.eval (.tmp 0) = .int .i64 a := slot_out (hin 0 (by decide)) rfl
          have h183 : ac.eval (.tmp 183) = .bool true := slot_in (hin 183 (by decide)) rfl
          clear hin
          exact .inl ⟨wanted_yes rfl rfl h183, grow_move rfl h0⟩
        · intro ac w1 hG hin
          have h1 : ac.eval (.tmp 1) = .int .i64 b := slot_out (hin 1 (by decide)) rfl
          have h183 : ac.eval (.tmp 183) = .bool true := slot_in (hin 183 (by decide)) rfl
          clear hin
          exact .inl ⟨wanted_yes rfl rfl h183, grow_move rfl h1⟩
        · intro ac w1 hG hin
          have h187 : ac.eval (.tmp 187) = .int .i64 a := slot_in (hin 187 (by decide)) rfl
          have h188 : ac.eval (.tmp 188) = .int .i64 b := slot_in (hin 188 (by decide)) rfl
          have h183 : ac.eval (.tmp 183) = .bool true := slot_in (hin 183 (by decide)) rfl
          clear hin
          refine .inl ⟨wanted_yes rfl rfl h183, ?_⟩
          exact grow_lt rfl h187 h188 rfl
        · intro ac w1 hG hin
          have h186 : ac.eval (.tmp 186) = .bool (l == 1) := slot_in (hin 186 (by decide)) rfl
          have h189 : ac.eval (.tmp 189) = .bool (decide (a < b)) := slot_in (hin 189 (by decide)) rfl
          have h183 : ac.eval (.tmp 183) = .bool true := slot_in (hin 183 (by decide)) rfl
          clear hin
          refine .inl ⟨wanted_yes rfl rfl h183, ?_⟩
          exact grow_eqbool rfl Tryd.underlying4 h186 h189 (congrArg Value.bool hless)
        · intro ac w1 hG hin
          have h183 : ac.eval (.tmp 183) = .bool true := slot_in (hin 183 (by decide)) rfl
          have h190 : ac.eval (.tmp 190) = .bool true := slot_in (hin 190 (by decide)) rfl
          clear hin
          exact .inl ⟨wanted_none rfl, grow_pick rfl h183 h190⟩
        · intro ac w1 hG hin
          have h191 : ac.eval (.tmp 191) = .bool true := slot_in (hin 191 (by decide)) rfl
          clear hin
          exact .inl ⟨wanted_none rfl, grow_assign rfl h191⟩
        · intro sl w4 hG hin hs
          have f4 : sl 4 = .bool true := (hs 4 (by decide)).symm.trans (slot_in (hin 4) rfl)
          clear hin hs
          rw [show List.range 192 = [0, 1, 2, 3, 4, 5, 6, 7, 8, 9, 10, 11, 12, 13, 14, 15, 16, 17, 18, 19, 20, 21, 22, 23, 24, 25, 26, 27, 28, 29, 30, 31, 32, 33, 34, 35, 36, 37, 38, 39, 40, 41, 42, 43, 44, 45, 46, 47, 48, 49, 50, 51, 52, 53, 54, 55, 56, 57, 58, 59, 60, 61, 62, 63, 64, 65, 66, 67, 68, 69, 70, 71, 72, 73, 74, 75, 76, 77, 78, 79, 80, 81, 82, 83, 84, 85, 86, 87, 88, 89, 90, 91, 92, 93, 94, 95, 96, 97, 98, 99, 100, 101, 102, 103, 104, 105, 106, 107, 108, 109, 110, 111, 112, 113, 114, 115, 116, 117, 118, 119, 120, 121, 122, 123, 124, 125, 126, 127, 128, 129, 130, 131, 132, 133, 134, 135, 136, 137, 138, 139, 140, 141, 142, 143, 144, 145, 146, 147, 148, 149, 150, 151, 152, 153, 154, 155, 156, 157, 158, 159, 160, 161, 162, 163, 164, 165, 166, 167, 168, 169, 170, 171, 172, 173, 174, 175, 176, 177, 178, 179, 180, 181, 182, 183, 184, 185, 186, 187, 188, 189, 190, 191] from rfl]
          simp only [List.map_cons, List.map_nil]
          rw [f4]
          go_wp2_with fail
          go_ret
          exact ⟨rfl, HG.out.trans hG⟩)

set_option maxRecDepth 100000 in
set_option maxHeartbeats 8000000 in
theorem divides_more (a b s m q r p l g : Int) (w : World) (hb : b ≠ 0) (h1 : wrap64 (a + b) = s) (h2 : wrap64 (s - b) = a) (h3 : wrap64 (a - a) = 0) (hm : wrap64 (-a) = m) (h4 : wrap64 (a + m) = 0) (hq : wrap64 (a.tdiv b) = q) (hr : a.tmod b = r) (hp : wrap64 (q * b) = p) (h5 : wrap64 (p + r) = a) (hl : one (decide (a < b)) = l) (hg : one (decide (b ≤ a)) = g)
    (hn : one (!decide (g = 1)) = l) (hless : ((l == 1) == decide (a < b)) = true) (hz : Hid (r ≠ 0)) (hsign : (decide (r < 0) == decide (a < 0)) = true) :
    Calls Tryd.prog 5 #[.int .i64 a, .int .i64 b] w fun e w' => e = .returned (.bool true) ∧ G w w' := by
  go_enter Tryd.func5, Tryd.ntmps5
  go_wp2_with fail
  refine (shown_any _).mono ?_
  rintro e x1 ⟨rfl, g1⟩
  (try simp only [R.v, R.u, V])
  have h1 : G w x1 := g1
  have HG := hid h1
  clear h1 g1
  go_wp2_with fail
  refine (int_any _ _).mono ?_
  rintro e x2 ⟨rfl, g2⟩
  (try simp only [R.v, R.u, V])
  have h2 : G x1 x2 := g2
  replace HG := hid (HG.out.trans h2)
  clear h2 g2
  go_wp2_with fail
  refine (int_any _ _).mono ?_
  rintro e x3 ⟨rfl, g3⟩
  (try simp only [R.v, R.u, V])
  have h3 : G x2 x3 := ((G.refl _).alloc _).trans g3
  have B1 := hid (At.after g3)
  replace HG := hid (HG.out.trans h3)
  clear h3 g3
  obtain ⟨l1, p1, q1, r1, f1⟩ := B1.out
  go_wp2_with fail
  refine (add_any h1 _).mono ?_
  rintro e x4 ⟨rfl, g4⟩
  (try simp only [R.v, R.u, V])
  clear l1 p1 q1 r1 f1
  have h4 : G x3 x4 := ((G.refl _).alloc _).trans g4
  replace B1 := hid (B1.out.mono h4)
  have B2 := hid (At.after g4)
  replace HG := hid (HG.out.trans h4)
  clear h4 g4
  obtain ⟨l1, p1, q1, r1, f1⟩ := B1.out
  obtain ⟨l2, p2, q2, r2, f2⟩ := B2.out
  go_wp2_with fail
  refine (sub_any h2 _).mono ?_
  rintro e x5 ⟨rfl, g5⟩
  (try simp only [R.v, R.u, V])
  clear l1 p1 q1 r1 f1
  clear l2 p2 q2 r2 f2
  have h5 : G x4 x5 := ((G.refl _).alloc _).trans g5
  replace B1 := hid (B1.out.mono h5)
  replace B2 := hid (B2.out.mono h5)
  have B3 := hid (At.after g5)
  replace HG := hid (HG.out.trans h5)
  clear h5 g5
  obtain ⟨l1, p1, q1, r1, f1⟩ := B1.out
  obtain ⟨l2, p2, q2, r2, f2⟩ := B2.out
  obtain ⟨l3, p3, q3, r3, f3⟩ := B3.out
  go_wp2_with fail
  refine (sub_any h3 _).mono ?_
  rintro e x6 ⟨rfl, g6⟩
  (try simp only [R.v, R.u, V])
  clear l1 p1 q1 r1 f1
  clear l2 p2 q2 r2 f2
  clear l3 p3 q3 r3 f3
  have h6 : G x5 x6 := ((G.refl _).alloc _).trans g6
  replace B1 := hid (B1.out.mono h6)
  replace B2 := hid (B2.out.mono h6)
  replace B3 := hid (B3.out.mono h6)
  have B4 := hid (At.after g6)
  replace HG := hid (HG.out.trans h6)
  clear h6 g6
  obtain ⟨l1, p1, q1, r1, f1⟩ := B1.out
  obtain ⟨l2, p2, q2, r2, f2⟩ := B2.out
  obtain ⟨l3, p3, q3, r3, f3⟩ := B3.out
  obtain ⟨l4, p4, q4, r4, f4⟩ := B4.out
  go_upto_region 7 with (fail)
  clear l1 p1 q1 r1 f1
  clear l2 p2 q2 r2 f2
  clear l3 p3 q3 r3 f3
  clear l4 p4 q4 r4 f4
  replace B1 := hid (B1.out.more (.cells #[.int .i64 1, .int .i64 0, .string ⟨#[]⟩] 24))
  replace B2 := hid (B2.out.more (.cells #[.int .i64 1, .int .i64 0, .string ⟨#[]⟩] 24))
  replace B3 := hid (B3.out.more (.cells #[.int .i64 1, .int .i64 0, .string ⟨#[]⟩] 24))
  replace B4 := hid (B4.out.more (.cells #[.int .i64 1, .int .i64 0, .string ⟨#[]⟩] 24))
  have B5 := hid (At.alloc x6 1 0 E)
  replace HG := hid (HG.out.alloc (.cells #[.int .i64 1, .int .i64 0, .string ⟨#[]⟩] 24))
  refine wp_region_late (says [Say.is (V 1 a E), Say.is (V 1 a E), Say.is (V 1 m E), Say.is (.tuple #[V 1 0 E, .int .i64 0]), Say.is (.tuple #[V 1 0 E, .int .i64 0]), Say.is (V 1 0 E), Say.is (.int .i64 0), Say.box (x6.heap.size + 1)]) 8 6 192 (by kernel_rfl) (by kernel_rfl) rfl (says_mono _) (allSteps_take ⟨?_, ?_, ?_, ?_, ?_, ?_, ?_, ?_, trivial⟩) _ _ rfl rfl ?_
  · intro ac w1 hG hin
    have h6 : ac.eval (.tmp 6) = .pointer (some ⟨x2.heap.size, 0, none⟩) := slot_out (hin 6 (by decide)) rfl
    clear hin
    refine .inl ⟨wanted_none rfl, ?_⟩
    exact grow_load rfl (B1.out.mono hG) h6 rfl
  · intro ac w1 hG hin
    have h6 : ac.eval (.tmp 6) = .pointer (some ⟨x2.heap.size, 0, none⟩) := slot_out (hin 6 (by decide)) rfl
    clear hin
    refine .inl ⟨wanted_none rfl, ?_⟩
    exact grow_load rfl (B1.out.mono hG) h6 rfl
  · intro ac w1 hG hin
    have h53 : ac.eval (.tmp 53) = V 1 a E := slot_in (hin 53 (by decide)) rfl
    clear hin
    refine .inl ⟨wanted_none rfl, ?_⟩
    exact grow_call Tryd.call13 #[.string ⟨#[45]⟩, V 1 a E] (by simp only [List.map_toArray, List.map_cons, List.map_nil, h53]; rfl) ((neg_any hm _).mono (by rintro e w2 ⟨rfl, hg⟩; exact ⟨_, rfl, hg, rfl⟩))
  · intro ac w1 hG hin
    have h52 : ac.eval (.tmp 52) = V 1 a E := slot_in (hin 52 (by decide)) rfl
    have h54 : ac.eval (.tmp 54) = V 1 m E := slot_in (hin 54 (by decide)) rfl
    clear hin
    refine .inl ⟨wanted_none rfl, ?_⟩
    exact grow_call Tryd.call12 #[.string ⟨#[43]⟩, V 1 a E, V 1 m E] (by simp only [List.map_toArray, List.map_cons, List.map_nil, h52, h54]; rfl) ((add_any h4 _).mono (by rintro e w2 ⟨rfl, hg⟩; exact ⟨_, rfl, hg, rfl⟩))
  · intro ac w1 hG hin
    have h55 : ac.eval (.tmp 55) = .tuple #[V 1 0 E, .int .i64 0] := slot_in (hin 55 (by decide)) rfl
    clear hin
    exact .inl ⟨wanted_none rfl, grow_move rfl h55⟩
  · intro ac w1 hG hin
    have h51 : ac.eval (.tmp 51) = .tuple #[V 1 0 E, .int .i64 0] := slot_in (hin 51 (by decide)) rfl
    clear hin
    refine .inl ⟨wanted_none rfl, ?_⟩
    exact grow_extract rfl h51 (.inl ⟨rfl, rfl⟩)
  · intro ac w1 hG hin
    have h51 : ac.eval (.tmp 51) = .tuple #[V 1 0 E, .int .i64 0] := slot_in (hin 51 (by decide)) rfl
    clear hin
    refine .inl ⟨wanted_none rfl, ?_⟩
    exact grow_extract rfl h51 (.inr ⟨rfl, rfl⟩)
  · intro ac w1 hG hin
    clear hin
    refine .inl ⟨wanted_none rfl, ?_⟩
    refine grow_box (B := x6.heap.size + 1) rfl (by have h := hG.size; simpa using h) fun w9 h9 => ⟨_, rfl, (by have h := hG.size; simpa using h), h9⟩
  · intro sl w2 ls hG hl hs
    rw [show List.range 192 = [0, 1, 2, 3, 4, 5, 6, 7, 8, 9, 10, 11, 12, 13, 14, 15, 16, 17, 18, 19, 20, 21, 22, 23, 24, 25, 26, 27, 28, 29, 30, 31, 32, 33, 34, 35, 36, 37, 38, 39, 40, 41, 42, 43, 44, 45, 46, 47, 48, 49, 50, 51, 52, 53, 54, 55, 56, 57, 58, 59, 60, 61, 62, 63, 64, 65, 66, 67, 68, 69, 70, 71, 72, 73, 74, 75, 76, 77, 78, 79, 80, 81, 82, 83, 84, 85, 86, 87, 88, 89, 90, 91, 92, 93, 94, 95, 96, 97, 98, 99, 100, 101, 102, 103, 104, 105, 106, 107, 108, 109, 110, 111, 112, 113, 114, 115, 116, 117, 118, 119, 120, 121, 122, 123, 124, 125, 126, 127, 128, 129, 130, 131, 132, 133, 134, 135, 136, 137, 138, 139, 140, 141, 142, 143, 144, 145, 146, 147, 148, 149, 150, 151, 152, 153, 154, 155, 156, 157, 158, 159, 160, 161, 162, 163, 164, 165, 166, 167, 168, 169, 170, 171, 172, 173, 174, 175, 176, 177, 178, 179, 180, 181, 182, 183, 184, 185, 186, 187, 188, 189, 190, 191] from rfl]
    simp only [List.map_cons, List.map_nil]
    rw [show List.range 192 = [0, 1, 2, 3, 4, 5, 6, 7, 8, 9, 10, 11, 12, 13, 14, 15, 16, 17, 18, 19, 20, 21, 22, 23, 24, 25, 26, 27, 28, 29, 30, 31, 32, 33, 34, 35, 36, 37, 38, 39, 40, 41, 42, 43, 44, 45, 46, 47, 48, 49, 50, 51, 52, 53, 54, 55, 56, 57, 58, 59, 60, 61, 62, 63, 64, 65, 66, 67, 68, 69, 70, 71, 72, 73, 74, 75, 76, 77, 78, 79, 80, 81, 82, 83, 84, 85, 86, 87, 88, 89, 90, 91, 92, 93, 94, 95, 96, 97, 98, 99, 100, 101, 102, 103, 104, 105, 106, 107, 108, 109, 110, 111, 112, 113, 114, 115, 116, 117, 118, 119, 120, 121, 122, 123, 124, 125, 126, 127, 128, 129, 130, 131, 132, 133, 134, 135, 136, 137, 138, 139, 140, 141, 142, 143, 144, 145, 146, 147, 148, 149, 150, 151, 152, 153, 154, 155, 156, 157, 158, 159, 160, 161, 162, 163, 164, 165, 166, 167, 168, 169, 170, 171, 172, 173, 174, 175, 176, 177, 178, 179, 180, 181, 182, 183, 184, 185, 186, 187, 188, 189, 190, 191] from rfl] at hl hs
    simp only [List.map_cons, List.map_nil] at hl hs
    rcases hl with ⟨rfl, hin⟩ | ⟨rfl, hin⟩
    all_goals (
      have f0 : sl 0 = .int .i64 a := by first | exact (hs 0 (by decide)).symm.trans (slot_out (hin 0) rfl) | exact (hs 0 (by decide)).symm.trans (slot_out (hin 0 (fun e => absurd ((show writer _ _ 0 = none from rfl).symm.trans e) (by decide))) rfl)
      have f1 : sl 1 = .int .i64 b := by first | exact (hs 1 (by decide)).symm.trans (slot_out (hin 1) rfl) | exact (hs 1 (by decide)).symm.trans (slot_out (hin 1 (fun e => absurd ((show writer _ _ 1 = none from rfl).symm.trans e) (by decide))) rfl)
      have f4 : sl 4 = .bool false := by first | exact (hs 4 (by decide)).symm.trans (slot_out (hin 4) rfl) | exact (hs 4 (by decide)).symm.trans (slot_out (hin 4 (fun e => absurd ((show writer _ _ 4 = none from rfl).symm.trans e) (by decide))) rfl)
      have f5 : sl 5 = .bool true := by first | exact (hs 5 (by decide)).symm.trans (slot_out (hin 5) rfl) | exact (hs 5 (by decide)).symm.trans (slot_out (hin 5 (fun e => absurd ((show writer _ _ 5 = none from rfl).symm.trans e) (by decide))) rfl)
      have f6 : sl 6 = .pointer (some ⟨x2.heap.size, 0, none⟩) := by first | exact (hs 6 (by decide)).symm.trans (slot_out (hin 6) rfl) | exact (hs 6 (by decide)).symm.trans (slot_out (hin 6 (fun e => absurd ((show writer _ _ 6 = none from rfl).symm.trans e) (by decide))) rfl)
      have f7 : sl 7 = .pointer (some ⟨x3.heap.size, 0, none⟩) := by first | exact (hs 7 (by decide)).symm.trans (slot_out (hin 7) rfl) | exact (hs 7 (by decide)).symm.trans (slot_out (hin 7 (fun e => absurd ((show writer _ _ 7 = none from rfl).symm.trans e) (by decide))) rfl)
      have f8 : sl 8 = .pointer (some ⟨x4.heap.size, 0, none⟩) := by first | exact (hs 8 (by decide)).symm.trans (slot_out (hin 8) rfl) | exact (hs 8 (by decide)).symm.trans (slot_out (hin 8 (fun e => absurd ((show writer _ _ 8 = none from rfl).symm.trans e) (by decide))) rfl)
      have f9 : sl 9 = .int .i64 0 := by first | exact (hs 9 (by decide)).symm.trans (slot_out (hin 9) rfl) | exact (hs 9 (by decide)).symm.trans (slot_out (hin 9 (fun e => absurd ((show writer _ _ 9 = none from rfl).symm.trans e) (by decide))) rfl)
      have f10 : sl 10 = .pointer (some ⟨x5.heap.size, 0, none⟩) := by first | exact (hs 10 (by decide)).symm.trans (slot_out (hin 10) rfl) | exact (hs 10 (by decide)).symm.trans (slot_out (hin 10 (fun e => absurd ((show writer _ _ 10 = none from rfl).symm.trans e) (by decide))) rfl)
      have f11 : sl 11 = .int .i64 0 := by first | exact (hs 11 (by decide)).symm.trans (slot_out (hin 11) rfl) | exact (hs 11 (by decide)).symm.trans (slot_out (hin 11 (fun e => absurd ((show writer _ _ 11 = none from rfl).symm.trans e) (by decide))) rfl)
      have f12 : sl 12 = .pointer (some ⟨x6.heap.size, 0, none⟩) := by first | exact (hs 12 (by decide)).symm.trans (slot_out (hin 12) rfl) | exact (hs 12 (by decide)).symm.trans (slot_out (hin 12 (fun e => absurd ((show writer _ _ 12 = none from rfl).symm.trans e) (by decide))) rfl)
      have f13 : sl 13 = .int .i64 0 := by first | exact (hs 13 (by decide)).symm.trans (slot_out (hin 13) rfl) | exact (hs 13 (by decide)).symm.trans (slot_out (hin 13 (fun e => absurd ((show writer _ _ 13 = none from rfl).symm.trans e) (by decide))) rfl)
      have f14 : ∃ bb, sl 14 = .pointer (some ⟨bb, 0, none⟩) ∧ x6.heap.size + 1 ≤ bb ∧ At w2 bb 0 0 E := by first | (have h := (slot_in (hin 14) rfl); rw [hs 14 (by decide)] at h; exact h) | (have h := (slot_in (hin 14 (fun e => absurd ((show writer _ _ 14 = some 7 from rfl).symm.trans e) (by decide))) rfl); rw [hs 14 (by decide)] at h; exact h)
      have f15 : sl 15 = undef := by first | exact (hs 15 (by decide)).symm.trans (slot_out (hin 15) rfl) | exact (hs 15 (by decide)).symm.trans (slot_out (hin 15 (fun e => absurd ((show writer _ _ 15 = none from rfl).symm.trans e) (by decide))) rfl)
      have f51 : sl 51 = .tuple #[V 1 0 E, .int .i64 0] := by first | exact (hs 51 (by decide)).symm.trans (slot_in (hin 51) rfl) | exact (hs 51 (by decide)).symm.trans (slot_in (hin 51 (fun e => absurd ((show writer _ _ 51 = some 4 from rfl).symm.trans e) (by decide))) rfl)
      have f56 : sl 56 = V 1 0 E := by first | exact (hs 56 (by decide)).symm.trans (slot_in (hin 56) rfl) | exact (hs 56 (by decide)).symm.trans (slot_in (hin 56 (fun e => absurd ((show writer _ _ 56 = some 5 from rfl).symm.trans e) (by decide))) rfl)
      (try (have f57 : sl 57 = .int .i64 0 := (hs 57 (by decide)).symm.trans (slot_in (hin 57) rfl); rw [f57]; clear f57))
      clear hin hs
      rw [f0, f1, f4, f5, f6, f7, f8, f9, f10, f11, f12, f13, f15, f51, f56]
      obtain ⟨bb, e10, hbb, hA⟩ := f14
      rw [e10]
      clear e10 f0 f1 f4 f5 f6 f7 f8 f9 f10 f11 f12 f13 f15 f51 f56
      (try simp only [V, E])
      have NB := hid hA
      obtain ⟨l9, p9, q9, r9, f9⟩ := hA
      (try simp only [List.drop_succ_cons, List.drop_zero])
      go_upto_region 8 with (fail)
      clear l9 p9 q9 r9 f9
      have s1 := B1.out.lt
      have s2 := B2.out.lt
      have s3 := B3.out.lt
      have s4 := B4.out.lt
      have s5 := B5.out.lt
      have sw := HG.out.size
      (try simp at s1 s2 s3 s4 s5 sw)
      have C1 := keep (B1.out.mono hG) (c := bb) (by omega) 1 0 ⟨#[]⟩
      have C2 := keep (B2.out.mono hG) (c := bb) (by omega) 1 0 ⟨#[]⟩
      have C3 := keep (B3.out.mono hG) (c := bb) (by omega) 1 0 ⟨#[]⟩
      have C4 := keep (B4.out.mono hG) (c := bb) (by omega) 1 0 ⟨#[]⟩
      have C5 := keep (B5.out.mono hG) (c := bb) (by omega) 1 0 ⟨#[]⟩
      have CN := NB.out.set 1 0 ⟨#[]⟩
      have CG := G.set (G.set (G.set (HG.out.trans hG) (p := ⟨bb, 0, none⟩) (by simp; omega) (.int .i64 1)) (p := ⟨bb, 1, none⟩) (by simp; omega) (.int .i64 0)) (p := ⟨bb, 2, none⟩) (by simp; omega) (.string ⟨#[]⟩)
      generalize ((w2.setCell ⟨bb, 0, none⟩ (.int .i64 1)).setCell ⟨bb, 1, none⟩ (.int .i64 0)).setCell ⟨bb, 2, none⟩ (.string ⟨#[]⟩) = y at C1 C2 C3 C4 C5 CN CG ⊢
      replace B1 := hid C1
      replace B2 := hid C2
      replace B3 := hid C3
      replace B4 := hid C4
      replace B5 := hid C5
      have B6 := hid CN
      replace HG := hid CG
      clear C1 C2 C3 C4 C5 CN CG NB hG s1 s2 s3 s4 s5 sw hbb
      obtain ⟨l1, p1, q1, r1, f1⟩ := B1.out
      obtain ⟨l2, p2, q2, r2, f2⟩ := B2.out
      obtain ⟨l3, p3, q3, r3, f3⟩ := B3.out
      obtain ⟨l4, p4, q4, r4, f4⟩ := B4.out
      obtain ⟨l5, p5, q5, r5, f5⟩ := B5.out
      obtain ⟨l6, p6, q6, r6, f6⟩ := B6.out
      clear l1 p1 q1 r1 f1
      clear l2 p2 q2 r2 f2
      clear l3 p3 q3 r3 f3
      clear l4 p4 q4 r4 f4
      clear l5 p5 q5 r5 f5
      clear l6 p6 q6 r6 f6
      refine wp_region_grows (says [Say.is (.int .i64 0), Say.is (.bool false), Say.is (.bool false), Say.is (.int .i64 0), Say.is (.bool false), Say.is (.bool false), Say.is (.bool false), Say.is (.int .i64 0), Say.is (.bool false), Say.is (.bool false), Say.is (.bool false), Say.is (.int .i64 0), Say.is (.bool false), Say.is (.bool false), Say.is (.bool false), Say.is (V 1 a E), Say.is (V 1 a E), Say.is (.bool false), Say.is (.bool false), Say.is (.bool false), Say.is (V 1 0 E), Say.is (V 1 0 E), Say.is (.bool false), Say.is (.bool false), Say.is (.bool false), Say.is (V 1 0 E), Say.is (V 1 0 E), Say.is (.bool false), Say.is (.bool false)]) 192 (by kernel_rfl) (by kernel_rfl) rfl (says_mono _) (allSteps_take ⟨?_, ?_, ?_, ?_, ?_, ?_, ?_, ?_, ?_, ?_, ?_, ?_, ?_, ?_, ?_, ?_, ?_, ?_, ?_, ?_, ?_, ?_, ?_, ?_, ?_, ?_, ?_, ?_, ?_, trivial⟩) ?_
      · intro ac w1 hG hin
        have h9 : ac.eval (.tmp 9) = .int .i64 0 := slot_out (hin 9 (by decide)) rfl
        clear hin
        exact .inl ⟨wanted_none rfl, grow_move rfl h9⟩
      · intro ac w1 hG hin
        have h58 : ac.eval (.tmp 58) = .int .i64 0 := slot_in (hin 58 (by decide)) rfl
        clear hin
        refine .inl ⟨wanted_none rfl, ?_⟩
        exact grow_neint rfl h58 rfl rfl
      · intro ac w1 hG hin
        have h59 : ac.eval (.tmp 59) = .bool false := slot_in (hin 59 (by decide)) rfl
        clear hin
        exact .inl ⟨wanted_none rfl, grow_move rfl h59⟩
      · intro ac w1 hG hin
        have h11 : ac.eval (.tmp 11) = .int .i64 0 := slot_out (hin 11 (by decide)) rfl
        have h60 : ac.eval (.tmp 60) = .bool false := slot_in (hin 60 (by decide)) rfl
        clear hin
        exact .inl ⟨wanted_yes rfl rfl h60, grow_move rfl h11⟩
      · intro ac w1 hG hin
        have h61 : ac.eval (.tmp 61) = .int .i64 0 := slot_in (hin 61 (by decide)) rfl
        have h60 : ac.eval (.tmp 60) = .bool false := slot_in (hin 60 (by decide)) rfl
        clear hin
        refine .inl ⟨wanted_yes rfl rfl h60, ?_⟩
        exact grow_neint rfl h61 rfl rfl
      · intro ac w1 hG hin
        have h60 : ac.eval (.tmp 60) = .bool false := slot_in (hin 60 (by decide)) rfl
        have h62 : ac.eval (.tmp 62) = .bool false := slot_in (hin 62 (by decide)) rfl
        clear hin
        exact .inl ⟨wanted_none rfl, grow_pick rfl h60 h62⟩
      · intro ac w1 hG hin
        have h63 : ac.eval (.tmp 63) = .bool false := slot_in (hin 63 (by decide)) rfl
        clear hin
        exact .inl ⟨wanted_none rfl, grow_move rfl h63⟩
      · intro ac w1 hG hin
        have h13 : ac.eval (.tmp 13) = .int .i64 0 := slot_out (hin 13 (by decide)) rfl
        have h64 : ac.eval (.tmp 64) = .bool false := slot_in (hin 64 (by decide)) rfl
        clear hin
        exact .inl ⟨wanted_yes rfl rfl h64, grow_move rfl h13⟩
      · intro ac w1 hG hin
        have h65 : ac.eval (.tmp 65) = .int .i64 0 := slot_in (hin 65 (by decide)) rfl
        have h64 : ac.eval (.tmp 64) = .bool false := slot_in (hin 64 (by decide)) rfl
        clear hin
        refine .inl ⟨wanted_yes rfl rfl h64, ?_⟩
        exact grow_neint rfl h65 rfl rfl
      · intro ac w1 hG hin
        have h64 : ac.eval (.tmp 64) = .bool false := slot_in (hin 64 (by decide)) rfl
        have h66 : ac.eval (.tmp 66) = .bool false := slot_in (hin 66 (by decide)) rfl
        clear hin
        exact .inl ⟨wanted_none rfl, grow_pick rfl h64 h66⟩
      · intro ac w1 hG hin
        have h67 : ac.eval (.tmp 67) = .bool false := slot_in (hin 67 (by decide)) rfl
        clear hin
        exact .inl ⟨wanted_none rfl, grow_move rfl h67⟩
      · intro ac w1 hG hin
        have h15 : ac.eval (.tmp 15) = .int .i64 0 := slot_out (hin 15 (by decide)) rfl
        have h68 : ac.eval (.tmp 68) = .bool false := slot_in (hin 68 (by decide)) rfl
        clear hin
        exact .inl ⟨wanted_yes rfl rfl h68, grow_move rfl h15⟩
      · intro ac w1 hG hin
        have h69 : ac.eval (.tmp 69) = .int .i64 0 := slot_in (hin 69 (by decide)) rfl
        have h68 : ac.eval (.tmp 68) = .bool false := slot_in (hin 68 (by decide)) rfl
        clear hin
        refine .inl ⟨wanted_yes rfl rfl h68, ?_⟩
        exact grow_neint rfl h69 rfl rfl
      · intro ac w1 hG hin
        have h68 : ac.eval (.tmp 68) = .bool false := slot_in (hin 68 (by decide)) rfl
        have h70 : ac.eval (.tmp 70) = .bool false := slot_in (hin 70 (by decide)) rfl
        clear hin
        exact .inl ⟨wanted_none rfl, grow_pick rfl h68 h70⟩
      · intro ac w1 hG hin
        have h71 : ac.eval (.tmp 71) = .bool false := slot_in (hin 71 (by decide)) rfl
        clear hin
        exact .inl ⟨wanted_none rfl, grow_move rfl h71⟩
      · intro ac w1 hG hin
        have h10 : ac.eval (.tmp 10) = .pointer (some ⟨x5.heap.size, 0, none⟩) := slot_out (hin 10 (by decide)) rfl
        have h72 : ac.eval (.tmp 72) = .bool false := slot_in (hin 72 (by decide)) rfl
        clear hin
        refine .inl ⟨wanted_yes rfl rfl h72, ?_⟩
        exact grow_load rfl (B4.out.mono hG) h10 rfl
      · intro ac w1 hG hin
        have h6 : ac.eval (.tmp 6) = .pointer (some ⟨x2.heap.size, 0, none⟩) := slot_out (hin 6 (by decide)) rfl
        have h72 : ac.eval (.tmp 72) = .bool false := slot_in (hin 72 (by decide)) rfl
        clear hin
        refine .inl ⟨wanted_yes rfl rfl h72, ?_⟩
        exact grow_load rfl (B1.out.mono hG) h6 rfl
      · intro ac w1 hG hin
        have h73 : ac.eval (.tmp 73) = V 1 a E := slot_in (hin 73 (by decide)) rfl
        have h74 : ac.eval (.tmp 74) = V 1 a E := slot_in (hin 74 (by decide)) rfl
        have h72 : ac.eval (.tmp 72) = .bool false := slot_in (hin 72 (by decide)) rfl
        clear hin
        refine .inl ⟨wanted_yes rfl rfl h72, ?_⟩
        exact grow_neV rfl h73 h74 (congrArg Value.bool (by simp [sameV]))
      · intro ac w1 hG hin
        have h72 : ac.eval (.tmp 72) = .bool false := slot_in (hin 72 (by decide)) rfl
        have h75 : ac.eval (.tmp 75) = .bool false := slot_in (hin 75 (by decide)) rfl
        clear hin
        exact .inl ⟨wanted_none rfl, grow_pick rfl h72 h75⟩
      · intro ac w1 hG hin
        have h76 : ac.eval (.tmp 76) = .bool false := slot_in (hin 76 (by decide)) rfl
        clear hin
        exact .inl ⟨wanted_none rfl, grow_move rfl h76⟩
      · intro ac w1 hG hin
        have h12 : ac.eval (.tmp 12) = .pointer (some ⟨x6.heap.size, 0, none⟩) := slot_out (hin 12 (by decide)) rfl
        have h77 : ac.eval (.tmp 77) = .bool false := slot_in (hin 77 (by decide)) rfl
        clear hin
        refine .inl ⟨wanted_yes rfl rfl h77, ?_⟩
        exact grow_load rfl (B5.out.mono hG) h12 rfl
      · intro ac w1 hG hin
        have h77 : ac.eval (.tmp 77) = .bool false := slot_in (hin 77 (by decide)) rfl
        clear hin
        exact .inl ⟨wanted_yes rfl rfl h77, grow_call Tryd.call11 #[ac.eval (.const (.int .i64 0))] (by simp only [List.map_toArray, List.map_cons, List.map_nil]) ((int_any _ _).mono (by rintro e w2 ⟨rfl, hg⟩; exact ⟨_, rfl, hg, rfl⟩))⟩
      · intro ac w1 hG hin
        have h78 : ac.eval (.tmp 78) = V 1 0 E := slot_in (hin 78 (by decide)) rfl
        have h79 : ac.eval (.tmp 79) = V 1 0 E := slot_in (hin 79 (by decide)) rfl
        have h77 : ac.eval (.tmp 77) = .bool false := slot_in (hin 77 (by decide)) rfl
        clear hin
        refine .inl ⟨wanted_yes rfl rfl h77, ?_⟩
        exact grow_neV rfl h78 h79 (congrArg Value.bool (by simp [sameV]))
      · intro ac w1 hG hin
        have h77 : ac.eval (.tmp 77) = .bool false := slot_in (hin 77 (by decide)) rfl
        have h80 : ac.eval (.tmp 80) = .bool false := slot_in (hin 80 (by decide)) rfl
        clear hin
        exact .inl ⟨wanted_none rfl, grow_pick rfl h77 h80⟩
      · intro ac w1 hG hin
        have h81 : ac.eval (.tmp 81) = .bool false := slot_in (hin 81 (by decide)) rfl
        clear hin
        exact .inl ⟨wanted_none rfl, grow_move rfl h81⟩
      · intro ac w1 hG hin
        have h14 : ac.eval (.tmp 14) = .pointer (some ⟨bb, 0, none⟩) := slot_out (hin 14 (by decide)) rfl
        have h82 : ac.eval (.tmp 82) = .bool false := slot_in (hin 82 (by decide)) rfl
        clear hin
        refine .inl ⟨wanted_yes rfl rfl h82, ?_⟩
        exact grow_load rfl (B6.out.mono hG) h14 rfl
      · intro ac w1 hG hin
        have h82 : ac.eval (.tmp 82) = .bool false := slot_in (hin 82 (by decide)) rfl
        clear hin
        exact .inl ⟨wanted_yes rfl rfl h82, grow_call Tryd.call11 #[ac.eval (.const (.int .i64 0))] (by simp only [List.map_toArray, List.map_cons, List.map_nil]) ((int_any _ _).mono (by rintro e w2 ⟨rfl, hg⟩; exact ⟨_, rfl, hg, rfl⟩))⟩
      · intro ac w1 hG hin
        have h83 : ac.eval (.tmp 83) = V 1 0 E := slot_in (hin 83 (by decide)) rfl
        have h84 : ac.eval (.tmp 84) = V 1 0 E := slot_in (hin 84 (by decide)) rfl
        have h82 : ac.eval (.tmp 82) = .bool false := slot_in (hin 82 (by decide)) rfl
        clear hin
        refine .inl ⟨wanted_yes rfl rfl h82, ?_⟩
        exact grow_neV rfl h83 h84 (congrArg Value.bool (by simp [sameV]))
      · intro ac w1 hG hin
        have h82 : ac.eval (.tmp 82) = .bool false := slot_in (hin 82 (by decide)) rfl
        have h85 : ac.eval (.tmp 85) = .bool false := slot_in (hin 85 (by decide)) rfl
        clear hin
        exact .inl ⟨wanted_none rfl, grow_pick rfl h82 h85⟩
      · intro sl w3 hG hin hs
        have f86 : sl 86 = .bool false := (hs 86 (by decide)).symm.trans (slot_in (hin 86) rfl)
        have f0 : sl 0 = .int .i64 a := (hs 0 (by decide)).symm.trans (slot_out (hin 0) rfl)
        have f1 : sl 1 = .int .i64 b := (hs 1 (by decide)).symm.trans (slot_out (hin 1) rfl)
        have f4 : sl 4 = .bool false := (hs 4 (by decide)).symm.trans (slot_out (hin 4) rfl)
        have f5 : sl 5 = .bool true := (hs 5 (by decide)).symm.trans (slot_out (hin 5) rfl)
        have f6 : sl 6 = .pointer (some ⟨x2.heap.size, 0, none⟩) := (hs 6 (by decide)).symm.trans (slot_out (hin 6) rfl)
        have f7 : sl 7 = .pointer (some ⟨x3.heap.size, 0, none⟩) := (hs 7 (by decide)).symm.trans (slot_out (hin 7) rfl)
        have f8 : sl 8 = .pointer (some ⟨x4.heap.size, 0, none⟩) := (hs 8 (by decide)).symm.trans (slot_out (hin 8) rfl)
        have f9 : sl 9 = .int .i64 0 := (hs 9 (by decide)).symm.trans (slot_out (hin 9) rfl)
        have f10 : sl 10 = .pointer (some ⟨x5.heap.size, 0, none⟩) := (hs 10 (by decide)).symm.trans (slot_out (hin 10) rfl)
        have f11 : sl 11 = .int .i64 0 := (hs 11 (by decide)).symm.trans (slot_out (hin 11) rfl)
        have f12 : sl 12 = .pointer (some ⟨x6.heap.size, 0, none⟩) := (hs 12 (by decide)).symm.trans (slot_out (hin 12) rfl)
        have f13 : sl 13 = .int .i64 0 := (hs 13 (by decide)).symm.trans (slot_out (hin 13) rfl)
        have f14 : sl 14 = .pointer (some ⟨bb, 0, none⟩) := (hs 14 (by decide)).symm.trans (slot_out (hin 14) rfl)
        have f15 : sl 15 = .int .i64 0 := (hs 15 (by decide)).symm.trans (slot_out (hin 15) rfl)
        clear hin hs
        rw [show List.range 192 = [0, 1, 2, 3, 4, 5, 6, 7, 8, 9, 10, 11, 12, 13, 14, 15, 16, 17, 18, 19, 20, 21, 22, 23, 24, 25, 26, 27, 28, 29, 30, 31, 32, 33, 34, 35, 36, 37, 38, 39, 40, 41, 42, 43, 44, 45, 46, 47, 48, 49, 50, 51, 52, 53, 54, 55, 56, 57, 58, 59, 60, 61, 62, 63, 64, 65, 66, 67, 68, 69, 70, 71, 72, 73, 74, 75, 76, 77, 78, 79, 80, 81, 82, 83, 84, 85, 86, 87, 88, 89, 90, 91, 92, 93, 94, 95, 96, 97, 98, 99, 100, 101, 102, 103, 104, 105, 106, 107, 108, 109, 110, 111, 112, 113, 114, 115, 116, 117, 118, 119, 120, 121, 122, 123, 124, 125, 126, 127, 128, 129, 130, 131, 132, 133, 134, 135, 136, 137, 138, 139, 140, 141, 142, 143, 144, 145, 146, 147, 148, 149, 150, 151, 152, 153, 154, 155, 156, 157, 158, 159, 160, 161, 162, 163, 164, 165, 166, 167, 168, 169, 170, 171, 172, 173, 174, 175, 176, 177, 178, 179, 180, 181, 182, 183, 184, 185, 186, 187, 188, 189, 190, 191] from rfl]
        simp only [List.map_cons, List.map_nil]
        rw [f86, f0, f1, f4, f5, f6, f7, f8, f9, f10, f11, f12, f13, f14, f15]
        clear f86 f0 f1 f4 f5 f6 f7 f8 f9 f10 f11 f12 f13 f14 f15
        replace B1 := hid (B1.out.mono hG)
        replace B2 := hid (B2.out.mono hG)
        replace B3 := hid (B3.out.mono hG)
        replace B4 := hid (B4.out.mono hG)
        replace B5 := hid (B5.out.mono hG)
        replace B6 := hid (B6.out.mono hG)
        replace HG := hid (HG.out.trans hG)
        clear hG
        obtain ⟨l1, p1, q1, r1, f1⟩ := B1.out
        obtain ⟨l2, p2, q2, r2, f2⟩ := B2.out
        obtain ⟨l3, p3, q3, r3, f3⟩ := B3.out
        obtain ⟨l4, p4, q4, r4, f4⟩ := B4.out
        obtain ⟨l5, p5, q5, r5, f5⟩ := B5.out
        obtain ⟨l6, p6, q6, r6, f6⟩ := B6.out
        go_wp2_with fail
        refine (div_any hb hq _).mono ?_
        rintro e x21 ⟨rfl, g21⟩
        (try simp only [R.v, R.u, V])
        clear l1 p1 q1 r1 f1
        clear l2 p2 q2 r2 f2
        clear l3 p3 q3 r3 f3
        clear l4 p4 q4 r4 f4
        clear l5 p5 q5 r5 f5
        clear l6 p6 q6 r6 f6
        have h21 : G w3 x21 := g21
        replace B1 := hid (B1.out.mono h21)
        replace B2 := hid (B2.out.mono h21)
        replace B3 := hid (B3.out.mono h21)
        replace B4 := hid (B4.out.mono h21)
        replace B5 := hid (B5.out.mono h21)
        replace B6 := hid (B6.out.mono h21)
        replace HG := hid (HG.out.trans h21)
        clear h21 g21
        obtain ⟨l1, p1, q1, r1, f1⟩ := B1.out
        obtain ⟨l2, p2, q2, r2, f2⟩ := B2.out
        obtain ⟨l3, p3, q3, r3, f3⟩ := B3.out
        obtain ⟨l4, p4, q4, r4, f4⟩ := B4.out
        obtain ⟨l5, p5, q5, r5, f5⟩ := B5.out
        obtain ⟨l6, p6, q6, r6, f6⟩ := B6.out
        go_wp2_with fail
        refine (mod_any hb hr _).mono ?_
        rintro e x22 ⟨rfl, g22⟩
        (try simp only [R.v, R.u, V])
        clear l1 p1 q1 r1 f1
        clear l2 p2 q2 r2 f2
        clear l3 p3 q3 r3 f3
        clear l4 p4 q4 r4 f4
        clear l5 p5 q5 r5 f5
        clear l6 p6 q6 r6 f6
        have h22 : G x21 x22 := ((G.refl _).alloc _).trans g22
        replace B1 := hid (B1.out.mono h22)
        replace B2 := hid (B2.out.mono h22)
        replace B3 := hid (B3.out.mono h22)
        replace B4 := hid (B4.out.mono h22)
        replace B5 := hid (B5.out.mono h22)
        replace B6 := hid (B6.out.mono h22)
        have B7 := hid (At.after g22)
        replace HG := hid (HG.out.trans h22)
        clear h22 g22
        obtain ⟨l1, p1, q1, r1, f1⟩ := B1.out
        obtain ⟨l2, p2, q2, r2, f2⟩ := B2.out
        obtain ⟨l3, p3, q3, r3, f3⟩ := B3.out
        obtain ⟨l4, p4, q4, r4, f4⟩ := B4.out
        obtain ⟨l5, p5, q5, r5, f5⟩ := B5.out
        obtain ⟨l6, p6, q6, r6, f6⟩ := B6.out
        obtain ⟨l7, p7, q7, r7, f7⟩ := B7.out
        go_wp2_with fail
        refine (mul_any hp _).mono ?_
        rintro e x23 ⟨rfl, g23⟩
        (try simp only [R.v, R.u, V])
        clear l1 p1 q1 r1 f1
        clear l2 p2 q2 r2 f2
        clear l3 p3 q3 r3 f3
        clear l4 p4 q4 r4 f4
        clear l5 p5 q5 r5 f5
        clear l6 p6 q6 r6 f6
        clear l7 p7 q7 r7 f7
        have h23 : G x22 x23 := ((G.refl _).alloc _).trans g23
        replace B1 := hid (B1.out.mono h23)
        replace B2 := hid (B2.out.mono h23)
        replace B3 := hid (B3.out.mono h23)
        replace B4 := hid (B4.out.mono h23)
        replace B5 := hid (B5.out.mono h23)
        replace B6 := hid (B6.out.mono h23)
        replace B7 := hid (B7.out.mono h23)
        have B8 := hid (At.after g23)
        replace HG := hid (HG.out.trans h23)
        clear h23 g23
        obtain ⟨l1, p1, q1, r1, f1⟩ := B1.out
        obtain ⟨l2, p2, q2, r2, f2⟩ := B2.out
        obtain ⟨l3, p3, q3, r3, f3⟩ := B3.out
        obtain ⟨l4, p4, q4, r4, f4⟩ := B4.out
        obtain ⟨l5, p5, q5, r5, f5⟩ := B5.out
        obtain ⟨l6, p6, q6, r6, f6⟩ := B6.out
        obtain ⟨l7, p7, q7, r7, f7⟩ := B7.out
        obtain ⟨l8, p8, q8, r8, f8⟩ := B8.out
        go_wp2_with fail
        refine (add_any h5 _).mono ?_
        rintro e x24 ⟨rfl, g24⟩
        (try simp only [R.v, R.u, V])
        clear l1 p1 q1 r1 f1
        clear l2 p2 q2 r2 f2
        clear l3 p3 q3 r3 f3
        clear l4 p4 q4 r4 f4
        clear l5 p5 q5 r5 f5
        clear l6 p6 q6 r6 f6
        clear l7 p7 q7 r7 f7
        clear l8 p8 q8 r8 f8
        have h24 : G x23 x24 := ((G.refl _).alloc _).trans g24
        replace B1 := hid (B1.out.mono h24)
        replace B2 := hid (B2.out.mono h24)
        replace B3 := hid (B3.out.mono h24)
        replace B4 := hid (B4.out.mono h24)
        replace B5 := hid (B5.out.mono h24)
        replace B6 := hid (B6.out.mono h24)
        replace B7 := hid (B7.out.mono h24)
        replace B8 := hid (B8.out.mono h24)
        have B9 := hid (At.after g24)
        replace HG := hid (HG.out.trans h24)
        clear h24 g24
        obtain ⟨l1, p1, q1, r1, f1⟩ := B1.out
        obtain ⟨l2, p2, q2, r2, f2⟩ := B2.out
        obtain ⟨l3, p3, q3, r3, f3⟩ := B3.out
        obtain ⟨l4, p4, q4, r4, f4⟩ := B4.out
        obtain ⟨l5, p5, q5, r5, f5⟩ := B5.out
        obtain ⟨l6, p6, q6, r6, f6⟩ := B6.out
        obtain ⟨l7, p7, q7, r7, f7⟩ := B7.out
        obtain ⟨l8, p8, q8, r8, f8⟩ := B8.out
        obtain ⟨l9, p9, q9, r9, f9⟩ := B9.out
        go_wp2_with fail
        refine (lt_any hl _).mono ?_
        rintro e x25 ⟨rfl, g25⟩
        (try simp only [R.v, R.u, V])
        clear l1 p1 q1 r1 f1
        clear l2 p2 q2 r2 f2
        clear l3 p3 q3 r3 f3
        clear l4 p4 q4 r4 f4
        clear l5 p5 q5 r5 f5
        clear l6 p6 q6 r6 f6
        clear l7 p7 q7 r7 f7
        clear l8 p8 q8 r8 f8
        clear l9 p9 q9 r9 f9
        have h25 : G x24 x25 := ((G.refl _).alloc _).trans g25
        replace B1 := hid (B1.out.mono h25)
        replace B2 := hid (B2.out.mono h25)
        replace B3 := hid (B3.out.mono h25)
        replace B4 := hid (B4.out.mono h25)
        replace B5 := hid (B5.out.mono h25)
        replace B6 := hid (B6.out.mono h25)
        replace B7 := hid (B7.out.mono h25)
        replace B8 := hid (B8.out.mono h25)
        replace B9 := hid (B9.out.mono h25)
        have B10 := hid (At.after g25)
        replace HG := hid (HG.out.trans h25)
        clear h25 g25
        obtain ⟨l1, p1, q1, r1, f1⟩ := B1.out
        obtain ⟨l2, p2, q2, r2, f2⟩ := B2.out
        obtain ⟨l3, p3, q3, r3, f3⟩ := B3.out
        obtain ⟨l4, p4, q4, r4, f4⟩ := B4.out
        obtain ⟨l5, p5, q5, r5, f5⟩ := B5.out
        obtain ⟨l6, p6, q6, r6, f6⟩ := B6.out
        obtain ⟨l7, p7, q7, r7, f7⟩ := B7.out
        obtain ⟨l8, p8, q8, r8, f8⟩ := B8.out
        obtain ⟨l9, p9, q9, r9, f9⟩ := B9.out
        obtain ⟨l10, p10, q10, r10, f10⟩ := B10.out
        go_wp2_with fail
        refine (le_any hg _).mono ?_
        rintro e x26 ⟨rfl, g26⟩
        (try simp only [R.v, R.u, V])
        clear l1 p1 q1 r1 f1
        clear l2 p2 q2 r2 f2
        clear l3 p3 q3 r3 f3
        clear l4 p4 q4 r4 f4
        clear l5 p5 q5 r5 f5
        clear l6 p6 q6 r6 f6
        clear l7 p7 q7 r7 f7
        clear l8 p8 q8 r8 f8
        clear l9 p9 q9 r9 f9
        clear l10 p10 q10 r10 f10
        have h26 : G x25 x26 := ((G.refl _).alloc _).trans g26
        replace B1 := hid (B1.out.mono h26)
        replace B2 := hid (B2.out.mono h26)
        replace B3 := hid (B3.out.mono h26)
        replace B4 := hid (B4.out.mono h26)
        replace B5 := hid (B5.out.mono h26)
        replace B6 := hid (B6.out.mono h26)
        replace B7 := hid (B7.out.mono h26)
        replace B8 := hid (B8.out.mono h26)
        replace B9 := hid (B9.out.mono h26)
        replace B10 := hid (B10.out.mono h26)
        have B11 := hid (At.after g26)
        replace HG := hid (HG.out.trans h26)
        clear h26 g26
        obtain ⟨l1, p1, q1, r1, f1⟩ := B1.out
        obtain ⟨l2, p2, q2, r2, f2⟩ := B2.out
        obtain ⟨l3, p3, q3, r3, f3⟩ := B3.out
        obtain ⟨l4, p4, q4, r4, f4⟩ := B4.out
        obtain ⟨l5, p5, q5, r5, f5⟩ := B5.out
        obtain ⟨l6, p6, q6, r6, f6⟩ := B6.out
        obtain ⟨l7, p7, q7, r7, f7⟩ := B7.out
        obtain ⟨l8, p8, q8, r8, f8⟩ := B8.out
        obtain ⟨l9, p9, q9, r9, f9⟩ := B9.out
        obtain ⟨l10, p10, q10, r10, f10⟩ := B10.out
        obtain ⟨l11, p11, q11, r11, f11⟩ := B11.out
        go_upto_region 18 with (fail)
        clear l1 p1 q1 r1 f1
        clear l2 p2 q2 r2 f2
        clear l3 p3 q3 r3 f3
        clear l4 p4 q4 r4 f4
        clear l5 p5 q5 r5 f5
        clear l6 p6 q6 r6 f6
        clear l7 p7 q7 r7 f7
        clear l8 p8 q8 r8 f8
        clear l9 p9 q9 r9 f9
        clear l10 p10 q10 r10 f10
        clear l11 p11 q11 r11 f11
        replace B1 := hid (B1.out.more (.cells #[.int .i64 2, .int .i64 g, .string ⟨#[]⟩] 24))
        replace B2 := hid (B2.out.more (.cells #[.int .i64 2, .int .i64 g, .string ⟨#[]⟩] 24))
        replace B3 := hid (B3.out.more (.cells #[.int .i64 2, .int .i64 g, .string ⟨#[]⟩] 24))
        replace B4 := hid (B4.out.more (.cells #[.int .i64 2, .int .i64 g, .string ⟨#[]⟩] 24))
        replace B5 := hid (B5.out.more (.cells #[.int .i64 2, .int .i64 g, .string ⟨#[]⟩] 24))
        replace B6 := hid (B6.out.more (.cells #[.int .i64 2, .int .i64 g, .string ⟨#[]⟩] 24))
        replace B7 := hid (B7.out.more (.cells #[.int .i64 2, .int .i64 g, .string ⟨#[]⟩] 24))
        replace B8 := hid (B8.out.more (.cells #[.int .i64 2, .int .i64 g, .string ⟨#[]⟩] 24))
        replace B9 := hid (B9.out.more (.cells #[.int .i64 2, .int .i64 g, .string ⟨#[]⟩] 24))
        replace B10 := hid (B10.out.more (.cells #[.int .i64 2, .int .i64 g, .string ⟨#[]⟩] 24))
        replace B11 := hid (B11.out.more (.cells #[.int .i64 2, .int .i64 g, .string ⟨#[]⟩] 24))
        have B12 := hid (At.alloc x26 2 g E)
        replace HG := hid (HG.out.alloc (.cells #[.int .i64 2, .int .i64 g, .string ⟨#[]⟩] 24))
        refine wp_region_grows (says [Say.is (.bool true), Say.is (.bool true), Say.is (.int .i64 0), Say.is (.bool true), Say.is (.bool true), Say.is (.bool true), Say.is (.int .i64 0), Say.is (.bool true), Say.is (.bool true), Say.is (.bool true), Say.is (.int .i64 0), Say.is (.bool true), Say.is (.bool true), Say.is (.bool true), Say.is (.int .i64 0), Say.is (.bool true), Say.is (.bool true), Say.is (.bool true), Say.is (V 1 a E), Say.is (V 1 a E), Say.is (.bool true), Say.is (.bool true), Say.is (.bool true), Say.is (.pointer (some ⟨x22.heap.size, 1, none⟩)), Say.is (.int .i64 r), Say.is (.bool false), Say.is (.bool false), Say.is (.pointer (some ⟨x22.heap.size, 1, none⟩)), Say.is (.int .i64 r), Say.is (.bool (decide (r < 0))), Say.is (.int .i64 a), Say.is (.bool (decide (a < 0))), Say.is (.bool true), Say.is (.bool true), Say.is (.bool true), Say.is (.bool true), Say.is (.int .i64 0), Say.is (.bool true), Say.is (.bool true), Say.is (.bool true), Say.is (.int .i64 0), Say.is (.bool true), Say.is (.bool true), Say.is (.bool true), Say.is (V 2 l E), Say.is (V 2 g E), Say.is (V 2 l E), Say.is (.bool true), Say.is (.bool true), Say.is (.bool true), Say.is (.pointer (some ⟨x25.heap.size, 1, none⟩)), Say.is (.int .i64 l), Say.is (.bool (l == 1)), Say.is (.int .i64 a), Say.is (.int .i64 b), Say.is (.bool (decide (a < b))), Say.is (.bool true), Say.is (.bool true), Say.is (.bool true)]) 192 (by kernel_rfl) (by kernel_rfl) rfl (says_mono _) (allSteps_take ⟨?_, ?_, ?_, ?_, ?_, ?_, ?_, ?_, ?_, ?_, ?_, ?_, ?_, ?_, ?_, ?_, ?_, ?_, ?_, ?_, ?_, ?_, ?_, ?_, ?_, ?_, ?_, ?_, ?_, ?_, ?_, ?_, ?_, ?_, ?_, ?_, ?_, ?_, ?_, ?_, ?_, ?_, ?_, ?_, ?_, ?_, ?_, ?_, ?_, ?_, ?_, ?_, ?_, ?_, ?_, ?_, ?_, ?_, ?_, trivial⟩) ?_
        · intro ac w1 hG hin
          have h5 : ac.eval (.tmp 5) = .bool true := slot_out (hin 5 (by decide)) rfl
          clear hin
          exact .inl ⟨wanted_none rfl, grow_move rfl h5⟩
        · intro ac w1 hG hin
          have h134 : ac.eval (.tmp 134) = .bool true := slot_in (hin 134 (by decide)) rfl
          clear hin
          exact .inl ⟨wanted_none rfl, grow_move rfl h134⟩
        · intro ac w1 hG hin
          have h17 : ac.eval (.tmp 17) = .int .i64 0 := slot_out (hin 17 (by decide)) rfl
          have h135 : ac.eval (.tmp 135) = .bool true := slot_in (hin 135 (by decide)) rfl
          clear hin
          exact .inl ⟨wanted_yes rfl rfl h135, grow_move rfl h17⟩
        · intro ac w1 hG hin
          have h136 : ac.eval (.tmp 136) = .int .i64 0 := slot_in (hin 136 (by decide)) rfl
          have h135 : ac.eval (.tmp 135) = .bool true := slot_in (hin 135 (by decide)) rfl
          clear hin
          refine .inl ⟨wanted_yes rfl rfl h135, ?_⟩
          exact grow_eqint rfl h136 rfl rfl
        · intro ac w1 hG hin
          have h135 : ac.eval (.tmp 135) = .bool true := slot_in (hin 135 (by decide)) rfl
          have h137 : ac.eval (.tmp 137) = .bool true := slot_in (hin 137 (by decide)) rfl
          clear hin
          exact .inl ⟨wanted_none rfl, grow_pick rfl h135 h137⟩
        · intro ac w1 hG hin
          have h138 : ac.eval (.tmp 138) = .bool true := slot_in (hin 138 (by decide)) rfl
          clear hin
          exact .inl ⟨wanted_none rfl, grow_move rfl h138⟩
        · intro ac w1 hG hin
          have h19 : ac.eval (.tmp 19) = .int .i64 0 := slot_out (hin 19 (by decide)) rfl
          have h139 : ac.eval (.tmp 139) = .bool true := slot_in (hin 139 (by decide)) rfl
          clear hin
          exact .inl ⟨wanted_yes rfl rfl h139, grow_move rfl h19⟩
        · intro ac w1 hG hin
          have h140 : ac.eval (.tmp 140) = .int .i64 0 := slot_in (hin 140 (by decide)) rfl
          have h139 : ac.eval (.tmp 139) = .bool true := slot_in (hin 139 (by decide)) rfl
          clear hin
          refine .inl ⟨wanted_yes rfl rfl h139, ?_⟩
          exact grow_eqint rfl h140 rfl rfl
        · intro ac w1 hG hin
          have h139 : ac.eval (.tmp 139) = .bool true := slot_in (hin 139 (by decide)) rfl
          have h141 : ac.eval (.tmp 141) = .bool true := slot_in (hin 141 (by decide)) rfl
          clear hin
          exact .inl ⟨wanted_none rfl, grow_pick rfl h139 h141⟩
        · intro ac w1 hG hin
          have h142 : ac.eval (.tmp 142) = .bool true := slot_in (hin 142 (by decide)) rfl
          clear hin
          exact .inl ⟨wanted_none rfl, grow_move rfl h142⟩
        · intro ac w1 hG hin
          have h21 : ac.eval (.tmp 21) = .int .i64 0 := slot_out (hin 21 (by decide)) rfl
          have h143 : ac.eval (.tmp 143) = .bool true := slot_in (hin 143 (by decide)) rfl
          clear hin
          exact .inl ⟨wanted_yes rfl rfl h143, grow_move rfl h21⟩
        · intro ac w1 hG hin
          have h144 : ac.eval (.tmp 144) = .int .i64 0 := slot_in (hin 144 (by decide)) rfl
          have h143 : ac.eval (.tmp 143) = .bool true := slot_in (hin 143 (by decide)) rfl
          clear hin
          refine .inl ⟨wanted_yes rfl rfl h143, ?_⟩
          exact grow_eqint rfl h144 rfl rfl
        · intro ac w1 hG hin
          have h143 : ac.eval (.tmp 143) = .bool true := slot_in (hin 143 (by decide)) rfl
          have h145 : ac.eval (.tmp 145) = .bool true := slot_in (hin 145 (by decide)) rfl
          clear hin
          exact .inl ⟨wanted_none rfl, grow_pick rfl h143 h145⟩
        · intro ac w1 hG hin
          have h146 : ac.eval (.tmp 146) = .bool true := slot_in (hin 146 (by decide)) rfl
          clear hin
          exact .inl ⟨wanted_none rfl, grow_move rfl h146⟩
        · intro ac w1 hG hin
          have h23 : ac.eval (.tmp 23) = .int .i64 0 := slot_out (hin 23 (by decide)) rfl
          have h147 : ac.eval (.tmp 147) = .bool true := slot_in (hin 147 (by decide)) rfl
          clear hin
          exact .inl ⟨wanted_yes rfl rfl h147, grow_move rfl h23⟩
        · intro ac w1 hG hin
          have h148 : ac.eval (.tmp 148) = .int .i64 0 := slot_in (hin 148 (by decide)) rfl
          have h147 : ac.eval (.tmp 147) = .bool true := slot_in (hin 147 (by decide)) rfl
          clear hin
          refine .inl ⟨wanted_yes rfl rfl h147, ?_⟩
          exact grow_eqint rfl h148 rfl rfl
        · intro ac w1 hG hin
          have h147 : ac.eval (.tmp 147) = .bool true := slot_in (hin 147 (by decide)) rfl
          have h149 : ac.eval (.tmp 149) = .bool true := slot_in (hin 149 (by decide)) rfl
          clear hin
          exact .inl ⟨wanted_none rfl, grow_pick rfl h147 h149⟩
        · intro ac w1 hG hin
          have h150 : ac.eval (.tmp 150) = .bool true := slot_in (hin 150 (by decide)) rfl
          clear hin
          exact .inl ⟨wanted_none rfl, grow_move rfl h150⟩
        · intro ac w1 hG hin
          have h22 : ac.eval (.tmp 22) = .pointer (some ⟨x24.heap.size, 0, none⟩) := slot_out (hin 22 (by decide)) rfl
          have h151 : ac.eval (.tmp 151) = .bool true := slot_in (hin 151 (by decide)) rfl
          clear hin
          refine .inl ⟨wanted_yes rfl rfl h151, ?_⟩
          exact grow_load rfl (B10.out.mono hG) h22 rfl
        · intro ac w1 hG hin
          have h6 : ac.eval (.tmp 6) = .pointer (some ⟨x2.heap.size, 0, none⟩) := slot_out (hin 6 (by decide)) rfl
          have h151 : ac.eval (.tmp 151) = .bool true := slot_in (hin 151 (by decide)) rfl
          clear hin
          refine .inl ⟨wanted_yes rfl rfl h151, ?_⟩
          exact grow_load rfl (B1.out.mono hG) h6 rfl
        · intro ac w1 hG hin
          have h152 : ac.eval (.tmp 152) = V 1 a E := slot_in (hin 152 (by decide)) rfl
          have h153 : ac.eval (.tmp 153) = V 1 a E := slot_in (hin 153 (by decide)) rfl
          have h151 : ac.eval (.tmp 151) = .bool true := slot_in (hin 151 (by decide)) rfl
          clear hin
          refine .inl ⟨wanted_yes rfl rfl h151, ?_⟩
          exact grow_eqV rfl h152 h153 (congrArg Value.bool (by simp [sameV]))
        · intro ac w1 hG hin
          have h151 : ac.eval (.tmp 151) = .bool true := slot_in (hin 151 (by decide)) rfl
          have h154 : ac.eval (.tmp 154) = .bool true := slot_in (hin 154 (by decide)) rfl
          clear hin
          exact .inl ⟨wanted_none rfl, grow_pick rfl h151 h154⟩
        · intro ac w1 hG hin
          have h155 : ac.eval (.tmp 155) = .bool true := slot_in (hin 155 (by decide)) rfl
          clear hin
          exact .inl ⟨wanted_none rfl, grow_move rfl h155⟩
        · intro ac w1 hG hin
          have h18 : ac.eval (.tmp 18) = .pointer (some ⟨x22.heap.size, 0, none⟩) := slot_out (hin 18 (by decide)) rfl
          have h156 : ac.eval (.tmp 156) = .bool true := slot_in (hin 156 (by decide)) rfl
          clear hin
          refine .inl ⟨wanted_yes rfl rfl h156, ?_⟩
          exact grow_addr rfl (by decide) h18 rfl
        · intro ac w1 hG hin
          have h157 : ac.eval (.tmp 157) = .pointer (some ⟨x22.heap.size, 1, none⟩) := slot_in (hin 157 (by decide)) rfl
          have h156 : ac.eval (.tmp 156) = .bool true := slot_in (hin 156 (by decide)) rfl
          clear hin
          refine .inl ⟨wanted_yes rfl rfl h156, ?_⟩
          exact grow_load1 rfl (B8.out.mono hG) h157 rfl
        · intro ac w1 hG hin
          have h158 : ac.eval (.tmp 158) = .int .i64 r := slot_in (hin 158 (by decide)) rfl
          have h156 : ac.eval (.tmp 156) = .bool true := slot_in (hin 156 (by decide)) rfl
          clear hin
          refine .inl ⟨wanted_yes rfl rfl h156, ?_⟩
          exact grow_eqint rfl h158 rfl (congrArg Value.bool (by simp [hz.out]))
        · intro ac w1 hG hin
          have h159 : ac.eval (.tmp 159) = .bool false := slot_in (hin 159 (by decide)) rfl
          have h156 : ac.eval (.tmp 156) = .bool true := slot_in (hin 156 (by decide)) rfl
          clear hin
          exact .inl ⟨wanted_yes rfl rfl h156, grow_move rfl h159⟩
        · intro ac w1 hG hin
          have h18 : ac.eval (.tmp 18) = .pointer (some ⟨x22.heap.size, 0, none⟩) := slot_out (hin 18 (by decide)) rfl
          have h160 : ac.eval (.tmp 160) = .bool false := slot_in (hin 160 (by decide)) rfl
          clear hin
          refine .inl ⟨wanted_yes rfl rfl h160, ?_⟩
          exact grow_addr rfl (by decide) h18 rfl
        · intro ac w1 hG hin
          have h161 : ac.eval (.tmp 161) = .pointer (some ⟨x22.heap.size, 1, none⟩) := slot_in (hin 161 (by decide)) rfl
          have h160 : ac.eval (.tmp 160) = .bool false := slot_in (hin 160 (by decide)) rfl
          clear hin
          refine .inl ⟨wanted_yes rfl rfl h160, ?_⟩
          exact grow_load1 rfl (B8.out.mono hG) h161 rfl
        · intro ac w1 hG hin
          have h162 : ac.eval (.tmp 162) = .int .i64 r := slot_in (hin 162 (by decide)) rfl
          have h160 : ac.eval (.tmp 160) = .bool false := slot_in (hin 160 (by decide)) rfl
          clear hin
          refine .inl ⟨wanted_yes rfl rfl h160, ?_⟩
          exact grow_lt rfl h162 rfl rfl
        · intro ac w1 hG hin
          have h0 : ac.eval (.tmp 0) = .int .i64 a := slot_out (hin 0 (by decide)) rfl
          have h160 : ac.eval (.tmp 160) = .bool false := slot_in (hin 160 (by decide)) rfl
          clear hin
          exact .inl ⟨wanted_yes rfl rfl h160, grow_move rfl h0⟩
        · intro ac w1 hG hin
          have h164 : ac.eval (.tmp 164) = .int .i64 a := slot_in (hin 164 (by decide)) rfl
          have h160 : ac.eval (.tmp 160) = .bool false := slot_in (hin 160 (by decide)) rfl
          clear hin
          refine .inl ⟨wanted_yes rfl rfl h160, ?_⟩
          exact grow_lt rfl h164 rfl rfl
        · intro ac w1 hG hin
          have h163 : ac.eval (.tmp 163) = .bool (decide (r < 0)) := slot_in (hin 163 (by decide)) rfl
          have h165 : ac.eval (.tmp 165) = .bool (decide (a < 0)) := slot_in (hin 165 (by decide)) rfl
          have h160 : ac.eval (.tmp 160) = .bool false := slot_in (hin 160 (by decide)) rfl
          clear hin
          refine .inl ⟨wanted_yes rfl rfl h160, ?_⟩
          exact grow_eqbool rfl Tryd.underlying4 h163 h165 (congrArg Value.bool hsign)
        · intro ac w1 hG hin
          have h160 : ac.eval (.tmp 160) = .bool false := slot_in (hin 160 (by decide)) rfl
          have h166 : ac.eval (.tmp 166) = .bool true := slot_in (hin 166 (by decide)) rfl
          have h156 : ac.eval (.tmp 156) = .bool true := slot_in (hin 156 (by decide)) rfl
          clear hin
          exact .inl ⟨wanted_yes rfl rfl h156, grow_pick rfl h160 h166⟩
        · intro ac w1 hG hin
          have h156 : ac.eval (.tmp 156) = .bool true := slot_in (hin 156 (by decide)) rfl
          have h167 : ac.eval (.tmp 167) = .bool true := slot_in (hin 167 (by decide)) rfl
          clear hin
          exact .inl ⟨wanted_none rfl, grow_pick rfl h156 h167⟩
        · intro ac w1 hG hin
          have h168 : ac.eval (.tmp 168) = .bool true := slot_in (hin 168 (by decide)) rfl
          clear hin
          exact .inl ⟨wanted_none rfl, grow_move rfl h168⟩
        · intro ac w1 hG hin
          have h25 : ac.eval (.tmp 25) = .int .i64 0 := slot_out (hin 25 (by decide)) rfl
          have h169 : ac.eval (.tmp 169) = .bool true := slot_in (hin 169 (by decide)) rfl
          clear hin
          exact .inl ⟨wanted_yes rfl rfl h169, grow_move rfl h25⟩
        · intro ac w1 hG hin
          have h170 : ac.eval (.tmp 170) = .int .i64 0 := slot_in (hin 170 (by decide)) rfl
          have h169 : ac.eval (.tmp 169) = .bool true := slot_in (hin 169 (by decide)) rfl
          clear hin
          refine .inl ⟨wanted_yes rfl rfl h169, ?_⟩
          exact grow_eqint rfl h170 rfl rfl
        · intro ac w1 hG hin
          have h169 : ac.eval (.tmp 169) = .bool true := slot_in (hin 169 (by decide)) rfl
          have h171 : ac.eval (.tmp 171) = .bool true := slot_in (hin 171 (by decide)) rfl
          clear hin
          exact .inl ⟨wanted_none rfl, grow_pick rfl h169 h171⟩
        · intro ac w1 hG hin
          have h172 : ac.eval (.tmp 172) = .bool true := slot_in (hin 172 (by decide)) rfl
          clear hin
          exact .inl ⟨wanted_none rfl, grow_move rfl h172⟩
        · intro ac w1 hG hin
          have h27 : ac.eval (.tmp 27) = .int .i64 0 := slot_out (hin 27 (by decide)) rfl
          have h173 : ac.eval (.tmp 173) = .bool true := slot_in (hin 173 (by decide)) rfl
          clear hin
          exact .inl ⟨wanted_yes rfl rfl h173, grow_move rfl h27⟩
        · intro ac w1 hG hin
          have h174 : ac.eval (.tmp 174) = .int .i64 0 := slot_in (hin 174 (by decide)) rfl
          have h173 : ac.eval (.tmp 173) = .bool true := slot_in (hin 173 (by decide)) rfl
          clear hin
          refine .inl ⟨wanted_yes rfl rfl h173, ?_⟩
          exact grow_eqint rfl h174 rfl rfl
        · intro ac w1 hG hin
          have h173 : ac.eval (.tmp 173) = .bool true := slot_in (hin 173 (by decide)) rfl
          have h175 : ac.eval (.tmp 175) = .bool true := slot_in (hin 175 (by decide)) rfl
          clear hin
          exact .inl ⟨wanted_none rfl, grow_pick rfl h173 h175⟩
        · intro ac w1 hG hin
          have h176 : ac.eval (.tmp 176) = .bool true := slot_in (hin 176 (by decide)) rfl
          clear hin
          exact .inl ⟨wanted_none rfl, grow_move rfl h176⟩
        · intro ac w1 hG hin
          have h24 : ac.eval (.tmp 24) = .pointer (some ⟨x25.heap.size, 0, none⟩) := slot_out (hin 24 (by decide)) rfl
          have h177 : ac.eval (.tmp 177) = .bool true := slot_in (hin 177 (by decide)) rfl
          clear hin
          refine .inl ⟨wanted_yes rfl rfl h177, ?_⟩
          exact grow_load rfl (B11.out.mono hG) h24 rfl
        · intro ac w1 hG hin
          have h26 : ac.eval (.tmp 26) = .pointer (some ⟨x26.heap.size, 0, none⟩) := slot_out (hin 26 (by decide)) rfl
          have h177 : ac.eval (.tmp 177) = .bool true := slot_in (hin 177 (by decide)) rfl
          clear hin
          refine .inl ⟨wanted_yes rfl rfl h177, ?_⟩
          exact grow_load rfl (B12.out.mono hG) h26 rfl
        · intro ac w1 hG hin
          have h179 : ac.eval (.tmp 179) = V 2 g E := slot_in (hin 179 (by decide)) rfl
          have h177 : ac.eval (.tmp 177) = .bool true := slot_in (hin 177 (by decide)) rfl
          clear hin
          refine .inl ⟨wanted_yes rfl rfl h177, ?_⟩
          exact grow_call Tryd.call13 #[.string ⟨#[33]⟩, V 2 g E] (by simp only [List.map_toArray, List.map_cons, List.map_nil, h179]; rfl) ((not_any hn _).mono (by rintro e w2 ⟨rfl, hg⟩; exact ⟨_, rfl, hg, rfl⟩))
        · intro ac w1 hG hin
          have h178 : ac.eval (.tmp 178) = V 2 l E := slot_in (hin 178 (by decide)) rfl
          have h180 : ac.eval (.tmp 180) = V 2 l E := slot_in (hin 180 (by decide)) rfl
          have h177 : ac.eval (.tmp 177) = .bool true := slot_in (hin 177 (by decide)) rfl
          clear hin
          refine .inl ⟨wanted_yes rfl rfl h177, ?_⟩
          exact grow_eqV rfl h178 h180 (congrArg Value.bool (by simp [sameV]))
        · intro ac w1 hG hin
          have h177 : ac.eval (.tmp 177) = .bool true := slot_in (hin 177 (by decide)) rfl
          have h181 : ac.eval (.tmp 181) = .bool true := slot_in (hin 181 (by decide)) rfl
          clear hin
          exact .inl ⟨wanted_none rfl, grow_pick rfl h177 h181⟩
        · intro ac w1 hG hin
          have h182 : ac.eval (.tmp 182) = .bool true := slot_in (hin 182 (by decide)) rfl
          clear hin
          exact .inl ⟨wanted_none rfl, grow_move rfl h182⟩
        · intro ac w1 hG hin
          have h24 : ac.eval (.tmp 24) = .pointer (some ⟨x25.heap.size, 0, none⟩) := slot_out (hin 24 (by decide)) rfl
          have h183 : ac.eval (.tmp 183) = .bool true := slot_in (hin 183 (by decide)) rfl
          clear hin
          refine .inl ⟨wanted_yes rfl rfl h183, ?_⟩
          exact grow_addr rfl (by decide) h24 rfl
        · intro ac w1 hG hin
          have h184 : ac.eval (.tmp 184) = .pointer (some ⟨x25.heap.size, 1, none⟩) := slot_in (hin 184 (by decide)) rfl
          have h183 : ac.eval (.tmp 183) = .bool true := slot_in (hin 183 (by decide)) rfl
          clear hin
          refine .inl ⟨wanted_yes rfl rfl h183, ?_⟩
          exact grow_load1 rfl (B11.out.mono hG) h184 rfl
        · intro ac w1 hG hin
          have h185 : ac.eval (.tmp 185) = .int .i64 l := slot_in (hin 185 (by decide)) rfl
          have h183 : ac.eval (.tmp 183) = .bool true := slot_in (hin 183 (by decide)) rfl
          clear hin
          refine .inl ⟨wanted_yes rfl rfl h183, ?_⟩
          exact grow_eqint rfl h185 rfl rfl
        · intro ac w1 hG hin
          have h0 : ac.eval (.tmp 0) = .int .i64 a := slot_out (hin 0 (by decide)) rfl
          have h183 : ac.eval (.tmp 183) = .bool true := slot_in (hin 183 (by decide)) rfl
          clear hin
          exact .inl ⟨wanted_yes rfl rfl h183, grow_move rfl h0⟩
        · intro ac w1 hG hin
          have h1 : ac.eval (.tmp 1) = .int .i64 b := slot_out (hin 1 (by decide)) rfl
          have h183 : ac.eval (.tmp 183) = .bool true := slot_in (hin 183 (by decide)) rfl
          clear hin
          exact .inl ⟨wanted_yes rfl rfl h183, grow_move rfl h1⟩
        · intro ac w1 hG hin
          have h187 : ac.eval (.tmp 187) = .int .i64 a := slot_in (hin 187 (by decide)) rfl
          have h188 : ac.eval (.tmp 188) = .int .i64 b := slot_in (hin 188 (by decide)) rfl
          have h183 : ac.eval (.tmp 183) = .bool true := slot_in (hin 183 (by decide)) rfl
          clear hin
          refine .inl ⟨wanted_yes rfl rfl h183, ?_⟩
          exact grow_lt rfl h187 h188 rfl
        · intro ac w1 hG hin
          have h186 : ac.eval (.tmp 186) = .bool (l == 1) := slot_in (hin 186 (by decide)) rfl
          have h189 : ac.eval (.tmp 189) = .bool (decide (a < b)) := slot_in (hin 189 (by decide)) rfl
          have h183 : ac.eval (.tmp 183) = .bool true := slot_in (hin 183 (by decide)) rfl
          clear hin
          refine .inl ⟨wanted_yes rfl rfl h183, ?_⟩
          exact grow_eqbool rfl Tryd.underlying4 h186 h189 (congrArg Value.bool hless)
        · intro ac w1 hG hin
          have h183 : ac.eval (.tmp 183) = .bool true := slot_in (hin 183 (by decide)) rfl
          have h190 : ac.eval (.tmp 190) = .bool true := slot_in (hin 190 (by decide)) rfl
          clear hin
          exact .inl ⟨wanted_none rfl, grow_pick rfl h183 h190⟩
        · intro ac w1 hG hin
          have h191 : ac.eval (.tmp 191) = .bool true := slot_in (hin 191 (by decide)) rfl
          clear hin
          exact .inl ⟨wanted_none rfl, grow_assign rfl h191⟩
        · intro sl w4 hG hin hs
          have f4 : sl 4 = .bool true := (hs 4 (by decide)).symm.trans (slot_in (hin 4) rfl)
          clear hin hs
          rw [show List.range 192 = [0, 1, 2, 3, 4, 5, 6, 7, 8, 9, 10, 11, 12, 13, 14, 15, 16, 17, 18, 19, 20, 21, 22, 23, 24, 25, 26, 27, 28, 29, 30, 31, 32, 33, 34, 35, 36, 37, 38, 39, 40, 41, 42, 43, 44, 45, 46, 47, 48, 49, 50, 51, 52, 53, 54, 55, 56, 57, 58, 59, 60, 61, 62, 63, 64, 65, 66, 67, 68, 69, 70, 71, 72, 73, 74, 75, 76, 77, 78, 79, 80, 81, 82, 83, 84, 85, 86, 87, 88, 89, 90, 91, 92, 93, 94, 95, 96, 97, 98, 99, 100, 101, 102, 103, 104, 105, 106, 107, 108, 109, 110, 111, 112, 113, 114, 115, 116, 117, 118, 119, 120, 121, 122, 123, 124, 125, 126, 127, 128, 129, 130, 131, 132, 133, 134, 135, 136, 137, 138, 139, 140, 141, 142, 143, 144, 145, 146, 147, 148, 149, 150, 151, 152, 153, 154, 155, 156, 157, 158, 159, 160, 161, 162, 163, 164, 165, 166, 167, 168, 169, 170, 171, 172, 173, 174, 175, 176, 177, 178, 179, 180, 181, 182, 183, 184, 185, 186, 187, 188, 189, 190, 191] from rfl]
          simp only [List.map_cons, List.map_nil]
          rw [f4]
          go_wp2_with fail
          go_ret
          exact ⟨rfl, HG.out.trans hG⟩)

theorem divides_law (a b : Int) (w : World) (h : -9223372036854775808 ≤ a ∧ a ≤ 9223372036854775807) : Calls Tryd.prog 5 #[.int .i64 a, .int .i64 b] w fun e w' => e = .returned (.bool true) ∧ G w w' := by
  have hn : one (!decide (one (decide (b ≤ a)) = 1)) = one (decide (a < b)) := by
    by_cases h : b ≤ a
    · have h2 : ¬ a < b := by omega
      simp [one, h, h2]
    · have h2 : a < b := by omega
      simp [one, h, h2]
  have hless : ((one (decide (a < b)) == 1) == decide (a < b)) = true := by
    by_cases h : a < b <;> simp [one, h]
  by_cases hb : b = 0
  · exact divides_zero a b _ _ w hb rfl (Dv.back b h) (Dv.none a) rfl (Dv.neg a)
  · by_cases hz : a.tmod b = 0
    · exact divides_rest a b _ _ _ _ _ _ _ w hb rfl (Dv.back b h) (Dv.none a) rfl (Dv.neg a) rfl rfl rfl (Dv.whole b h) rfl rfl hn hless (hid hz)
    · refine divides_more a b _ _ _ _ _ _ _ w hb rfl (Dv.back b h) (Dv.none a) rfl (Dv.neg a) rfl rfl rfl (Dv.whole b h) rfl rfl hn hless (hid hz) ?_
      rcases Dv.rest a b with h9 | h9
      · exact absurd h9 hz
      · by_cases k : a.tmod b < 0
        · simp [k, h9.1 k]
        · simp [k, mt h9.2 k]
end Bx
end Go.Proofs.YtlmmpcoakemooaaDoor
