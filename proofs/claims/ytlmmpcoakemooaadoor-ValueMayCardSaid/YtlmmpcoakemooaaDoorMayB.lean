/-
  Ways through ValueMay: it returns true, and writes nothing that was there. No conditions.
-/
import Derived.Test.YtlmmpcoakemooaaDoorMayC
namespace Go.Proofs.YtlmmpcoakemooaaDoor
open Go.RowKit

namespace Bx

set_option maxRecDepth 100000 in
set_option maxHeartbeats 8000000 in
theorem may_slash (t1 n1 : Int) (s1 s2 c1 : ByteArray) (z : Int) (k : Nat) (w : World) (S : ByteArray) (h1 : cut60 s1 = c1) (h2 : cut60 s2 = E) (hz : z.tmod 13 = k) (hz0 : 0 ≤ z) (hz1 : z ≤ 255) (hk : k < 13) (hS : signOf k = S) (m1 : mayB t1 n1 c1 = true) (m2 : mayB 1 0 E = true) (z1 : c1.size ≤ 60) (z2 : E.size ≤ 60) (hR : binR S t1 n1 c1 1 0 E = ⟨0, 0, E, 1⟩) (o1 : (S.toList == [47]) = true) :
    Calls Tryd.prog 7 #[V t1 n1 s1, V 1 0 s2, .int .u8 z] w fun e w' => e = .returned (.bool true) ∧ G w w' := by
  unfold V
  go_enter Tryd.func7, Tryd.ntmps7
  go_wp2_with fail
  refine (shown_any _).mono ?_
  rintro e x1 ⟨rfl, g1⟩
  have B1 := hid (((At.alloc w t1 n1 s1).more (.cells #[.int .i64 1, .int .i64 0, .string s2] 24)).mono g1)
  have B2 := hid (At.after2 g1)
  have HG := hid ((((G.refl w).alloc (.cells #[.int .i64 t1, .int .i64 n1, .string s1] 24)).alloc (.cells #[.int .i64 1, .int .i64 0, .string s2] 24)).trans g1)
  clear g1
  obtain ⟨l1, p1, q1, r1, f1⟩ := B1.out
  obtain ⟨l2, p2, q2, r2, f2⟩ := B2.out
  go_wp2_with fail
  refine (short_to h1 _ _ _).mono ?_
  rintro e x2 ⟨rfl, g2⟩
  (try simp only [V])
  clear l1 p1 q1 r1 f1
  clear l2 p2 q2 r2 f2
  replace B1 := hid (B1.out.mono g2)
  replace B2 := hid (B2.out.mono g2)
  replace HG := hid (HG.out.trans g2)
  clear g2
  obtain ⟨l1, p1, q1, r1, f1⟩ := B1.out
  obtain ⟨l2, p2, q2, r2, f2⟩ := B2.out
  go_upto_region 3 with (fail)
  clear l1 p1 q1 r1 f1
  clear l2 p2 q2 r2 f2
  have D1 := B1.out.set t1 n1 c1
  have D2 := Bx.keep B2.out (c := w.heap.size) (by simp) t1 n1 c1
  have CG := G.set (G.set (G.set HG.out (p := ⟨w.heap.size, 0, none⟩) (by simp) (.int .i64 t1)) (p := ⟨w.heap.size, 1, none⟩) (by simp) (.int .i64 n1)) (p := ⟨w.heap.size, 2, none⟩) (by simp) (.string c1)
  generalize ((x2.setCell ⟨w.heap.size, 0, none⟩ (.int .i64 t1)).setCell ⟨w.heap.size, 1, none⟩ (.int .i64 n1)).setCell ⟨w.heap.size, 2, none⟩ (.string c1) = y1 at D1 D2 CG ⊢
  replace B1 := hid D1
  replace B2 := hid D2
  replace HG := hid CG
  clear CG D1 D2
  obtain ⟨l1, p1, q1, r1, f1⟩ := B1.out
  obtain ⟨l2, p2, q2, r2, f2⟩ := B2.out
  go_wp2_with fail
  refine (short_to h2 _ _ _).mono ?_
  rintro e x3 ⟨rfl, g3⟩
  (try simp only [V])
  clear l1 p1 q1 r1 f1
  clear l2 p2 q2 r2 f2
  replace B1 := hid (B1.out.mono g3)
  replace B2 := hid (B2.out.mono g3)
  replace HG := hid (HG.out.trans g3)
  clear g3
  obtain ⟨l1, p1, q1, r1, f1⟩ := B1.out
  obtain ⟨l2, p2, q2, r2, f2⟩ := B2.out
  go_upto_region 4 with (fail)
  clear l1 p1 q1 r1 f1
  clear l2 p2 q2 r2 f2
  have D2 := B2.out.set 1 0 E
  have D1 := Bx.keep B1.out (c := w.heap.size + 1) (by simp) 1 0 E
  have CG := G.set (G.set (G.set HG.out (p := ⟨w.heap.size + 1, 0, none⟩) (by simp) (.int .i64 1)) (p := ⟨w.heap.size + 1, 1, none⟩) (by simp) (.int .i64 0)) (p := ⟨w.heap.size + 1, 2, none⟩) (by simp) (.string E)
  generalize ((x3.setCell ⟨w.heap.size + 1, 0, none⟩ (.int .i64 1)).setCell ⟨w.heap.size + 1, 1, none⟩ (.int .i64 0)).setCell ⟨w.heap.size + 1, 2, none⟩ (.string E) = y2 at D1 D2 CG ⊢
  replace B1 := hid D1
  replace B2 := hid D2
  replace HG := hid CG
  clear CG D1 D2
  obtain ⟨l1, p1, q1, r1, f1⟩ := B1.out
  obtain ⟨l2, p2, q2, r2, f2⟩ := B2.out
  go_wp2_with fail
  refine (signs_any _).mono ?_
  rintro e x4 ⟨sb, rfl, g4, hs⟩
  clear l1 p1 q1 r1 f1
  clear l2 p2 q2 r2 f2
  replace B1 := hid (B1.out.mono g4)
  replace B2 := hid (B2.out.mono g4)
  replace HG := hid (HG.out.trans g4)
  clear g4
  have hs0 := hs k hk
  clear hs
  rw [hS] at hs0
  obtain ⟨l1, p1, q1, r1, f1⟩ := B1.out
  obtain ⟨l2, p2, q2, r2, f2⟩ := B2.out
  go_wp2_with fail
  refine (may_to m1 _).mono ?_
  rintro e x5 ⟨rfl, g5⟩
  (try simp only [V])
  clear l1 p1 q1 r1 f1
  clear l2 p2 q2 r2 f2
  replace B1 := hid (B1.out.mono g5)
  replace B2 := hid (B2.out.mono g5)
  replace HG := hid (HG.out.trans g5)
  clear g5
  obtain ⟨l1, p1, q1, r1, f1⟩ := B1.out
  obtain ⟨l2, p2, q2, r2, f2⟩ := B2.out
  go_wp2_with fail
  refine (may_to m2 _).mono ?_
  rintro e x6 ⟨rfl, g6⟩
  (try simp only [V])
  clear l1 p1 q1 r1 f1
  clear l2 p2 q2 r2 f2
  replace B1 := hid (B1.out.mono g6)
  replace B2 := hid (B2.out.mono g6)
  replace HG := hid (HG.out.trans g6)
  clear g6
  obtain ⟨l1, p1, q1, r1, f1⟩ := B1.out
  obtain ⟨l2, p2, q2, r2, f2⟩ := B2.out
  clear hs0
  go_wp2_with fail
  refine (bin_to hR z1 z2 _).mono ?_
  rintro e7 x7 ⟨rfl, g7⟩
  (try simp only [V])
  clear l1 p1 q1 r1 f1
  clear l2 p2 q2 r2 f2
  replace B1 := hid (B1.out.mono g7)
  replace B2 := hid (B2.out.mono g7)
  replace HG := hid (HG.out.trans g7)
  clear g7
  obtain ⟨l1, p1, q1, r1, f1⟩ := B1.out
  obtain ⟨l2, p2, q2, r2, f2⟩ := B2.out
  go_upto_region 9 with (fail)
  clear l1 p1 q1 r1 f1
  clear l2 p2 q2 r2 f2
  replace B1 := hid (B1.out.more (.cells #[.int .i64 0, .int .i64 0, .string E] 24))
  replace B2 := hid (B2.out.more (.cells #[.int .i64 0, .int .i64 0, .string E] 24))
  have B3 := hid (At.alloc x7 0 0 E)
  replace HG := hid (HG.out.alloc (.cells #[.int .i64 0, .int .i64 0, .string E] 24))
  obtain ⟨l1, p1, q1, r1, f1⟩ := B1.out
  obtain ⟨l2, p2, q2, r2, f2⟩ := B2.out
  obtain ⟨l3, p3, q3, r3, f3⟩ := B3.out
  refine wp_region_grows (says [Say.is (.int .i64 1), Say.is (.bool true), Say.is (.bool true), Say.is (.string S), Say.is (.bool true), Say.is (.bool true), Say.is (undef), Say.is (undef), Say.is (.bool true), Say.is (.bool true), Say.is (.bool true), Say.is (V 1 0 E), Say.is (V 1 0 E), Say.is (.bool true), Say.is (.bool true), Say.is (.bool true)]) 155 (by kernel_rfl) (by kernel_rfl) rfl (says_mono _) (allSteps_take ⟨?_, ?_, ?_, ?_, ?_, ?_, ?_, ?_, ?_, ?_, ?_, ?_, ?_, ?_, ?_, ?_, trivial⟩) ?_
  · intro a w1 hG hin
    have h10 : a.eval (.tmp 10) = .int .i64 1 := slot_out (hin 10 (by decide)) rfl
    clear hin
    exact .inl ⟨wanted_none rfl, grow_move rfl h10⟩
  · intro a w1 hG hin
    have h43 : a.eval (.tmp 43) = .int .i64 1 := slot_in (hin 43 (by decide)) rfl
    clear hin
    refine .inl ⟨wanted_none rfl, ?_⟩
    exact grow_eqint rfl h43 rfl rfl
  · intro a w1 hG hin
    have h44 : a.eval (.tmp 44) = .bool true := slot_in (hin 44 (by decide)) rfl
    clear hin
    exact .inl ⟨wanted_none rfl, grow_move rfl h44⟩
  · intro a w1 hG hin
    have h8 : a.eval (.tmp 8) = .string S := slot_out (hin 8 (by decide)) rfl
    have h45 : a.eval (.tmp 45) = .bool true := slot_in (hin 45 (by decide)) rfl
    clear hin
    exact .inl ⟨wanted_yes rfl rfl h45, grow_move rfl h8⟩
  · intro a w1 hG hin
    have h46 : a.eval (.tmp 46) = .string S := slot_in (hin 46 (by decide)) rfl
    have h45 : a.eval (.tmp 45) = .bool true := slot_in (hin 45 (by decide)) rfl
    clear hin
    refine .inl ⟨wanted_yes rfl rfl h45, ?_⟩
    exact grow_eqtext rfl h46 rfl (congrArg Value.bool (by simpa [go_sem] using o1))
  · intro a w1 hG hin
    have h47 : a.eval (.tmp 47) = .bool true := slot_in (hin 47 (by decide)) rfl
    have h45 : a.eval (.tmp 45) = .bool true := slot_in (hin 45 (by decide)) rfl
    clear hin
    exact .inl ⟨wanted_yes rfl rfl h45, grow_move rfl h47⟩
  · intro a w1 hG hin
    have h8 : a.eval (.tmp 8) = .string S := slot_out (hin 8 (by decide)) rfl
    have h48 : a.eval (.tmp 48) = .bool true := slot_in (hin 48 (by decide)) rfl
    clear hin
    exact .inr ⟨wanted_no rfl rfl h48, fun _ _ => rfl⟩
  · intro a w1 hG hin
    have h49 : a.eval (.tmp 49) = undef := slot_in (hin 49 (by decide)) rfl
    have h48 : a.eval (.tmp 48) = .bool true := slot_in (hin 48 (by decide)) rfl
    clear hin
    exact .inr ⟨wanted_no rfl rfl h48, fun _ _ => rfl⟩
  · intro a w1 hG hin
    have h48 : a.eval (.tmp 48) = .bool true := slot_in (hin 48 (by decide)) rfl
    have h50 : a.eval (.tmp 50) = undef := slot_in (hin 50 (by decide)) rfl
    have h45 : a.eval (.tmp 45) = .bool true := slot_in (hin 45 (by decide)) rfl
    clear hin
    exact .inl ⟨wanted_yes rfl rfl h45, grow_pick rfl h48 rfl⟩
  · intro a w1 hG hin
    have h45 : a.eval (.tmp 45) = .bool true := slot_in (hin 45 (by decide)) rfl
    have h51 : a.eval (.tmp 51) = .bool true := slot_in (hin 51 (by decide)) rfl
    clear hin
    exact .inl ⟨wanted_none rfl, grow_pick rfl h45 h51⟩
  · intro a w1 hG hin
    have h52 : a.eval (.tmp 52) = .bool true := slot_in (hin 52 (by decide)) rfl
    clear hin
    exact .inl ⟨wanted_none rfl, grow_move rfl h52⟩
  · intro a w1 hG hin
    have h4 : a.eval (.tmp 4) = .pointer (some ⟨w.heap.size + 1, 0, none⟩) := slot_out (hin 4 (by decide)) rfl
    have h53 : a.eval (.tmp 53) = .bool true := slot_in (hin 53 (by decide)) rfl
    clear hin
    refine .inl ⟨wanted_yes rfl rfl h53, ?_⟩
    exact grow_load rfl (B2.out.mono hG) h4 rfl
  · intro a w1 hG hin
    have h53 : a.eval (.tmp 53) = .bool true := slot_in (hin 53 (by decide)) rfl
    clear hin
    exact .inl ⟨wanted_yes rfl rfl h53, grow_call Tryd.call11 #[a.eval (.const (.int .i64 0))] (by simp only [List.map_toArray, List.map_cons, List.map_nil]) ((int_any 0 _).mono (by rintro e w2 ⟨rfl, hg⟩; exact ⟨_, rfl, hg, rfl⟩))⟩
  · intro a w1 hG hin
    have h54 : a.eval (.tmp 54) = V 1 0 E := slot_in (hin 54 (by decide)) rfl
    have h55 : a.eval (.tmp 55) = V 1 0 E := slot_in (hin 55 (by decide)) rfl
    have h53 : a.eval (.tmp 53) = .bool true := slot_in (hin 53 (by decide)) rfl
    clear hin
    refine .inl ⟨wanted_yes rfl rfl h53, ?_⟩
    exact grow_eqV rfl h54 h55 (congrArg Value.bool (by simp [sameV]))
  · intro a w1 hG hin
    have h53 : a.eval (.tmp 53) = .bool true := slot_in (hin 53 (by decide)) rfl
    have h56 : a.eval (.tmp 56) = .bool true := slot_in (hin 56 (by decide)) rfl
    clear hin
    exact .inl ⟨wanted_none rfl, grow_pick rfl h53 h56⟩
  · intro a w1 hG hin
    have h57 : a.eval (.tmp 57) = .bool true := slot_in (hin 57 (by decide)) rfl
    clear hin
    exact .inl ⟨wanted_none rfl, grow_assign rfl h57⟩
  · intro s w9 hG hin hs
    have f3 : s 3 = .pointer (some ⟨w.heap.size, 0, none⟩) := (hs 3 (by decide)).symm.trans (slot_out (hin 3) rfl)
    have f4 : s 4 = .pointer (some ⟨w.heap.size + 1, 0, none⟩) := (hs 4 (by decide)).symm.trans (slot_out (hin 4) rfl)
    have f6 : s 6 = .bool false := (hs 6 (by decide)).symm.trans (slot_out (hin 6) rfl)
    have f7 : s 7 = .bool true := (hs 7 (by decide)).symm.trans (slot_out (hin 7) rfl)
    have f8 : s 8 = .string S := (hs 8 (by decide)).symm.trans (slot_out (hin 8) rfl)
    have f9 : s 9 = .pointer (some ⟨x7.heap.size, 0, none⟩) := (hs 9 (by decide)).symm.trans (slot_out (hin 9) rfl)
    have f10 : s 10 = .int .i64 1 := (hs 10 (by decide)).symm.trans (slot_out (hin 10) rfl)
    have f12 : s 12 = undef := (hs 12 (by decide)).symm.trans (slot_out (hin 12) rfl)
    have f13 : s 13 = undef := (hs 13 (by decide)).symm.trans (slot_out (hin 13) rfl)
    have f11 : s 11 = .bool true := (hs 11 (by decide)).symm.trans (slot_in (hin 11) rfl)
    clear hin hs
    rw [show List.range 155 = [0, 1, 2, 3, 4, 5, 6, 7, 8, 9, 10, 11, 12, 13, 14, 15, 16, 17, 18, 19, 20, 21, 22, 23, 24, 25, 26, 27, 28, 29, 30, 31, 32, 33, 34, 35, 36, 37, 38, 39, 40, 41, 42, 43, 44, 45, 46, 47, 48, 49, 50, 51, 52, 53, 54, 55, 56, 57, 58, 59, 60, 61, 62, 63, 64, 65, 66, 67, 68, 69, 70, 71, 72, 73, 74, 75, 76, 77, 78, 79, 80, 81, 82, 83, 84, 85, 86, 87, 88, 89, 90, 91, 92, 93, 94, 95, 96, 97, 98, 99, 100, 101, 102, 103, 104, 105, 106, 107, 108, 109, 110, 111, 112, 113, 114, 115, 116, 117, 118, 119, 120, 121, 122, 123, 124, 125, 126, 127, 128, 129, 130, 131, 132, 133, 134, 135, 136, 137, 138, 139, 140, 141, 142, 143, 144, 145, 146, 147, 148, 149, 150, 151, 152, 153, 154] from rfl]
    simp only [List.map_cons, List.map_nil]
    rw [f3, f4, f6, f7, f8, f9, f10, f12, f13, f11]
    replace B1 := hid (B1.out.mono hG)
    replace B2 := hid (B2.out.mono hG)
    replace B3 := hid (B3.out.mono hG)
    replace HG := hid (HG.out.trans hG)
    obtain ⟨l1, p1, q1, r1, f1⟩ := B1.out
    obtain ⟨l2, p2, q2, r2, f2⟩ := B2.out
    obtain ⟨l3, p3, q3, r3, f3⟩ := B3.out
    go_wp2_with fail
    go_ret
    exact ⟨rfl, HG.out⟩

set_option maxRecDepth 100000 in
set_option maxHeartbeats 8000000 in
theorem may_rem (t1 n1 : Int) (s1 s2 c1 : ByteArray) (z : Int) (k : Nat) (w : World) (S : ByteArray) (h1 : cut60 s1 = c1) (h2 : cut60 s2 = E) (hz : z.tmod 13 = k) (hz0 : 0 ≤ z) (hz1 : z ≤ 255) (hk : k < 13) (hS : signOf k = S) (m1 : mayB t1 n1 c1 = true) (m2 : mayB 1 0 E = true) (z1 : c1.size ≤ 60) (z2 : E.size ≤ 60) (hR : binR S t1 n1 c1 1 0 E = ⟨0, 0, E, 1⟩) (o1 : (S.toList == [47]) = false) (o2 : (S.toList == [37]) = true) :
    Calls Tryd.prog 7 #[V t1 n1 s1, V 1 0 s2, .int .u8 z] w fun e w' => e = .returned (.bool true) ∧ G w w' := by
  unfold V
  go_enter Tryd.func7, Tryd.ntmps7
  go_wp2_with fail
  refine (shown_any _).mono ?_
  rintro e x1 ⟨rfl, g1⟩
  have B1 := hid (((At.alloc w t1 n1 s1).more (.cells #[.int .i64 1, .int .i64 0, .string s2] 24)).mono g1)
  have B2 := hid (At.after2 g1)
  have HG := hid ((((G.refl w).alloc (.cells #[.int .i64 t1, .int .i64 n1, .string s1] 24)).alloc (.cells #[.int .i64 1, .int .i64 0, .string s2] 24)).trans g1)
  clear g1
  obtain ⟨l1, p1, q1, r1, f1⟩ := B1.out
  obtain ⟨l2, p2, q2, r2, f2⟩ := B2.out
  go_wp2_with fail
  refine (short_to h1 _ _ _).mono ?_
  rintro e x2 ⟨rfl, g2⟩
  (try simp only [V])
  clear l1 p1 q1 r1 f1
  clear l2 p2 q2 r2 f2
  replace B1 := hid (B1.out.mono g2)
  replace B2 := hid (B2.out.mono g2)
  replace HG := hid (HG.out.trans g2)
  clear g2
  obtain ⟨l1, p1, q1, r1, f1⟩ := B1.out
  obtain ⟨l2, p2, q2, r2, f2⟩ := B2.out
  go_upto_region 3 with (fail)
  clear l1 p1 q1 r1 f1
  clear l2 p2 q2 r2 f2
  have D1 := B1.out.set t1 n1 c1
  have D2 := Bx.keep B2.out (c := w.heap.size) (by simp) t1 n1 c1
  have CG := G.set (G.set (G.set HG.out (p := ⟨w.heap.size, 0, none⟩) (by simp) (.int .i64 t1)) (p := ⟨w.heap.size, 1, none⟩) (by simp) (.int .i64 n1)) (p := ⟨w.heap.size, 2, none⟩) (by simp) (.string c1)
  generalize ((x2.setCell ⟨w.heap.size, 0, none⟩ (.int .i64 t1)).setCell ⟨w.heap.size, 1, none⟩ (.int .i64 n1)).setCell ⟨w.heap.size, 2, none⟩ (.string c1) = y1 at D1 D2 CG ⊢
  replace B1 := hid D1
  replace B2 := hid D2
  replace HG := hid CG
  clear CG D1 D2
  obtain ⟨l1, p1, q1, r1, f1⟩ := B1.out
  obtain ⟨l2, p2, q2, r2, f2⟩ := B2.out
  go_wp2_with fail
  refine (short_to h2 _ _ _).mono ?_
  rintro e x3 ⟨rfl, g3⟩
  (try simp only [V])
  clear l1 p1 q1 r1 f1
  clear l2 p2 q2 r2 f2
  replace B1 := hid (B1.out.mono g3)
  replace B2 := hid (B2.out.mono g3)
  replace HG := hid (HG.out.trans g3)
  clear g3
  obtain ⟨l1, p1, q1, r1, f1⟩ := B1.out
  obtain ⟨l2, p2, q2, r2, f2⟩ := B2.out
  go_upto_region 4 with (fail)
  clear l1 p1 q1 r1 f1
  clear l2 p2 q2 r2 f2
  have D2 := B2.out.set 1 0 E
  have D1 := Bx.keep B1.out (c := w.heap.size + 1) (by simp) 1 0 E
  have CG := G.set (G.set (G.set HG.out (p := ⟨w.heap.size + 1, 0, none⟩) (by simp) (.int .i64 1)) (p := ⟨w.heap.size + 1, 1, none⟩) (by simp) (.int .i64 0)) (p := ⟨w.heap.size + 1, 2, none⟩) (by simp) (.string E)
  generalize ((x3.setCell ⟨w.heap.size + 1, 0, none⟩ (.int .i64 1)).setCell ⟨w.heap.size + 1, 1, none⟩ (.int .i64 0)).setCell ⟨w.heap.size + 1, 2, none⟩ (.string E) = y2 at D1 D2 CG ⊢
  replace B1 := hid D1
  replace B2 := hid D2
  replace HG := hid CG
  clear CG D1 D2
  obtain ⟨l1, p1, q1, r1, f1⟩ := B1.out
  obtain ⟨l2, p2, q2, r2, f2⟩ := B2.out
  go_wp2_with fail
  refine (signs_any _).mono ?_
  rintro e x4 ⟨sb, rfl, g4, hs⟩
  clear l1 p1 q1 r1 f1
  clear l2 p2 q2 r2 f2
  replace B1 := hid (B1.out.mono g4)
  replace B2 := hid (B2.out.mono g4)
  replace HG := hid (HG.out.trans g4)
  clear g4
  have hs0 := hs k hk
  clear hs
  rw [hS] at hs0
  obtain ⟨l1, p1, q1, r1, f1⟩ := B1.out
  obtain ⟨l2, p2, q2, r2, f2⟩ := B2.out
  go_wp2_with fail
  refine (may_to m1 _).mono ?_
  rintro e x5 ⟨rfl, g5⟩
  (try simp only [V])
  clear l1 p1 q1 r1 f1
  clear l2 p2 q2 r2 f2
  replace B1 := hid (B1.out.mono g5)
  replace B2 := hid (B2.out.mono g5)
  replace HG := hid (HG.out.trans g5)
  clear g5
  obtain ⟨l1, p1, q1, r1, f1⟩ := B1.out
  obtain ⟨l2, p2, q2, r2, f2⟩ := B2.out
  go_wp2_with fail
  refine (may_to m2 _).mono ?_
  rintro e x6 ⟨rfl, g6⟩
  (try simp only [V])
  clear l1 p1 q1 r1 f1
  clear l2 p2 q2 r2 f2
  replace B1 := hid (B1.out.mono g6)
  replace B2 := hid (B2.out.mono g6)
  replace HG := hid (HG.out.trans g6)
  clear g6
  obtain ⟨l1, p1, q1, r1, f1⟩ := B1.out
  obtain ⟨l2, p2, q2, r2, f2⟩ := B2.out
  clear hs0
  go_wp2_with fail
  refine (bin_to hR z1 z2 _).mono ?_
  rintro e7 x7 ⟨rfl, g7⟩
  (try simp only [V])
  clear l1 p1 q1 r1 f1
  clear l2 p2 q2 r2 f2
  replace B1 := hid (B1.out.mono g7)
  replace B2 := hid (B2.out.mono g7)
  replace HG := hid (HG.out.trans g7)
  clear g7
  obtain ⟨l1, p1, q1, r1, f1⟩ := B1.out
  obtain ⟨l2, p2, q2, r2, f2⟩ := B2.out
  go_upto_region 9 with (fail)
  clear l1 p1 q1 r1 f1
  clear l2 p2 q2 r2 f2
  replace B1 := hid (B1.out.more (.cells #[.int .i64 0, .int .i64 0, .string E] 24))
  replace B2 := hid (B2.out.more (.cells #[.int .i64 0, .int .i64 0, .string E] 24))
  have B3 := hid (At.alloc x7 0 0 E)
  replace HG := hid (HG.out.alloc (.cells #[.int .i64 0, .int .i64 0, .string E] 24))
  obtain ⟨l1, p1, q1, r1, f1⟩ := B1.out
  obtain ⟨l2, p2, q2, r2, f2⟩ := B2.out
  obtain ⟨l3, p3, q3, r3, f3⟩ := B3.out
  refine wp_region_grows (says [Say.is (.int .i64 1), Say.is (.bool true), Say.is (.bool true), Say.is (.string S), Say.is (.bool false), Say.is (.bool false), Say.is (.string S), Say.is (.bool true), Say.is (.bool true), Say.is (.bool true), Say.is (.bool true), Say.is (V 1 0 E), Say.is (V 1 0 E), Say.is (.bool true), Say.is (.bool true), Say.is (.bool true)]) 155 (by kernel_rfl) (by kernel_rfl) rfl (says_mono _) (allSteps_take ⟨?_, ?_, ?_, ?_, ?_, ?_, ?_, ?_, ?_, ?_, ?_, ?_, ?_, ?_, ?_, ?_, trivial⟩) ?_
  · intro a w1 hG hin
    have h10 : a.eval (.tmp 10) = .int .i64 1 := slot_out (hin 10 (by decide)) rfl
    clear hin
    exact .inl ⟨wanted_none rfl, grow_move rfl h10⟩
  · intro a w1 hG hin
    have h43 : a.eval (.tmp 43) = .int .i64 1 := slot_in (hin 43 (by decide)) rfl
    clear hin
    refine .inl ⟨wanted_none rfl, ?_⟩
    exact grow_eqint rfl h43 rfl rfl
  · intro a w1 hG hin
    have h44 : a.eval (.tmp 44) = .bool true := slot_in (hin 44 (by decide)) rfl
    clear hin
    exact .inl ⟨wanted_none rfl, grow_move rfl h44⟩
  · intro a w1 hG hin
    have h8 : a.eval (.tmp 8) = .string S := slot_out (hin 8 (by decide)) rfl
    have h45 : a.eval (.tmp 45) = .bool true := slot_in (hin 45 (by decide)) rfl
    clear hin
    exact .inl ⟨wanted_yes rfl rfl h45, grow_move rfl h8⟩
  · intro a w1 hG hin
    have h46 : a.eval (.tmp 46) = .string S := slot_in (hin 46 (by decide)) rfl
    have h45 : a.eval (.tmp 45) = .bool true := slot_in (hin 45 (by decide)) rfl
    clear hin
    refine .inl ⟨wanted_yes rfl rfl h45, ?_⟩
    exact grow_eqtext rfl h46 rfl (congrArg Value.bool (by simpa [go_sem] using o1))
  · intro a w1 hG hin
    have h47 : a.eval (.tmp 47) = .bool false := slot_in (hin 47 (by decide)) rfl
    have h45 : a.eval (.tmp 45) = .bool true := slot_in (hin 45 (by decide)) rfl
    clear hin
    exact .inl ⟨wanted_yes rfl rfl h45, grow_move rfl h47⟩
  · intro a w1 hG hin
    have h8 : a.eval (.tmp 8) = .string S := slot_out (hin 8 (by decide)) rfl
    have h48 : a.eval (.tmp 48) = .bool false := slot_in (hin 48 (by decide)) rfl
    clear hin
    exact .inl ⟨wanted_yes rfl rfl h48, grow_move rfl h8⟩
  · intro a w1 hG hin
    have h49 : a.eval (.tmp 49) = .string S := slot_in (hin 49 (by decide)) rfl
    have h48 : a.eval (.tmp 48) = .bool false := slot_in (hin 48 (by decide)) rfl
    clear hin
    refine .inl ⟨wanted_yes rfl rfl h48, ?_⟩
    exact grow_eqtext rfl h49 rfl (congrArg Value.bool (by simpa [go_sem] using o2))
  · intro a w1 hG hin
    have h48 : a.eval (.tmp 48) = .bool false := slot_in (hin 48 (by decide)) rfl
    have h50 : a.eval (.tmp 50) = .bool true := slot_in (hin 50 (by decide)) rfl
    have h45 : a.eval (.tmp 45) = .bool true := slot_in (hin 45 (by decide)) rfl
    clear hin
    exact .inl ⟨wanted_yes rfl rfl h45, grow_pick rfl h48 h50⟩
  · intro a w1 hG hin
    have h45 : a.eval (.tmp 45) = .bool true := slot_in (hin 45 (by decide)) rfl
    have h51 : a.eval (.tmp 51) = .bool true := slot_in (hin 51 (by decide)) rfl
    clear hin
    exact .inl ⟨wanted_none rfl, grow_pick rfl h45 h51⟩
  · intro a w1 hG hin
    have h52 : a.eval (.tmp 52) = .bool true := slot_in (hin 52 (by decide)) rfl
    clear hin
    exact .inl ⟨wanted_none rfl, grow_move rfl h52⟩
  · intro a w1 hG hin
    have h4 : a.eval (.tmp 4) = .pointer (some ⟨w.heap.size + 1, 0, none⟩) := slot_out (hin 4 (by decide)) rfl
    have h53 : a.eval (.tmp 53) = .bool true := slot_in (hin 53 (by decide)) rfl
    clear hin
    refine .inl ⟨wanted_yes rfl rfl h53, ?_⟩
    exact grow_load rfl (B2.out.mono hG) h4 rfl
  · intro a w1 hG hin
    have h53 : a.eval (.tmp 53) = .bool true := slot_in (hin 53 (by decide)) rfl
    clear hin
    exact .inl ⟨wanted_yes rfl rfl h53, grow_call Tryd.call11 #[a.eval (.const (.int .i64 0))] (by simp only [List.map_toArray, List.map_cons, List.map_nil]) ((int_any 0 _).mono (by rintro e w2 ⟨rfl, hg⟩; exact ⟨_, rfl, hg, rfl⟩))⟩
  · intro a w1 hG hin
    have h54 : a.eval (.tmp 54) = V 1 0 E := slot_in (hin 54 (by decide)) rfl
    have h55 : a.eval (.tmp 55) = V 1 0 E := slot_in (hin 55 (by decide)) rfl
    have h53 : a.eval (.tmp 53) = .bool true := slot_in (hin 53 (by decide)) rfl
    clear hin
    refine .inl ⟨wanted_yes rfl rfl h53, ?_⟩
    exact grow_eqV rfl h54 h55 (congrArg Value.bool (by simp [sameV]))
  · intro a w1 hG hin
    have h53 : a.eval (.tmp 53) = .bool true := slot_in (hin 53 (by decide)) rfl
    have h56 : a.eval (.tmp 56) = .bool true := slot_in (hin 56 (by decide)) rfl
    clear hin
    exact .inl ⟨wanted_none rfl, grow_pick rfl h53 h56⟩
  · intro a w1 hG hin
    have h57 : a.eval (.tmp 57) = .bool true := slot_in (hin 57 (by decide)) rfl
    clear hin
    exact .inl ⟨wanted_none rfl, grow_assign rfl h57⟩
  · intro s w9 hG hin hs
    have f3 : s 3 = .pointer (some ⟨w.heap.size, 0, none⟩) := (hs 3 (by decide)).symm.trans (slot_out (hin 3) rfl)
    have f4 : s 4 = .pointer (some ⟨w.heap.size + 1, 0, none⟩) := (hs 4 (by decide)).symm.trans (slot_out (hin 4) rfl)
    have f6 : s 6 = .bool false := (hs 6 (by decide)).symm.trans (slot_out (hin 6) rfl)
    have f7 : s 7 = .bool true := (hs 7 (by decide)).symm.trans (slot_out (hin 7) rfl)
    have f8 : s 8 = .string S := (hs 8 (by decide)).symm.trans (slot_out (hin 8) rfl)
    have f9 : s 9 = .pointer (some ⟨x7.heap.size, 0, none⟩) := (hs 9 (by decide)).symm.trans (slot_out (hin 9) rfl)
    have f10 : s 10 = .int .i64 1 := (hs 10 (by decide)).symm.trans (slot_out (hin 10) rfl)
    have f12 : s 12 = undef := (hs 12 (by decide)).symm.trans (slot_out (hin 12) rfl)
    have f13 : s 13 = undef := (hs 13 (by decide)).symm.trans (slot_out (hin 13) rfl)
    have f11 : s 11 = .bool true := (hs 11 (by decide)).symm.trans (slot_in (hin 11) rfl)
    clear hin hs
    rw [show List.range 155 = [0, 1, 2, 3, 4, 5, 6, 7, 8, 9, 10, 11, 12, 13, 14, 15, 16, 17, 18, 19, 20, 21, 22, 23, 24, 25, 26, 27, 28, 29, 30, 31, 32, 33, 34, 35, 36, 37, 38, 39, 40, 41, 42, 43, 44, 45, 46, 47, 48, 49, 50, 51, 52, 53, 54, 55, 56, 57, 58, 59, 60, 61, 62, 63, 64, 65, 66, 67, 68, 69, 70, 71, 72, 73, 74, 75, 76, 77, 78, 79, 80, 81, 82, 83, 84, 85, 86, 87, 88, 89, 90, 91, 92, 93, 94, 95, 96, 97, 98, 99, 100, 101, 102, 103, 104, 105, 106, 107, 108, 109, 110, 111, 112, 113, 114, 115, 116, 117, 118, 119, 120, 121, 122, 123, 124, 125, 126, 127, 128, 129, 130, 131, 132, 133, 134, 135, 136, 137, 138, 139, 140, 141, 142, 143, 144, 145, 146, 147, 148, 149, 150, 151, 152, 153, 154] from rfl]
    simp only [List.map_cons, List.map_nil]
    rw [f3, f4, f6, f7, f8, f9, f10, f12, f13, f11]
    replace B1 := hid (B1.out.mono hG)
    replace B2 := hid (B2.out.mono hG)
    replace B3 := hid (B3.out.mono hG)
    replace HG := hid (HG.out.trans hG)
    obtain ⟨l1, p1, q1, r1, f1⟩ := B1.out
    obtain ⟨l2, p2, q2, r2, f2⟩ := B2.out
    obtain ⟨l3, p3, q3, r3, f3⟩ := B3.out
    go_wp2_with fail
    go_ret
    exact ⟨rfl, HG.out⟩

set_option maxRecDepth 100000 in
set_option maxHeartbeats 8000000 in
theorem may_long (t1 n1 t2 n2 : Int) (s1 s2 c1 c2 : ByteArray) (z : Int) (k : Nat) (w : World) (S : ByteArray) (h1 : cut60 s1 = c1) (h2 : cut60 s2 = c2) (hz : z.tmod 13 = k) (hz0 : 0 ≤ z) (hz1 : z ≤ 255) (hk : k < 13) (hS : signOf k = S) (m1 : mayB t1 n1 c1 = true) (m2 : mayB t2 n2 c2 = true) (z1 : c1.size ≤ 60) (z2 : c2.size ≤ 60) (hR : binR S t1 n1 c1 t2 n2 c2 = ⟨0, 0, E, 6⟩) (o1 : (S.toList == [43]) = true) (hv : (40 : Int) < (c1.size : Int) + (c2.size : Int)) :
    Calls Tryd.prog 7 #[V t1 n1 s1, V t2 n2 s2, .int .u8 z] w fun e w' => e = .returned (.bool true) ∧ G w w' := by
  unfold V
  go_enter Tryd.func7, Tryd.ntmps7
  go_wp2_with fail
  refine (shown_any _).mono ?_
  rintro e x1 ⟨rfl, g1⟩
  have B1 := hid (((At.alloc w t1 n1 s1).more (.cells #[.int .i64 t2, .int .i64 n2, .string s2] 24)).mono g1)
  have B2 := hid (At.after2 g1)
  have HG := hid ((((G.refl w).alloc (.cells #[.int .i64 t1, .int .i64 n1, .string s1] 24)).alloc (.cells #[.int .i64 t2, .int .i64 n2, .string s2] 24)).trans g1)
  clear g1
  obtain ⟨l1, p1, q1, r1, f1⟩ := B1.out
  obtain ⟨l2, p2, q2, r2, f2⟩ := B2.out
  go_wp2_with fail
  refine (short_to h1 _ _ _).mono ?_
  rintro e x2 ⟨rfl, g2⟩
  (try simp only [V])
  clear l1 p1 q1 r1 f1
  clear l2 p2 q2 r2 f2
  replace B1 := hid (B1.out.mono g2)
  replace B2 := hid (B2.out.mono g2)
  replace HG := hid (HG.out.trans g2)
  clear g2
  obtain ⟨l1, p1, q1, r1, f1⟩ := B1.out
  obtain ⟨l2, p2, q2, r2, f2⟩ := B2.out
  go_upto_region 3 with (fail)
  clear l1 p1 q1 r1 f1
  clear l2 p2 q2 r2 f2
  have D1 := B1.out.set t1 n1 c1
  have D2 := Bx.keep B2.out (c := w.heap.size) (by simp) t1 n1 c1
  have CG := G.set (G.set (G.set HG.out (p := ⟨w.heap.size, 0, none⟩) (by simp) (.int .i64 t1)) (p := ⟨w.heap.size, 1, none⟩) (by simp) (.int .i64 n1)) (p := ⟨w.heap.size, 2, none⟩) (by simp) (.string c1)
  generalize ((x2.setCell ⟨w.heap.size, 0, none⟩ (.int .i64 t1)).setCell ⟨w.heap.size, 1, none⟩ (.int .i64 n1)).setCell ⟨w.heap.size, 2, none⟩ (.string c1) = y1 at D1 D2 CG ⊢
  replace B1 := hid D1
  replace B2 := hid D2
  replace HG := hid CG
  clear CG D1 D2
  obtain ⟨l1, p1, q1, r1, f1⟩ := B1.out
  obtain ⟨l2, p2, q2, r2, f2⟩ := B2.out
  go_wp2_with fail
  refine (short_to h2 _ _ _).mono ?_
  rintro e x3 ⟨rfl, g3⟩
  (try simp only [V])
  clear l1 p1 q1 r1 f1
  clear l2 p2 q2 r2 f2
  replace B1 := hid (B1.out.mono g3)
  replace B2 := hid (B2.out.mono g3)
  replace HG := hid (HG.out.trans g3)
  clear g3
  obtain ⟨l1, p1, q1, r1, f1⟩ := B1.out
  obtain ⟨l2, p2, q2, r2, f2⟩ := B2.out
  go_upto_region 4 with (fail)
  clear l1 p1 q1 r1 f1
  clear l2 p2 q2 r2 f2
  have D2 := B2.out.set t2 n2 c2
  have D1 := Bx.keep B1.out (c := w.heap.size + 1) (by simp) t2 n2 c2
  have CG := G.set (G.set (G.set HG.out (p := ⟨w.heap.size + 1, 0, none⟩) (by simp) (.int .i64 t2)) (p := ⟨w.heap.size + 1, 1, none⟩) (by simp) (.int .i64 n2)) (p := ⟨w.heap.size + 1, 2, none⟩) (by simp) (.string c2)
  generalize ((x3.setCell ⟨w.heap.size + 1, 0, none⟩ (.int .i64 t2)).setCell ⟨w.heap.size + 1, 1, none⟩ (.int .i64 n2)).setCell ⟨w.heap.size + 1, 2, none⟩ (.string c2) = y2 at D1 D2 CG ⊢
  replace B1 := hid D1
  replace B2 := hid D2
  replace HG := hid CG
  clear CG D1 D2
  obtain ⟨l1, p1, q1, r1, f1⟩ := B1.out
  obtain ⟨l2, p2, q2, r2, f2⟩ := B2.out
  go_wp2_with fail
  refine (signs_any _).mono ?_
  rintro e x4 ⟨sb, rfl, g4, hs⟩
  clear l1 p1 q1 r1 f1
  clear l2 p2 q2 r2 f2
  replace B1 := hid (B1.out.mono g4)
  replace B2 := hid (B2.out.mono g4)
  replace HG := hid (HG.out.trans g4)
  clear g4
  have hs0 := hs k hk
  clear hs
  rw [hS] at hs0
  obtain ⟨l1, p1, q1, r1, f1⟩ := B1.out
  obtain ⟨l2, p2, q2, r2, f2⟩ := B2.out
  go_wp2_with fail
  refine (may_to m1 _).mono ?_
  rintro e x5 ⟨rfl, g5⟩
  (try simp only [V])
  clear l1 p1 q1 r1 f1
  clear l2 p2 q2 r2 f2
  replace B1 := hid (B1.out.mono g5)
  replace B2 := hid (B2.out.mono g5)
  replace HG := hid (HG.out.trans g5)
  clear g5
  obtain ⟨l1, p1, q1, r1, f1⟩ := B1.out
  obtain ⟨l2, p2, q2, r2, f2⟩ := B2.out
  go_wp2_with fail
  refine (may_to m2 _).mono ?_
  rintro e x6 ⟨rfl, g6⟩
  (try simp only [V])
  clear l1 p1 q1 r1 f1
  clear l2 p2 q2 r2 f2
  replace B1 := hid (B1.out.mono g6)
  replace B2 := hid (B2.out.mono g6)
  replace HG := hid (HG.out.trans g6)
  clear g6
  obtain ⟨l1, p1, q1, r1, f1⟩ := B1.out
  obtain ⟨l2, p2, q2, r2, f2⟩ := B2.out
  clear hs0
  go_wp2_with fail
  refine (bin_to hR z1 z2 _).mono ?_
  rintro e7 x7 ⟨rfl, g7⟩
  (try simp only [V])
  clear l1 p1 q1 r1 f1
  clear l2 p2 q2 r2 f2
  replace B1 := hid (B1.out.mono g7)
  replace B2 := hid (B2.out.mono g7)
  replace HG := hid (HG.out.trans g7)
  clear g7
  obtain ⟨l1, p1, q1, r1, f1⟩ := B1.out
  obtain ⟨l2, p2, q2, r2, f2⟩ := B2.out
  go_upto_region 9 with (fail)
  clear l1 p1 q1 r1 f1
  clear l2 p2 q2 r2 f2
  replace B1 := hid (B1.out.more (.cells #[.int .i64 0, .int .i64 0, .string E] 24))
  replace B2 := hid (B2.out.more (.cells #[.int .i64 0, .int .i64 0, .string E] 24))
  have B3 := hid (At.alloc x7 0 0 E)
  replace HG := hid (HG.out.alloc (.cells #[.int .i64 0, .int .i64 0, .string E] 24))
  obtain ⟨l1, p1, q1, r1, f1⟩ := B1.out
  obtain ⟨l2, p2, q2, r2, f2⟩ := B2.out
  obtain ⟨l3, p3, q3, r3, f3⟩ := B3.out
  refine wp_region_grows (says [Say.is (.int .i64 6), Say.is (.bool false), Say.is (.bool false), Say.is (undef), Say.is (undef), Say.is (undef), Say.is (undef), Say.is (undef), Say.is (undef), Say.is (.bool false), Say.is (.bool false), Say.is (undef), Say.is (undef), Say.is (undef), Say.is (.bool false), Say.is (.bool false)]) 155 (by kernel_rfl) (by kernel_rfl) rfl (says_mono _) (allSteps_take ⟨?_, ?_, ?_, ?_, ?_, ?_, ?_, ?_, ?_, ?_, ?_, ?_, ?_, ?_, ?_, ?_, trivial⟩) ?_
  · intro a w1 hG hin
    have h10 : a.eval (.tmp 10) = .int .i64 6 := slot_out (hin 10 (by decide)) rfl
    clear hin
    exact .inl ⟨wanted_none rfl, grow_move rfl h10⟩
  · intro a w1 hG hin
    have h43 : a.eval (.tmp 43) = .int .i64 6 := slot_in (hin 43 (by decide)) rfl
    clear hin
    refine .inl ⟨wanted_none rfl, ?_⟩
    exact grow_eqint rfl h43 rfl rfl
  · intro a w1 hG hin
    have h44 : a.eval (.tmp 44) = .bool false := slot_in (hin 44 (by decide)) rfl
    clear hin
    exact .inl ⟨wanted_none rfl, grow_move rfl h44⟩
  · intro a w1 hG hin
    have h8 : a.eval (.tmp 8) = .string S := slot_out (hin 8 (by decide)) rfl
    have h45 : a.eval (.tmp 45) = .bool false := slot_in (hin 45 (by decide)) rfl
    clear hin
    exact .inr ⟨wanted_no rfl rfl h45, fun _ _ => rfl⟩
  · intro a w1 hG hin
    have h46 : a.eval (.tmp 46) = undef := slot_in (hin 46 (by decide)) rfl
    have h45 : a.eval (.tmp 45) = .bool false := slot_in (hin 45 (by decide)) rfl
    clear hin
    exact .inr ⟨wanted_no rfl rfl h45, fun _ _ => rfl⟩
  · intro a w1 hG hin
    have h47 : a.eval (.tmp 47) = undef := slot_in (hin 47 (by decide)) rfl
    have h45 : a.eval (.tmp 45) = .bool false := slot_in (hin 45 (by decide)) rfl
    clear hin
    exact .inr ⟨wanted_no rfl rfl h45, fun _ _ => rfl⟩
  · intro a w1 hG hin
    have h8 : a.eval (.tmp 8) = .string S := slot_out (hin 8 (by decide)) rfl
    have h48 : a.eval (.tmp 48) = undef := slot_in (hin 48 (by decide)) rfl
    clear hin
    exact .inr ⟨wanted_un rfl rfl h48, fun _ _ => rfl⟩
  · intro a w1 hG hin
    have h49 : a.eval (.tmp 49) = undef := slot_in (hin 49 (by decide)) rfl
    have h48 : a.eval (.tmp 48) = undef := slot_in (hin 48 (by decide)) rfl
    clear hin
    exact .inr ⟨wanted_un rfl rfl h48, fun _ _ => rfl⟩
  · intro a w1 hG hin
    have h48 : a.eval (.tmp 48) = undef := slot_in (hin 48 (by decide)) rfl
    have h50 : a.eval (.tmp 50) = undef := slot_in (hin 50 (by decide)) rfl
    have h45 : a.eval (.tmp 45) = .bool false := slot_in (hin 45 (by decide)) rfl
    clear hin
    exact .inr ⟨wanted_no rfl rfl h45, fun _ _ => rfl⟩
  · intro a w1 hG hin
    have h45 : a.eval (.tmp 45) = .bool false := slot_in (hin 45 (by decide)) rfl
    have h51 : a.eval (.tmp 51) = undef := slot_in (hin 51 (by decide)) rfl
    clear hin
    exact .inl ⟨wanted_none rfl, grow_pick rfl h45 rfl⟩
  · intro a w1 hG hin
    have h52 : a.eval (.tmp 52) = .bool false := slot_in (hin 52 (by decide)) rfl
    clear hin
    exact .inl ⟨wanted_none rfl, grow_move rfl h52⟩
  · intro a w1 hG hin
    have h4 : a.eval (.tmp 4) = .pointer (some ⟨w.heap.size + 1, 0, none⟩) := slot_out (hin 4 (by decide)) rfl
    have h53 : a.eval (.tmp 53) = .bool false := slot_in (hin 53 (by decide)) rfl
    clear hin
    exact .inr ⟨wanted_no rfl rfl h53, fun _ _ => rfl⟩
  · intro a w1 hG hin
    have h53 : a.eval (.tmp 53) = .bool false := slot_in (hin 53 (by decide)) rfl
    clear hin
    exact .inr ⟨wanted_no rfl rfl h53, fun _ _ => rfl⟩
  · intro a w1 hG hin
    have h54 : a.eval (.tmp 54) = undef := slot_in (hin 54 (by decide)) rfl
    have h55 : a.eval (.tmp 55) = undef := slot_in (hin 55 (by decide)) rfl
    have h53 : a.eval (.tmp 53) = .bool false := slot_in (hin 53 (by decide)) rfl
    clear hin
    exact .inr ⟨wanted_no rfl rfl h53, fun _ _ => rfl⟩
  · intro a w1 hG hin
    have h53 : a.eval (.tmp 53) = .bool false := slot_in (hin 53 (by decide)) rfl
    have h56 : a.eval (.tmp 56) = undef := slot_in (hin 56 (by decide)) rfl
    clear hin
    exact .inl ⟨wanted_none rfl, grow_pick rfl h53 rfl⟩
  · intro a w1 hG hin
    have h57 : a.eval (.tmp 57) = .bool false := slot_in (hin 57 (by decide)) rfl
    clear hin
    exact .inl ⟨wanted_none rfl, grow_assign rfl h57⟩
  · intro s w9 hG hin hs
    have f3 : s 3 = .pointer (some ⟨w.heap.size, 0, none⟩) := (hs 3 (by decide)).symm.trans (slot_out (hin 3) rfl)
    have f4 : s 4 = .pointer (some ⟨w.heap.size + 1, 0, none⟩) := (hs 4 (by decide)).symm.trans (slot_out (hin 4) rfl)
    have f6 : s 6 = .bool false := (hs 6 (by decide)).symm.trans (slot_out (hin 6) rfl)
    have f7 : s 7 = .bool true := (hs 7 (by decide)).symm.trans (slot_out (hin 7) rfl)
    have f8 : s 8 = .string S := (hs 8 (by decide)).symm.trans (slot_out (hin 8) rfl)
    have f9 : s 9 = .pointer (some ⟨x7.heap.size, 0, none⟩) := (hs 9 (by decide)).symm.trans (slot_out (hin 9) rfl)
    have f10 : s 10 = .int .i64 6 := (hs 10 (by decide)).symm.trans (slot_out (hin 10) rfl)
    have f12 : s 12 = undef := (hs 12 (by decide)).symm.trans (slot_out (hin 12) rfl)
    have f13 : s 13 = undef := (hs 13 (by decide)).symm.trans (slot_out (hin 13) rfl)
    have f11 : s 11 = .bool false := (hs 11 (by decide)).symm.trans (slot_in (hin 11) rfl)
    clear hin hs
    rw [show List.range 155 = [0, 1, 2, 3, 4, 5, 6, 7, 8, 9, 10, 11, 12, 13, 14, 15, 16, 17, 18, 19, 20, 21, 22, 23, 24, 25, 26, 27, 28, 29, 30, 31, 32, 33, 34, 35, 36, 37, 38, 39, 40, 41, 42, 43, 44, 45, 46, 47, 48, 49, 50, 51, 52, 53, 54, 55, 56, 57, 58, 59, 60, 61, 62, 63, 64, 65, 66, 67, 68, 69, 70, 71, 72, 73, 74, 75, 76, 77, 78, 79, 80, 81, 82, 83, 84, 85, 86, 87, 88, 89, 90, 91, 92, 93, 94, 95, 96, 97, 98, 99, 100, 101, 102, 103, 104, 105, 106, 107, 108, 109, 110, 111, 112, 113, 114, 115, 116, 117, 118, 119, 120, 121, 122, 123, 124, 125, 126, 127, 128, 129, 130, 131, 132, 133, 134, 135, 136, 137, 138, 139, 140, 141, 142, 143, 144, 145, 146, 147, 148, 149, 150, 151, 152, 153, 154] from rfl]
    simp only [List.map_cons, List.map_nil]
    rw [f3, f4, f6, f7, f8, f9, f10, f12, f13, f11]
    replace B1 := hid (B1.out.mono hG)
    replace B2 := hid (B2.out.mono hG)
    replace B3 := hid (B3.out.mono hG)
    replace HG := hid (HG.out.trans hG)
    obtain ⟨l1, p1, q1, r1, f1⟩ := B1.out
    obtain ⟨l2, p2, q2, r2, f2⟩ := B2.out
    obtain ⟨l3, p3, q3, r3, f3⟩ := B3.out
    go_wp2_with fail
    go_ret
    exact ⟨rfl, HG.out⟩
end Bx
end Go.Proofs.YtlmmpcoakemooaaDoor
