/-
  Ways through ValueMay: it returns true, and writes nothing that was there. No conditions.
-/
import Derived.Test.YtlmmpcoakemooaaDoorMayC
namespace Go.Proofs.YtlmmpcoakemooaaDoor
open Go.RowKit

namespace Bx

set_option maxRecDepth 100000 in
set_option maxHeartbeats 8000000 in
theorem may_no1 (t1 n1 t2 n2 : Int) (s1 s2 c1 c2 : ByteArray) (z : Int) (k : Nat) (w : World) (S : ByteArray) (h1 : cut60 s1 = c1) (h2 : cut60 s2 = c2) (hz : z.tmod 13 = k) (hz0 : 0 ≤ z) (hz1 : z ≤ 255) (hk : k < 13) (hS : signOf k = S) (m1 : mayB t1 n1 c1 = false) :
    Calls Tryd.prog 7 #[V t1 n1 s1, V t2 n2 s2, .int .u8 z] w fun e w' => e = .returned (.bool true) ∧ G w w' := by
  unfold V
  go_enter Tryd.func7, Tryd.ntmps7
  go_wp2_with fail
  refine (shown_any _).mono ?_
  rintro e x1 ⟨rfl, g1⟩
  have B1 := hid (((At.alloc w t1 n1 s1).more (.cells #[.int .i64 t2, .int .i64 n2, .string s2] 24)).mono g1)
  have B2 := hid (At.after2 g1)
  have HG := hid ((((G.refl w).alloc (.cells #[.int .i64 t1, .int .i64 n1, .string s1] 24)).alloc (.cells #[.int .i64 t2, .int .i64 n2, .string s2] 24)).trans g1)
  clear g1
  obtain ⟨l1, p1, q1, r1, f1⟩ := B1.out
  obtain ⟨l2, p2, q2, r2, f2⟩ := B2.out
  go_wp2_with fail
  refine (short_to h1 _ _ _).mono ?_
  rintro e x2 ⟨rfl, g2⟩
  (try simp only [V])
  clear l1 p1 q1 r1 f1
  clear l2 p2 q2 r2 f2
  replace B1 := hid (B1.out.mono g2)
  replace B2 := hid (B2.out.mono g2)
  replace HG := hid (HG.out.trans g2)
  clear g2
  obtain ⟨l1, p1, q1, r1, f1⟩ := B1.out
  obtain ⟨l2, p2, q2, r2, f2⟩ := B2.out
  go_upto_region 3 with (fail)
  clear l1 p1 q1 r1 f1
  clear l2 p2 q2 r2 f2
  have D1 := B1.out.set t1 n1 c1
  have D2 := Bx.keep B2.out (c := w.heap.size) (by simp) t1 n1 c1
  have CG := G.set (G.set (G.set HG.out (p := ⟨w.heap.size, 0, none⟩) (by simp) (.int .i64 t1)) (p := ⟨w.heap.size, 1, none⟩) (by simp) (.int .i64 n1)) (p := ⟨w.heap.size, 2, none⟩) (by simp) (.string c1)
  generalize ((x2.setCell ⟨w.heap.size, 0, none⟩ (.int .i64 t1)).setCell ⟨w.heap.size, 1, none⟩ (.int .i64 n1)).setCell ⟨w.heap.size, 2, none⟩ (.string c1) = y1 at D1 D2 CG ⊢
  replace B1 := hid D1
  replace B2 := hid D2
  replace HG := hid CG
  clear CG D1 D2
  obtain ⟨l1, p1, q1, r1, f1⟩ := B1.out
  obtain ⟨l2, p2, q2, r2, f2⟩ := B2.out
  go_wp2_with fail
  refine (short_to h2 _ _ _).mono ?_
  rintro e x3 ⟨rfl, g3⟩
  (try simp only [V])
  clear l1 p1 q1 r1 f1
  clear l2 p2 q2 r2 f2
  replace B1 := hid (B1.out.mono g3)
  replace B2 := hid (B2.out.mono g3)
  replace HG := hid (HG.out.trans g3)
  clear g3
  obtain ⟨l1, p1, q1, r1, f1⟩ := B1.out
  obtain ⟨l2, p2, q2, r2, f2⟩ := B2.out
  go_upto_region 4 with (fail)
  clear l1 p1 q1 r1 f1
  clear l2 p2 q2 r2 f2
  have D2 := B2.out.set t2 n2 c2
  have D1 := Bx.keep B1.out (c := w.heap.size + 1) (by simp) t2 n2 c2
  have CG := G.set (G.set (G.set HG.out (p := ⟨w.heap.size + 1, 0, none⟩) (by simp) (.int .i64 t2)) (p := ⟨w.heap.size + 1, 1, none⟩) (by simp) (.int .i64 n2)) (p := ⟨w.heap.size + 1, 2, none⟩) (by simp) (.string c2)
  generalize ((x3.setCell ⟨w.heap.size + 1, 0, none⟩ (.int .i64 t2)).setCell ⟨w.heap.size + 1, 1, none⟩ (.int .i64 n2)).setCell ⟨w.heap.size + 1, 2, none⟩ (.string c2) = y2 at D1 D2 CG ⊢
  replace B1 := hid D1
  replace B2 := hid D2
  replace HG := hid CG
  clear CG D1 D2
  obtain ⟨l1, p1, q1, r1, f1⟩ := B1.out
  obtain ⟨l2, p2, q2, r2, f2⟩ := B2.out
  go_wp2_with fail
  refine (signs_any _).mono ?_
  rintro e x4 ⟨sb, rfl, g4, hs⟩
  clear l1 p1 q1 r1 f1
  clear l2 p2 q2 r2 f2
  replace B1 := hid (B1.out.mono g4)
  replace B2 := hid (B2.out.mono g4)
  replace HG := hid (HG.out.trans g4)
  clear g4
  have hs0 := hs k hk
  clear hs
  rw [hS] at hs0
  obtain ⟨l1, p1, q1, r1, f1⟩ := B1.out
  obtain ⟨l2, p2, q2, r2, f2⟩ := B2.out
  go_wp2_with fail
  refine (may_to m1 _).mono ?_
  rintro e x5 ⟨rfl, g5⟩
  (try simp only [V])
  clear l1 p1 q1 r1 f1
  clear l2 p2 q2 r2 f2
  replace B1 := hid (B1.out.mono g5)
  replace B2 := hid (B2.out.mono g5)
  replace HG := hid (HG.out.trans g5)
  clear g5
  obtain ⟨l1, p1, q1, r1, f1⟩ := B1.out
  obtain ⟨l2, p2, q2, r2, f2⟩ := B2.out
  go_wp2_with fail
  go_ret
  exact ⟨rfl, HG.out⟩

set_option maxRecDepth 100000 in
set_option maxHeartbeats 8000000 in
theorem may_no2 (t1 n1 t2 n2 : Int) (s1 s2 c1 c2 : ByteArray) (z : Int) (k : Nat) (w : World) (S : ByteArray) (h1 : cut60 s1 = c1) (h2 : cut60 s2 = c2) (hz : z.tmod 13 = k) (hz0 : 0 ≤ z) (hz1 : z ≤ 255) (hk : k < 13) (hS : signOf k = S) (m1 : mayB t1 n1 c1 = true) (m2 : mayB t2 n2 c2 = false) :
    Calls Tryd.prog 7 #[V t1 n1 s1, V t2 n2 s2, .int .u8 z] w fun e w' => e = .returned (.bool true) ∧ G w w' := by
  unfold V
  go_enter Tryd.func7, Tryd.ntmps7
  go_wp2_with fail
  refine (shown_any _).mono ?_
  rintro e x1 ⟨rfl, g1⟩
  have B1 := hid (((At.alloc w t1 n1 s1).more (.cells #[.int .i64 t2, .int .i64 n2, .string s2] 24)).mono g1)
  have B2 := hid (At.after2 g1)
  have HG := hid ((((G.refl w).alloc (.cells #[.int .i64 t1, .int .i64 n1, .string s1] 24)).alloc (.cells #[.int .i64 t2, .int .i64 n2, .string s2] 24)).trans g1)
  clear g1
  obtain ⟨l1, p1, q1, r1, f1⟩ := B1.out
  obtain ⟨l2, p2, q2, r2, f2⟩ := B2.out
  go_wp2_with fail
  refine (short_to h1 _ _ _).mono ?_
  rintro e x2 ⟨rfl, g2⟩
  (try simp only [V])
  clear l1 p1 q1 r1 f1
  clear l2 p2 q2 r2 f2
  replace B1 := hid (B1.out.mono g2)
  replace B2 := hid (B2.out.mono g2)
  replace HG := hid (HG.out.trans g2)
  clear g2
  obtain ⟨l1, p1, q1, r1, f1⟩ := B1.out
  obtain ⟨l2, p2, q2, r2, f2⟩ := B2.out
  go_upto_region 3 with (fail)
  clear l1 p1 q1 r1 f1
  clear l2 p2 q2 r2 f2
  have D1 := B1.out.set t1 n1 c1
  have D2 := Bx.keep B2.out (c := w.heap.size) (by simp) t1 n1 c1
  have CG := G.set (G.set (G.set HG.out (p := ⟨w.heap.size, 0, none⟩) (by simp) (.int .i64 t1)) (p := ⟨w.heap.size, 1, none⟩) (by simp) (.int .i64 n1)) (p := ⟨w.heap.size, 2, none⟩) (by simp) (.string c1)
  generalize ((x2.setCell ⟨w.heap.size, 0, none⟩ (.int .i64 t1)).setCell ⟨w.heap.size, 1, none⟩ (.int .i64 n1)).setCell ⟨w.heap.size, 2, none⟩ (.string c1) = y1 at D1 D2 CG ⊢
  replace B1 := hid D1
  replace B2 := hid D2
  replace HG := hid CG
  clear CG D1 D2
  obtain ⟨l1, p1, q1, r1, f1⟩ := B1.out
  obtain ⟨l2, p2, q2, r2, f2⟩ := B2.out
  go_wp2_with fail
  refine (short_to h2 _ _ _).mono ?_
  rintro e x3 ⟨rfl, g3⟩
  (try simp only [V])
  clear l1 p1 q1 r1 f1
  clear l2 p2 q2 r2 f2
  replace B1 := hid (B1.out.mono g3)
  replace B2 := hid (B2.out.mono g3)
  replace HG := hid (HG.out.trans g3)
  clear g3
  obtain ⟨l1, p1, q1, r1, f1⟩ := B1.out
  obtain ⟨l2, p2, q2, r2, f2⟩ := B2.out
  go_upto_region 4 with (fail)
  clear l1 p1 q1 r1 f1
  clear l2 p2 q2 r2 f2
  have D2 := B2.out.set t2 n2 c2
  have D1 := Bx.keep B1.out (c := w.heap.size + 1) (by simp) t2 n2 c2
  have CG := G.set (G.set (G.set HG.out (p := ⟨w.heap.size + 1, 0, none⟩) (by simp) (.int .i64 t2)) (p := ⟨w.heap.size + 1, 1, none⟩) (by simp) (.int .i64 n2)) (p := ⟨w.heap.size + 1, 2, none⟩) (by simp) (.string c2)
  generalize ((x3.setCell ⟨w.heap.size + 1, 0, none⟩ (.int .i64 t2)).setCell ⟨w.heap.size + 1, 1, none⟩ (.int .i64 n2)).setCell ⟨w.heap.size + 1, 2, none⟩ (.string c2) = y2 at D1 D2 CG ⊢
  replace B1 := hid D1
  replace B2 := hid D2
  replace HG := hid CG
  clear CG D1 D2
  obtain ⟨l1, p1, q1, r1, f1⟩ := B1.out
  obtain ⟨l2, p2, q2, r2, f2⟩ := B2.out
  go_wp2_with fail
  refine (signs_any _).mono ?_
  rintro e x4 ⟨sb, rfl, g4, hs⟩
  clear l1 p1 q1 r1 f1
  clear l2 p2 q2 r2 f2
  replace B1 := hid (B1.out.mono g4)
  replace B2 := hid (B2.out.mono g4)
  replace HG := hid (HG.out.trans g4)
  clear g4
  have hs0 := hs k hk
  clear hs
  rw [hS] at hs0
  obtain ⟨l1, p1, q1, r1, f1⟩ := B1.out
  obtain ⟨l2, p2, q2, r2, f2⟩ := B2.out
  go_wp2_with fail
  refine (may_to m1 _).mono ?_
  rintro e x5 ⟨rfl, g5⟩
  (try simp only [V])
  clear l1 p1 q1 r1 f1
  clear l2 p2 q2 r2 f2
  replace B1 := hid (B1.out.mono g5)
  replace B2 := hid (B2.out.mono g5)
  replace HG := hid (HG.out.trans g5)
  clear g5
  obtain ⟨l1, p1, q1, r1, f1⟩ := B1.out
  obtain ⟨l2, p2, q2, r2, f2⟩ := B2.out
  go_wp2_with fail
  refine (may_to m2 _).mono ?_
  rintro e x6 ⟨rfl, g6⟩
  (try simp only [V])
  clear l1 p1 q1 r1 f1
  clear l2 p2 q2 r2 f2
  replace B1 := hid (B1.out.mono g6)
  replace B2 := hid (B2.out.mono g6)
  replace HG := hid (HG.out.trans g6)
  clear g6
  obtain ⟨l1, p1, q1, r1, f1⟩ := B1.out
  obtain ⟨l2, p2, q2, r2, f2⟩ := B2.out
  go_wp2_with fail
  go_ret
  exact ⟨rfl, HG.out⟩

set_option maxRecDepth 100000 in
set_option maxHeartbeats 8000000 in
theorem may_none (t1 n1 t2 n2 : Int) (s1 s2 c1 c2 : ByteArray) (z : Int) (k : Nat) (w : World) (S : ByteArray) (h1 : cut60 s1 = c1) (h2 : cut60 s2 = c2) (hz : z.tmod 13 = k) (hz0 : 0 ≤ z) (hz1 : z ≤ 255) (hk : k < 13) (hS : signOf k = S) (m1 : mayB t1 n1 c1 = true) (m2 : mayB t2 n2 c2 = true) (z1 : c1.size ≤ 60) (z2 : c2.size ≤ 60) (hR : binR S t1 n1 c1 t2 n2 c2 = ⟨0, 0, E, 0⟩)  :
    Calls Tryd.prog 7 #[V t1 n1 s1, V t2 n2 s2, .int .u8 z] w fun e w' => e = .returned (.bool true) ∧ G w w' := by
  unfold V
  go_enter Tryd.func7, Tryd.ntmps7
  go_wp2_with fail
  refine (shown_any _).mono ?_
  rintro e x1 ⟨rfl, g1⟩
  have B1 := hid (((At.alloc w t1 n1 s1).more (.cells #[.int .i64 t2, .int .i64 n2, .string s2] 24)).mono g1)
  have B2 := hid (At.after2 g1)
  have HG := hid ((((G.refl w).alloc (.cells #[.int .i64 t1, .int .i64 n1, .string s1] 24)).alloc (.cells #[.int .i64 t2, .int .i64 n2, .string s2] 24)).trans g1)
  clear g1
  obtain ⟨l1, p1, q1, r1, f1⟩ := B1.out
  obtain ⟨l2, p2, q2, r2, f2⟩ := B2.out
  go_wp2_with fail
  refine (short_to h1 _ _ _).mono ?_
  rintro e x2 ⟨rfl, g2⟩
  (try simp only [V])
  clear l1 p1 q1 r1 f1
  clear l2 p2 q2 r2 f2
  replace B1 := hid (B1.out.mono g2)
  replace B2 := hid (B2.out.mono g2)
  replace HG := hid (HG.out.trans g2)
  clear g2
  obtain ⟨l1, p1, q1, r1, f1⟩ := B1.out
  obtain ⟨l2, p2, q2, r2, f2⟩ := B2.out
  go_upto_region 3 with (fail)
  clear l1 p1 q1 r1 f1
  clear l2 p2 q2 r2 f2
  have D1 := B1.out.set t1 n1 c1
  have D2 := Bx.keep B2.out (c := w.heap.size) (by simp) t1 n1 c1
  have CG := G.set (G.set (G.set HG.out (p := ⟨w.heap.size, 0, none⟩) (by simp) (.int .i64 t1)) (p := ⟨w.heap.size, 1, none⟩) (by simp) (.int .i64 n1)) (p := ⟨w.heap.size, 2, none⟩) (by simp) (.string c1)
  generalize ((x2.setCell ⟨w.heap.size, 0, none⟩ (.int .i64 t1)).setCell ⟨w.heap.size, 1, none⟩ (.int .i64 n1)).setCell ⟨w.heap.size, 2, none⟩ (.string c1) = y1 at D1 D2 CG ⊢
  replace B1 := hid D1
  replace B2 := hid D2
  replace HG := hid CG
  clear CG D1 D2
  obtain ⟨l1, p1, q1, r1, f1⟩ := B1.out
  obtain ⟨l2, p2, q2, r2, f2⟩ := B2.out
  go_wp2_with fail
  refine (short_to h2 _ _ _).mono ?_
  rintro e x3 ⟨rfl, g3⟩
  (try simp only [V])
  clear l1 p1 q1 r1 f1
  clear l2 p2 q2 r2 f2
  replace B1 := hid (B1.out.mono g3)
  replace B2 := hid (B2.out.mono g3)
  replace HG := hid (HG.out.trans g3)
  clear g3
  obtain ⟨l1, p1, q1, r1, f1⟩ := B1.out
  obtain ⟨l2, p2, q2, r2, f2⟩ := B2.out
  go_upto_region 4 with (fail)
  clear l1 p1 q1 r1 f1
  clear l2 p2 q2 r2 f2
  have D2 := B2.out.set t2 n2 c2
  have D1 := Bx.keep B1.out (c := w.heap.size + 1) (by simp) t2 n2 c2
  have CG := G.set (G.set (G.set HG.out (p := ⟨w.heap.size + 1, 0, none⟩) (by simp) (.int .i64 t2)) (p := ⟨w.heap.size + 1, 1, none⟩) (by simp) (.int .i64 n2)) (p := ⟨w.heap.size + 1, 2, none⟩) (by simp) (.string c2)
  generalize ((x3.setCell ⟨w.heap.size + 1, 0, none⟩ (.int .i64 t2)).setCell ⟨w.heap.size + 1, 1, none⟩ (.int .i64 n2)).setCell ⟨w.heap.size + 1, 2, none⟩ (.string c2) = y2 at D1 D2 CG ⊢
  replace B1 := hid D1
  replace B2 := hid D2
  replace HG := hid CG
  clear CG D1 D2
  obtain ⟨l1, p1, q1, r1, f1⟩ := B1.out
  obtain ⟨l2, p2, q2, r2, f2⟩ := B2.out
  go_wp2_with fail
  refine (signs_any _).mono ?_
  rintro e x4 ⟨sb, rfl, g4, hs⟩
  clear l1 p1 q1 r1 f1
  clear l2 p2 q2 r2 f2
  replace B1 := hid (B1.out.mono g4)
  replace B2 := hid (B2.out.mono g4)
  replace HG := hid (HG.out.trans g4)
  clear g4
  have hs0 := hs k hk
  clear hs
  rw [hS] at hs0
  obtain ⟨l1, p1, q1, r1, f1⟩ := B1.out
  obtain ⟨l2, p2, q2, r2, f2⟩ := B2.out
  go_wp2_with fail
  refine (may_to m1 _).mono ?_
  rintro e x5 ⟨rfl, g5⟩
  (try simp only [V])
  clear l1 p1 q1 r1 f1
  clear l2 p2 q2 r2 f2
  replace B1 := hid (B1.out.mono g5)
  replace B2 := hid (B2.out.mono g5)
  replace HG := hid (HG.out.trans g5)
  clear g5
  obtain ⟨l1, p1, q1, r1, f1⟩ := B1.out
  obtain ⟨l2, p2, q2, r2, f2⟩ := B2.out
  go_wp2_with fail
  refine (may_to m2 _).mono ?_
  rintro e x6 ⟨rfl, g6⟩
  (try simp only [V])
  clear l1 p1 q1 r1 f1
  clear l2 p2 q2 r2 f2
  replace B1 := hid (B1.out.mono g6)
  replace B2 := hid (B2.out.mono g6)
  replace HG := hid (HG.out.trans g6)
  clear g6
  obtain ⟨l1, p1, q1, r1, f1⟩ := B1.out
  obtain ⟨l2, p2, q2, r2, f2⟩ := B2.out
  clear hs0
  go_wp2_with fail
  refine (bin_to hR z1 z2 _).mono ?_
  rintro e7 x7 ⟨rfl, g7⟩
  (try simp only [V])
  clear l1 p1 q1 r1 f1
  clear l2 p2 q2 r2 f2
  replace B1 := hid (B1.out.mono g7)
  replace B2 := hid (B2.out.mono g7)
  replace HG := hid (HG.out.trans g7)
  clear g7
  obtain ⟨l1, p1, q1, r1, f1⟩ := B1.out
  obtain ⟨l2, p2, q2, r2, f2⟩ := B2.out
  go_wp2_with fail
  go_ret
  exact ⟨rfl, HG.out.alloc _⟩
end Bx
end Go.Proofs.YtlmmpcoakemooaaDoor
