/-
  Ways through ValueTexts: it returns true, and writes nothing that was there. No conditions.
-/
import Derived.Test.YtlmmpcoakemooaaDoorMayC
import Derived.Test.YtlmmpcoakemooaaDoorTruths
import Derived.Test.YtlmmpcoakemooaaDoorSaysC
import Derived.Test.YtlmmpcoakemooaaDoorWords
namespace Go.Proofs.YtlmmpcoakemooaaDoor
open Go.RowKit

namespace Bx

theorem grow_neboolB {a : Act} {w : World} {o : Oper} {x y : Operand} {b d : Bool} {Ψ : Post} (h : o.op = .binOp .neq 4 x y 4) (ht : Tryd.prog.underlying 4 = some .bool) (hx : a.eval x = .bool b) (hy : a.eval y = .bool d)
    (hv : Ψ (.bool (b != d)) w) : growAt Tryd.prog o a w Ψ := by
  refine grow_run ?_ hv
  unfold execOp
  rw [h]
  simp only [hx, hy]
  cases b <;> cases d <;> simp [go_sem, ht]

set_option maxRecDepth 100000 in
set_option maxHeartbeats 8000000 in
theorem texts_no1_short (t1 n1 t2 n2 : Int) (s1 s2 c1 c2 : ByteArray) (w : World) (h1 : cut60 s1 = c1) (h2 : cut60 s2 = c2) (z1 : c1.size ≤ 60) (z2 : c2.size ≤ 60)
    (hR : binR ⟨#[43]⟩ 3 0 c1 3 0 c2 = ⟨3, 0, c1 ++ c2, 0⟩) (hv : (c1.size : Int) + (c2.size : Int) ≤ 40) (m1 : mayB t1 n1 c1 = false) :
    Calls Tryd.prog 9 #[V t1 n1 s1, V t2 n2 s2] w fun e w' => e = .returned (.bool true) ∧ G w w' := by
  unfold V
  go_enter Tryd.func9, Tryd.ntmps9
  go_wp2_with fail
  refine (shown_any _).mono ?_
  rintro e x1 ⟨rfl, g1⟩
  have B1 := hid (((At.alloc w t1 n1 s1).more (.cells #[.int .i64 t2, .int .i64 n2, .string s2] 24)).mono g1)
  have B2 := hid (At.after2 g1)
  have HG := hid ((((G.refl w).alloc (.cells #[.int .i64 t1, .int .i64 n1, .string s1] 24)).alloc (.cells #[.int .i64 t2, .int .i64 n2, .string s2] 24)).trans g1)
  clear g1
  obtain ⟨l1, p1, q1, r1, f1⟩ := B1.out
  obtain ⟨l2, p2, q2, r2, f2⟩ := B2.out
  go_wp2_with fail
  refine (short_to h1 _ _ _).mono ?_
  rintro e x2 ⟨rfl, g2⟩
  (try simp only [V])
  clear l1 p1 q1 r1 f1
  clear l2 p2 q2 r2 f2
  replace B1 := hid (B1.out.mono g2)
  replace B2 := hid (B2.out.mono g2)
  replace HG := hid (HG.out.trans g2)
  clear g2
  obtain ⟨l1, p1, q1, r1, f1⟩ := B1.out
  obtain ⟨l2, p2, q2, r2, f2⟩ := B2.out
  go_upto_region 3 with (fail)
  clear l1 p1 q1 r1 f1
  clear l2 p2 q2 r2 f2
  have D1 := B1.out.set t1 n1 c1
  have D2 := Bx.keep B2.out (c := w.heap.size) (by simp) t1 n1 c1
  have CG := G.set (G.set (G.set HG.out (p := ⟨w.heap.size, 0, none⟩) (by simp) (.int .i64 t1)) (p := ⟨w.heap.size, 1, none⟩) (by simp) (.int .i64 n1)) (p := ⟨w.heap.size, 2, none⟩) (by simp) (.string c1)
  generalize ((x2.setCell ⟨w.heap.size, 0, none⟩ (.int .i64 t1)).setCell ⟨w.heap.size, 1, none⟩ (.int .i64 n1)).setCell ⟨w.heap.size, 2, none⟩ (.string c1) = y1 at D1 D2 CG ⊢
  replace B1 := hid D1
  replace B2 := hid D2
  replace HG := hid CG
  clear CG D1 D2
  obtain ⟨l1, p1, q1, r1, f1⟩ := B1.out
  obtain ⟨l2, p2, q2, r2, f2⟩ := B2.out
  go_wp2_with fail
  refine (short_to h2 _ _ _).mono ?_
  rintro e x3 ⟨rfl, g3⟩
  (try simp only [V])
  clear l1 p1 q1 r1 f1
  clear l2 p2 q2 r2 f2
  replace B1 := hid (B1.out.mono g3)
  replace B2 := hid (B2.out.mono g3)
  replace HG := hid (HG.out.trans g3)
  clear g3
  obtain ⟨l1, p1, q1, r1, f1⟩ := B1.out
  obtain ⟨l2, p2, q2, r2, f2⟩ := B2.out
  go_upto_region 4 with (fail)
  clear l1 p1 q1 r1 f1
  clear l2 p2 q2 r2 f2
  have D2 := B2.out.set t2 n2 c2
  have D1 := Bx.keep B1.out (c := w.heap.size + 1) (by simp) t2 n2 c2
  have CG := G.set (G.set (G.set HG.out (p := ⟨w.heap.size + 1, 0, none⟩) (by simp) (.int .i64 t2)) (p := ⟨w.heap.size + 1, 1, none⟩) (by simp) (.int .i64 n2)) (p := ⟨w.heap.size + 1, 2, none⟩) (by simp) (.string c2)
  generalize ((x3.setCell ⟨w.heap.size + 1, 0, none⟩ (.int .i64 t2)).setCell ⟨w.heap.size + 1, 1, none⟩ (.int .i64 n2)).setCell ⟨w.heap.size + 1, 2, none⟩ (.string c2) = y2 at D1 D2 CG ⊢
  replace B1 := hid D1
  replace B2 := hid D2
  replace HG := hid CG
  clear CG D1 D2
  obtain ⟨l1, p1, q1, r1, f1⟩ := B1.out
  obtain ⟨l2, p2, q2, r2, f2⟩ := B2.out
  go_wp2_with fail
  refine (text_any _ _).mono ?_
  rintro e x4 ⟨rfl, g4⟩
  (try simp only [V])
  clear l1 p1 q1 r1 f1
  clear l2 p2 q2 r2 f2
  replace B1 := hid (B1.out.mono g4)
  replace B2 := hid (B2.out.mono g4)
  replace HG := hid (HG.out.trans g4)
  clear g4
  obtain ⟨l1, p1, q1, r1, f1⟩ := B1.out
  obtain ⟨l2, p2, q2, r2, f2⟩ := B2.out
  go_wp2_with fail
  refine (text_any _ _).mono ?_
  rintro e x5 ⟨rfl, g5⟩
  (try simp only [V])
  clear l1 p1 q1 r1 f1
  clear l2 p2 q2 r2 f2
  replace B1 := hid (B1.out.more (.cells #[.int .i64 3, .int .i64 0, .string c1] 24))
  replace B2 := hid (B2.out.more (.cells #[.int .i64 3, .int .i64 0, .string c1] 24))
  have B3 := hid (At.alloc x4 3 0 c1)
  replace HG := hid (HG.out.alloc (.cells #[.int .i64 3, .int .i64 0, .string c1] 24))
  replace B1 := hid (B1.out.mono g5)
  replace B2 := hid (B2.out.mono g5)
  replace B3 := hid (B3.out.mono g5)
  replace HG := hid (HG.out.trans g5)
  clear g5
  obtain ⟨l1, p1, q1, r1, f1⟩ := B1.out
  obtain ⟨l2, p2, q2, r2, f2⟩ := B2.out
  obtain ⟨l3, p3, q3, r3, f3⟩ := B3.out
  go_wp2_with fail
  refine (bin_to hR z1 z2 _).mono ?_
  rintro e x6 ⟨rfl, g6⟩
  (try simp only [V])
  clear l1 p1 q1 r1 f1
  clear l2 p2 q2 r2 f2
  clear l3 p3 q3 r3 f3
  replace B1 := hid (B1.out.more (.cells #[.int .i64 3, .int .i64 0, .string c2] 24))
  replace B2 := hid (B2.out.more (.cells #[.int .i64 3, .int .i64 0, .string c2] 24))
  replace B3 := hid (B3.out.more (.cells #[.int .i64 3, .int .i64 0, .string c2] 24))
  have B4 := hid (At.alloc x5 3 0 c2)
  replace HG := hid (HG.out.alloc (.cells #[.int .i64 3, .int .i64 0, .string c2] 24))
  replace B1 := hid (B1.out.mono g6)
  replace B2 := hid (B2.out.mono g6)
  replace B3 := hid (B3.out.mono g6)
  replace B4 := hid (B4.out.mono g6)
  replace HG := hid (HG.out.trans g6)
  clear g6
  obtain ⟨l1, p1, q1, r1, f1⟩ := B1.out
  obtain ⟨l2, p2, q2, r2, f2⟩ := B2.out
  obtain ⟨l3, p3, q3, r3, f3⟩ := B3.out
  obtain ⟨l4, p4, q4, r4, f4⟩ := B4.out
  go_wp2_with fail
  refine (may_to m1 _).mono ?_
  rintro e x7 ⟨rfl, g7⟩
  (try simp only [V])
  clear l1 p1 q1 r1 f1
  clear l2 p2 q2 r2 f2
  clear l3 p3 q3 r3 f3
  clear l4 p4 q4 r4 f4
  replace B1 := hid (B1.out.more (.cells #[.int .i64 3, .int .i64 0, .string (c1 ++ c2)] 24))
  replace B2 := hid (B2.out.more (.cells #[.int .i64 3, .int .i64 0, .string (c1 ++ c2)] 24))
  replace B3 := hid (B3.out.more (.cells #[.int .i64 3, .int .i64 0, .string (c1 ++ c2)] 24))
  replace B4 := hid (B4.out.more (.cells #[.int .i64 3, .int .i64 0, .string (c1 ++ c2)] 24))
  have B5 := hid (At.alloc x6 3 0 (c1 ++ c2))
  replace HG := hid (HG.out.alloc (.cells #[.int .i64 3, .int .i64 0, .string (c1 ++ c2)] 24))
  replace B1 := hid (B1.out.mono g7)
  replace B2 := hid (B2.out.mono g7)
  replace B3 := hid (B3.out.mono g7)
  replace B4 := hid (B4.out.mono g7)
  replace B5 := hid (B5.out.mono g7)
  replace HG := hid (HG.out.trans g7)
  clear g7
  obtain ⟨l1, p1, q1, r1, f1⟩ := B1.out
  obtain ⟨l2, p2, q2, r2, f2⟩ := B2.out
  obtain ⟨l3, p3, q3, r3, f3⟩ := B3.out
  obtain ⟨l4, p4, q4, r4, f4⟩ := B4.out
  obtain ⟨l5, p5, q5, r5, f5⟩ := B5.out
  go_wp2_with fail
  go_ret
  exact ⟨rfl, HG.out⟩

set_option maxRecDepth 100000 in
set_option maxHeartbeats 8000000 in
theorem texts_no2_short (t1 n1 t2 n2 : Int) (s1 s2 c1 c2 : ByteArray) (w : World) (h1 : cut60 s1 = c1) (h2 : cut60 s2 = c2) (z1 : c1.size ≤ 60) (z2 : c2.size ≤ 60)
    (hR : binR ⟨#[43]⟩ 3 0 c1 3 0 c2 = ⟨3, 0, c1 ++ c2, 0⟩) (hv : (c1.size : Int) + (c2.size : Int) ≤ 40) (m1 : mayB t1 n1 c1 = true) (m2 : mayB t2 n2 c2 = false) :
    Calls Tryd.prog 9 #[V t1 n1 s1, V t2 n2 s2] w fun e w' => e = .returned (.bool true) ∧ G w w' := by
  unfold V
  go_enter Tryd.func9, Tryd.ntmps9
  go_wp2_with fail
  refine (shown_any _).mono ?_
  rintro e x1 ⟨rfl, g1⟩
  have B1 := hid (((At.alloc w t1 n1 s1).more (.cells #[.int .i64 t2, .int .i64 n2, .string s2] 24)).mono g1)
  have B2 := hid (At.after2 g1)
  have HG := hid ((((G.refl w).alloc (.cells #[.int .i64 t1, .int .i64 n1, .string s1] 24)).alloc (.cells #[.int .i64 t2, .int .i64 n2, .string s2] 24)).trans g1)
  clear g1
  obtain ⟨l1, p1, q1, r1, f1⟩ := B1.out
  obtain ⟨l2, p2, q2, r2, f2⟩ := B2.out
  go_wp2_with fail
  refine (short_to h1 _ _ _).mono ?_
  rintro e x2 ⟨rfl, g2⟩
  (try simp only [V])
  clear l1 p1 q1 r1 f1
  clear l2 p2 q2 r2 f2
  replace B1 := hid (B1.out.mono g2)
  replace B2 := hid (B2.out.mono g2)
  replace HG := hid (HG.out.trans g2)
  clear g2
  obtain ⟨l1, p1, q1, r1, f1⟩ := B1.out
  obtain ⟨l2, p2, q2, r2, f2⟩ := B2.out
  go_upto_region 3 with (fail)
  clear l1 p1 q1 r1 f1
  clear l2 p2 q2 r2 f2
  have D1 := B1.out.set t1 n1 c1
  have D2 := Bx.keep B2.out (c := w.heap.size) (by simp) t1 n1 c1
  have CG := G.set (G.set (G.set HG.out (p := ⟨w.heap.size, 0, none⟩) (by simp) (.int .i64 t1)) (p := ⟨w.heap.size, 1, none⟩) (by simp) (.int .i64 n1)) (p := ⟨w.heap.size, 2, none⟩) (by simp) (.string c1)
  generalize ((x2.setCell ⟨w.heap.size, 0, none⟩ (.int .i64 t1)).setCell ⟨w.heap.size, 1, none⟩ (.int .i64 n1)).setCell ⟨w.heap.size, 2, none⟩ (.string c1) = y1 at D1 D2 CG ⊢
  replace B1 := hid D1
  replace B2 := hid D2
  replace HG := hid CG
  clear CG D1 D2
  obtain ⟨l1, p1, q1, r1, f1⟩ := B1.out
  obtain ⟨l2, p2, q2, r2, f2⟩ := B2.out
  go_wp2_with fail
  refine (short_to h2 _ _ _).mono ?_
  rintro e x3 ⟨rfl, g3⟩
  (try simp only [V])
  clear l1 p1 q1 r1 f1
  clear l2 p2 q2 r2 f2
  replace B1 := hid (B1.out.mono g3)
  replace B2 := hid (B2.out.mono g3)
  replace HG := hid (HG.out.trans g3)
  clear g3
  obtain ⟨l1, p1, q1, r1, f1⟩ := B1.out
  obtain ⟨l2, p2, q2, r2, f2⟩ := B2.out
  go_upto_region 4 with (fail)
  clear l1 p1 q1 r1 f1
  clear l2 p2 q2 r2 f2
  have D2 := B2.out.set t2 n2 c2
  have D1 := Bx.keep B1.out (c := w.heap.size + 1) (by simp) t2 n2 c2
  have CG := G.set (G.set (G.set HG.out (p := ⟨w.heap.size + 1, 0, none⟩) (by simp) (.int .i64 t2)) (p := ⟨w.heap.size + 1, 1, none⟩) (by simp) (.int .i64 n2)) (p := ⟨w.heap.size + 1, 2, none⟩) (by simp) (.string c2)
  generalize ((x3.setCell ⟨w.heap.size + 1, 0, none⟩ (.int .i64 t2)).setCell ⟨w.heap.size + 1, 1, none⟩ (.int .i64 n2)).setCell ⟨w.heap.size + 1, 2, none⟩ (.string c2) = y2 at D1 D2 CG ⊢
  replace B1 := hid D1
  replace B2 := hid D2
  replace HG := hid CG
  clear CG D1 D2
  obtain ⟨l1, p1, q1, r1, f1⟩ := B1.out
  obtain ⟨l2, p2, q2, r2, f2⟩ := B2.out
  go_wp2_with fail
  refine (text_any _ _).mono ?_
  rintro e x4 ⟨rfl, g4⟩
  (try simp only [V])
  clear l1 p1 q1 r1 f1
  clear l2 p2 q2 r2 f2
  replace B1 := hid (B1.out.mono g4)
  replace B2 := hid (B2.out.mono g4)
  replace HG := hid (HG.out.trans g4)
  clear g4
  obtain ⟨l1, p1, q1, r1, f1⟩ := B1.out
  obtain ⟨l2, p2, q2, r2, f2⟩ := B2.out
  go_wp2_with fail
  refine (text_any _ _).mono ?_
  rintro e x5 ⟨rfl, g5⟩
  (try simp only [V])
  clear l1 p1 q1 r1 f1
  clear l2 p2 q2 r2 f2
  replace B1 := hid (B1.out.more (.cells #[.int .i64 3, .int .i64 0, .string c1] 24))
  replace B2 := hid (B2.out.more (.cells #[.int .i64 3, .int .i64 0, .string c1] 24))
  have B3 := hid (At.alloc x4 3 0 c1)
  replace HG := hid (HG.out.alloc (.cells #[.int .i64 3, .int .i64 0, .string c1] 24))
  replace B1 := hid (B1.out.mono g5)
  replace B2 := hid (B2.out.mono g5)
  replace B3 := hid (B3.out.mono g5)
  replace HG := hid (HG.out.trans g5)
  clear g5
  obtain ⟨l1, p1, q1, r1, f1⟩ := B1.out
  obtain ⟨l2, p2, q2, r2, f2⟩ := B2.out
  obtain ⟨l3, p3, q3, r3, f3⟩ := B3.out
  go_wp2_with fail
  refine (bin_to hR z1 z2 _).mono ?_
  rintro e x6 ⟨rfl, g6⟩
  (try simp only [V])
  clear l1 p1 q1 r1 f1
  clear l2 p2 q2 r2 f2
  clear l3 p3 q3 r3 f3
  replace B1 := hid (B1.out.more (.cells #[.int .i64 3, .int .i64 0, .string c2] 24))
  replace B2 := hid (B2.out.more (.cells #[.int .i64 3, .int .i64 0, .string c2] 24))
  replace B3 := hid (B3.out.more (.cells #[.int .i64 3, .int .i64 0, .string c2] 24))
  have B4 := hid (At.alloc x5 3 0 c2)
  replace HG := hid (HG.out.alloc (.cells #[.int .i64 3, .int .i64 0, .string c2] 24))
  replace B1 := hid (B1.out.mono g6)
  replace B2 := hid (B2.out.mono g6)
  replace B3 := hid (B3.out.mono g6)
  replace B4 := hid (B4.out.mono g6)
  replace HG := hid (HG.out.trans g6)
  clear g6
  obtain ⟨l1, p1, q1, r1, f1⟩ := B1.out
  obtain ⟨l2, p2, q2, r2, f2⟩ := B2.out
  obtain ⟨l3, p3, q3, r3, f3⟩ := B3.out
  obtain ⟨l4, p4, q4, r4, f4⟩ := B4.out
  go_wp2_with fail
  refine (may_to m1 _).mono ?_
  rintro e x7 ⟨rfl, g7⟩
  (try simp only [V])
  clear l1 p1 q1 r1 f1
  clear l2 p2 q2 r2 f2
  clear l3 p3 q3 r3 f3
  clear l4 p4 q4 r4 f4
  replace B1 := hid (B1.out.more (.cells #[.int .i64 3, .int .i64 0, .string (c1 ++ c2)] 24))
  replace B2 := hid (B2.out.more (.cells #[.int .i64 3, .int .i64 0, .string (c1 ++ c2)] 24))
  replace B3 := hid (B3.out.more (.cells #[.int .i64 3, .int .i64 0, .string (c1 ++ c2)] 24))
  replace B4 := hid (B4.out.more (.cells #[.int .i64 3, .int .i64 0, .string (c1 ++ c2)] 24))
  have B5 := hid (At.alloc x6 3 0 (c1 ++ c2))
  replace HG := hid (HG.out.alloc (.cells #[.int .i64 3, .int .i64 0, .string (c1 ++ c2)] 24))
  replace B1 := hid (B1.out.mono g7)
  replace B2 := hid (B2.out.mono g7)
  replace B3 := hid (B3.out.mono g7)
  replace B4 := hid (B4.out.mono g7)
  replace B5 := hid (B5.out.mono g7)
  replace HG := hid (HG.out.trans g7)
  clear g7
  obtain ⟨l1, p1, q1, r1, f1⟩ := B1.out
  obtain ⟨l2, p2, q2, r2, f2⟩ := B2.out
  obtain ⟨l3, p3, q3, r3, f3⟩ := B3.out
  obtain ⟨l4, p4, q4, r4, f4⟩ := B4.out
  obtain ⟨l5, p5, q5, r5, f5⟩ := B5.out
  go_wp2_with fail
  refine (may_to m2 _).mono ?_
  rintro e x8 ⟨rfl, g8⟩
  (try simp only [V])
  clear l1 p1 q1 r1 f1
  clear l2 p2 q2 r2 f2
  clear l3 p3 q3 r3 f3
  clear l4 p4 q4 r4 f4
  clear l5 p5 q5 r5 f5
  replace B1 := hid (B1.out.mono g8)
  replace B2 := hid (B2.out.mono g8)
  replace B3 := hid (B3.out.mono g8)
  replace B4 := hid (B4.out.mono g8)
  replace B5 := hid (B5.out.mono g8)
  replace HG := hid (HG.out.trans g8)
  clear g8
  obtain ⟨l1, p1, q1, r1, f1⟩ := B1.out
  obtain ⟨l2, p2, q2, r2, f2⟩ := B2.out
  obtain ⟨l3, p3, q3, r3, f3⟩ := B3.out
  obtain ⟨l4, p4, q4, r4, f4⟩ := B4.out
  obtain ⟨l5, p5, q5, r5, f5⟩ := B5.out
  go_wp2_with fail
  go_ret
  exact ⟨rfl, HG.out⟩

set_option maxRecDepth 100000 in
set_option maxHeartbeats 8000000 in
theorem texts_no3_short (t1 n1 t2 n2 : Int) (s1 s2 c1 c2 : ByteArray) (w : World) (h1 : cut60 s1 = c1) (h2 : cut60 s2 = c2) (z1 : c1.size ≤ 60) (z2 : c2.size ≤ 60)
    (hR : binR ⟨#[43]⟩ 3 0 c1 3 0 c2 = ⟨3, 0, c1 ++ c2, 0⟩) (hv : (c1.size : Int) + (c2.size : Int) ≤ 40) (m1 : mayB t1 n1 c1 = true) (m2 : mayB t2 n2 c2 = true) (hne : t1 ≠ t2) :
    Calls Tryd.prog 9 #[V t1 n1 s1, V t2 n2 s2] w fun e w' => e = .returned (.bool true) ∧ G w w' := by
  unfold V
  go_enter Tryd.func9, Tryd.ntmps9
  go_wp2_with fail
  refine (shown_any _).mono ?_
  rintro e x1 ⟨rfl, g1⟩
  have B1 := hid (((At.alloc w t1 n1 s1).more (.cells #[.int .i64 t2, .int .i64 n2, .string s2] 24)).mono g1)
  have B2 := hid (At.after2 g1)
  have HG := hid ((((G.refl w).alloc (.cells #[.int .i64 t1, .int .i64 n1, .string s1] 24)).alloc (.cells #[.int .i64 t2, .int .i64 n2, .string s2] 24)).trans g1)
  clear g1
  obtain ⟨l1, p1, q1, r1, f1⟩ := B1.out
  obtain ⟨l2, p2, q2, r2, f2⟩ := B2.out
  go_wp2_with fail
  refine (short_to h1 _ _ _).mono ?_
  rintro e x2 ⟨rfl, g2⟩
  (try simp only [V])
  clear l1 p1 q1 r1 f1
  clear l2 p2 q2 r2 f2
  replace B1 := hid (B1.out.mono g2)
  replace B2 := hid (B2.out.mono g2)
  replace HG := hid (HG.out.trans g2)
  clear g2
  obtain ⟨l1, p1, q1, r1, f1⟩ := B1.out
  obtain ⟨l2, p2, q2, r2, f2⟩ := B2.out
  go_upto_region 3 with (fail)
  clear l1 p1 q1 r1 f1
  clear l2 p2 q2 r2 f2
  have D1 := B1.out.set t1 n1 c1
  have D2 := Bx.keep B2.out (c := w.heap.size) (by simp) t1 n1 c1
  have CG := G.set (G.set (G.set HG.out (p := ⟨w.heap.size, 0, none⟩) (by simp) (.int .i64 t1)) (p := ⟨w.heap.size, 1, none⟩) (by simp) (.int .i64 n1)) (p := ⟨w.heap.size, 2, none⟩) (by simp) (.string c1)
  generalize ((x2.setCell ⟨w.heap.size, 0, none⟩ (.int .i64 t1)).setCell ⟨w.heap.size, 1, none⟩ (.int .i64 n1)).setCell ⟨w.heap.size, 2, none⟩ (.string c1) = y1 at D1 D2 CG ⊢
  replace B1 := hid D1
  replace B2 := hid D2
  replace HG := hid CG
  clear CG D1 D2
  obtain ⟨l1, p1, q1, r1, f1⟩ := B1.out
  obtain ⟨l2, p2, q2, r2, f2⟩ := B2.out
  go_wp2_with fail
  refine (short_to h2 _ _ _).mono ?_
  rintro e x3 ⟨rfl, g3⟩
  (try simp only [V])
  clear l1 p1 q1 r1 f1
  clear l2 p2 q2 r2 f2
  replace B1 := hid (B1.out.mono g3)
  replace B2 := hid (B2.out.mono g3)
  replace HG := hid (HG.out.trans g3)
  clear g3
  obtain ⟨l1, p1, q1, r1, f1⟩ := B1.out
  obtain ⟨l2, p2, q2, r2, f2⟩ := B2.out
  go_upto_region 4 with (fail)
  clear l1 p1 q1 r1 f1
  clear l2 p2 q2 r2 f2
  have D2 := B2.out.set t2 n2 c2
  have D1 := Bx.keep B1.out (c := w.heap.size + 1) (by simp) t2 n2 c2
  have CG := G.set (G.set (G.set HG.out (p := ⟨w.heap.size + 1, 0, none⟩) (by simp) (.int .i64 t2)) (p := ⟨w.heap.size + 1, 1, none⟩) (by simp) (.int .i64 n2)) (p := ⟨w.heap.size + 1, 2, none⟩) (by simp) (.string c2)
  generalize ((x3.setCell ⟨w.heap.size + 1, 0, none⟩ (.int .i64 t2)).setCell ⟨w.heap.size + 1, 1, none⟩ (.int .i64 n2)).setCell ⟨w.heap.size + 1, 2, none⟩ (.string c2) = y2 at D1 D2 CG ⊢
  replace B1 := hid D1
  replace B2 := hid D2
  replace HG := hid CG
  clear CG D1 D2
  obtain ⟨l1, p1, q1, r1, f1⟩ := B1.out
  obtain ⟨l2, p2, q2, r2, f2⟩ := B2.out
  go_wp2_with fail
  refine (text_any _ _).mono ?_
  rintro e x4 ⟨rfl, g4⟩
  (try simp only [V])
  clear l1 p1 q1 r1 f1
  clear l2 p2 q2 r2 f2
  replace B1 := hid (B1.out.mono g4)
  replace B2 := hid (B2.out.mono g4)
  replace HG := hid (HG.out.trans g4)
  clear g4
  obtain ⟨l1, p1, q1, r1, f1⟩ := B1.out
  obtain ⟨l2, p2, q2, r2, f2⟩ := B2.out
  go_wp2_with fail
  refine (text_any _ _).mono ?_
  rintro e x5 ⟨rfl, g5⟩
  (try simp only [V])
  clear l1 p1 q1 r1 f1
  clear l2 p2 q2 r2 f2
  replace B1 := hid (B1.out.more (.cells #[.int .i64 3, .int .i64 0, .string c1] 24))
  replace B2 := hid (B2.out.more (.cells #[.int .i64 3, .int .i64 0, .string c1] 24))
  have B3 := hid (At.alloc x4 3 0 c1)
  replace HG := hid (HG.out.alloc (.cells #[.int .i64 3, .int .i64 0, .string c1] 24))
  replace B1 := hid (B1.out.mono g5)
  replace B2 := hid (B2.out.mono g5)
  replace B3 := hid (B3.out.mono g5)
  replace HG := hid (HG.out.trans g5)
  clear g5
  obtain ⟨l1, p1, q1, r1, f1⟩ := B1.out
  obtain ⟨l2, p2, q2, r2, f2⟩ := B2.out
  obtain ⟨l3, p3, q3, r3, f3⟩ := B3.out
  go_wp2_with fail
  refine (bin_to hR z1 z2 _).mono ?_
  rintro e x6 ⟨rfl, g6⟩
  (try simp only [V])
  clear l1 p1 q1 r1 f1
  clear l2 p2 q2 r2 f2
  clear l3 p3 q3 r3 f3
  replace B1 := hid (B1.out.more (.cells #[.int .i64 3, .int .i64 0, .string c2] 24))
  replace B2 := hid (B2.out.more (.cells #[.int .i64 3, .int .i64 0, .string c2] 24))
  replace B3 := hid (B3.out.more (.cells #[.int .i64 3, .int .i64 0, .string c2] 24))
  have B4 := hid (At.alloc x5 3 0 c2)
  replace HG := hid (HG.out.alloc (.cells #[.int .i64 3, .int .i64 0, .string c2] 24))
  replace B1 := hid (B1.out.mono g6)
  replace B2 := hid (B2.out.mono g6)
  replace B3 := hid (B3.out.mono g6)
  replace B4 := hid (B4.out.mono g6)
  replace HG := hid (HG.out.trans g6)
  clear g6
  obtain ⟨l1, p1, q1, r1, f1⟩ := B1.out
  obtain ⟨l2, p2, q2, r2, f2⟩ := B2.out
  obtain ⟨l3, p3, q3, r3, f3⟩ := B3.out
  obtain ⟨l4, p4, q4, r4, f4⟩ := B4.out
  go_wp2_with fail
  refine (may_to m1 _).mono ?_
  rintro e x7 ⟨rfl, g7⟩
  (try simp only [V])
  clear l1 p1 q1 r1 f1
  clear l2 p2 q2 r2 f2
  clear l3 p3 q3 r3 f3
  clear l4 p4 q4 r4 f4
  replace B1 := hid (B1.out.more (.cells #[.int .i64 3, .int .i64 0, .string (c1 ++ c2)] 24))
  replace B2 := hid (B2.out.more (.cells #[.int .i64 3, .int .i64 0, .string (c1 ++ c2)] 24))
  replace B3 := hid (B3.out.more (.cells #[.int .i64 3, .int .i64 0, .string (c1 ++ c2)] 24))
  replace B4 := hid (B4.out.more (.cells #[.int .i64 3, .int .i64 0, .string (c1 ++ c2)] 24))
  have B5 := hid (At.alloc x6 3 0 (c1 ++ c2))
  replace HG := hid (HG.out.alloc (.cells #[.int .i64 3, .int .i64 0, .string (c1 ++ c2)] 24))
  replace B1 := hid (B1.out.mono g7)
  replace B2 := hid (B2.out.mono g7)
  replace B3 := hid (B3.out.mono g7)
  replace B4 := hid (B4.out.mono g7)
  replace B5 := hid (B5.out.mono g7)
  replace HG := hid (HG.out.trans g7)
  clear g7
  obtain ⟨l1, p1, q1, r1, f1⟩ := B1.out
  obtain ⟨l2, p2, q2, r2, f2⟩ := B2.out
  obtain ⟨l3, p3, q3, r3, f3⟩ := B3.out
  obtain ⟨l4, p4, q4, r4, f4⟩ := B4.out
  obtain ⟨l5, p5, q5, r5, f5⟩ := B5.out
  go_wp2_with fail
  refine (may_to m2 _).mono ?_
  rintro e x8 ⟨rfl, g8⟩
  (try simp only [V])
  clear l1 p1 q1 r1 f1
  clear l2 p2 q2 r2 f2
  clear l3 p3 q3 r3 f3
  clear l4 p4 q4 r4 f4
  clear l5 p5 q5 r5 f5
  replace B1 := hid (B1.out.mono g8)
  replace B2 := hid (B2.out.mono g8)
  replace B3 := hid (B3.out.mono g8)
  replace B4 := hid (B4.out.mono g8)
  replace B5 := hid (B5.out.mono g8)
  replace HG := hid (HG.out.trans g8)
  clear g8
  obtain ⟨l1, p1, q1, r1, f1⟩ := B1.out
  obtain ⟨l2, p2, q2, r2, f2⟩ := B2.out
  obtain ⟨l3, p3, q3, r3, f3⟩ := B3.out
  obtain ⟨l4, p4, q4, r4, f4⟩ := B4.out
  obtain ⟨l5, p5, q5, r5, f5⟩ := B5.out
  go_wp2_with fail
  go_ret
  exact ⟨rfl, HG.out⟩

set_option maxRecDepth 100000 in
set_option maxHeartbeats 8000000 in
theorem texts_list_short (n1 n2 : Int) (s1 s2 c1 c2 : ByteArray) (w : World) (u v : Int) (x : Bool) (h1 : cut60 s1 = c1) (h2 : cut60 s2 = c2) (z1 : c1.size ≤ 60) (z2 : c2.size ≤ 60)
    (hR : binR ⟨#[43]⟩ 3 0 c1 3 0 c2 = ⟨3, 0, c1 ++ c2, 0⟩) (hv : (c1.size : Int) + (c2.size : Int) ≤ 40) (m1 : mayB 4 n1 c1 = true) (m2 : mayB 4 n2 c2 = true) (hE : binR ⟨#[61, 61]⟩ 4 n1 c1 4 n2 c2 = ⟨2, u, E, 0⟩) (hN : binR ⟨#[33, 61]⟩ 4 n1 c1 4 n2 c2 = ⟨2, v, E, 0⟩) (hs : one (!decide (v = 1)) = u) (hu : (u == 1) = x) (hx : sameV 4 n1 c1 4 n2 c2 = x) :
    Calls Tryd.prog 9 #[V 4 n1 s1, V 4 n2 s2] w fun e w' => e = .returned (.bool true) ∧ G w w' := by
  unfold V
  go_enter Tryd.func9, Tryd.ntmps9
  go_wp2_with fail
  refine (shown_any _).mono ?_
  rintro e x1 ⟨rfl, g1⟩
  have B1 := hid (((At.alloc w 4 n1 s1).more (.cells #[.int .i64 4, .int .i64 n2, .string s2] 24)).mono g1)
  have B2 := hid (At.after2 g1)
  have HG := hid ((((G.refl w).alloc (.cells #[.int .i64 4, .int .i64 n1, .string s1] 24)).alloc (.cells #[.int .i64 4, .int .i64 n2, .string s2] 24)).trans g1)
  clear g1
  obtain ⟨l1, p1, q1, r1, f1⟩ := B1.out
  obtain ⟨l2, p2, q2, r2, f2⟩ := B2.out
  go_wp2_with fail
  refine (short_to h1 _ _ _).mono ?_
  rintro e x2 ⟨rfl, g2⟩
  (try simp only [V])
  clear l1 p1 q1 r1 f1
  clear l2 p2 q2 r2 f2
  replace B1 := hid (B1.out.mono g2)
  replace B2 := hid (B2.out.mono g2)
  replace HG := hid (HG.out.trans g2)
  clear g2
  obtain ⟨l1, p1, q1, r1, f1⟩ := B1.out
  obtain ⟨l2, p2, q2, r2, f2⟩ := B2.out
  go_upto_region 3 with (fail)
  clear l1 p1 q1 r1 f1
  clear l2 p2 q2 r2 f2
  have D1 := B1.out.set 4 n1 c1
  have D2 := Bx.keep B2.out (c := w.heap.size) (by simp) 4 n1 c1
  have CG := G.set (G.set (G.set HG.out (p := ⟨w.heap.size, 0, none⟩) (by simp) (.int .i64 4)) (p := ⟨w.heap.size, 1, none⟩) (by simp) (.int .i64 n1)) (p := ⟨w.heap.size, 2, none⟩) (by simp) (.string c1)
  generalize ((x2.setCell ⟨w.heap.size, 0, none⟩ (.int .i64 4)).setCell ⟨w.heap.size, 1, none⟩ (.int .i64 n1)).setCell ⟨w.heap.size, 2, none⟩ (.string c1) = y1 at D1 D2 CG ⊢
  replace B1 := hid D1
  replace B2 := hid D2
  replace HG := hid CG
  clear CG D1 D2
  obtain ⟨l1, p1, q1, r1, f1⟩ := B1.out
  obtain ⟨l2, p2, q2, r2, f2⟩ := B2.out
  go_wp2_with fail
  refine (short_to h2 _ _ _).mono ?_
  rintro e x3 ⟨rfl, g3⟩
  (try simp only [V])
  clear l1 p1 q1 r1 f1
  clear l2 p2 q2 r2 f2
  replace B1 := hid (B1.out.mono g3)
  replace B2 := hid (B2.out.mono g3)
  replace HG := hid (HG.out.trans g3)
  clear g3
  obtain ⟨l1, p1, q1, r1, f1⟩ := B1.out
  obtain ⟨l2, p2, q2, r2, f2⟩ := B2.out
  go_upto_region 4 with (fail)
  clear l1 p1 q1 r1 f1
  clear l2 p2 q2 r2 f2
  have D2 := B2.out.set 4 n2 c2
  have D1 := Bx.keep B1.out (c := w.heap.size + 1) (by simp) 4 n2 c2
  have CG := G.set (G.set (G.set HG.out (p := ⟨w.heap.size + 1, 0, none⟩) (by simp) (.int .i64 4)) (p := ⟨w.heap.size + 1, 1, none⟩) (by simp) (.int .i64 n2)) (p := ⟨w.heap.size + 1, 2, none⟩) (by simp) (.string c2)
  generalize ((x3.setCell ⟨w.heap.size + 1, 0, none⟩ (.int .i64 4)).setCell ⟨w.heap.size + 1, 1, none⟩ (.int .i64 n2)).setCell ⟨w.heap.size + 1, 2, none⟩ (.string c2) = y2 at D1 D2 CG ⊢
  replace B1 := hid D1
  replace B2 := hid D2
  replace HG := hid CG
  clear CG D1 D2
  obtain ⟨l1, p1, q1, r1, f1⟩ := B1.out
  obtain ⟨l2, p2, q2, r2, f2⟩ := B2.out
  go_wp2_with fail
  refine (text_any _ _).mono ?_
  rintro e x4 ⟨rfl, g4⟩
  (try simp only [V])
  clear l1 p1 q1 r1 f1
  clear l2 p2 q2 r2 f2
  replace B1 := hid (B1.out.mono g4)
  replace B2 := hid (B2.out.mono g4)
  replace HG := hid (HG.out.trans g4)
  clear g4
  obtain ⟨l1, p1, q1, r1, f1⟩ := B1.out
  obtain ⟨l2, p2, q2, r2, f2⟩ := B2.out
  go_wp2_with fail
  refine (text_any _ _).mono ?_
  rintro e x5 ⟨rfl, g5⟩
  (try simp only [V])
  clear l1 p1 q1 r1 f1
  clear l2 p2 q2 r2 f2
  replace B1 := hid (B1.out.more (.cells #[.int .i64 3, .int .i64 0, .string c1] 24))
  replace B2 := hid (B2.out.more (.cells #[.int .i64 3, .int .i64 0, .string c1] 24))
  have B3 := hid (At.alloc x4 3 0 c1)
  replace HG := hid (HG.out.alloc (.cells #[.int .i64 3, .int .i64 0, .string c1] 24))
  replace B1 := hid (B1.out.mono g5)
  replace B2 := hid (B2.out.mono g5)
  replace B3 := hid (B3.out.mono g5)
  replace HG := hid (HG.out.trans g5)
  clear g5
  obtain ⟨l1, p1, q1, r1, f1⟩ := B1.out
  obtain ⟨l2, p2, q2, r2, f2⟩ := B2.out
  obtain ⟨l3, p3, q3, r3, f3⟩ := B3.out
  go_wp2_with fail
  refine (bin_to hR z1 z2 _).mono ?_
  rintro e x6 ⟨rfl, g6⟩
  (try simp only [V])
  clear l1 p1 q1 r1 f1
  clear l2 p2 q2 r2 f2
  clear l3 p3 q3 r3 f3
  replace B1 := hid (B1.out.more (.cells #[.int .i64 3, .int .i64 0, .string c2] 24))
  replace B2 := hid (B2.out.more (.cells #[.int .i64 3, .int .i64 0, .string c2] 24))
  replace B3 := hid (B3.out.more (.cells #[.int .i64 3, .int .i64 0, .string c2] 24))
  have B4 := hid (At.alloc x5 3 0 c2)
  replace HG := hid (HG.out.alloc (.cells #[.int .i64 3, .int .i64 0, .string c2] 24))
  replace B1 := hid (B1.out.mono g6)
  replace B2 := hid (B2.out.mono g6)
  replace B3 := hid (B3.out.mono g6)
  replace B4 := hid (B4.out.mono g6)
  replace HG := hid (HG.out.trans g6)
  clear g6
  obtain ⟨l1, p1, q1, r1, f1⟩ := B1.out
  obtain ⟨l2, p2, q2, r2, f2⟩ := B2.out
  obtain ⟨l3, p3, q3, r3, f3⟩ := B3.out
  obtain ⟨l4, p4, q4, r4, f4⟩ := B4.out
  go_wp2_with fail
  refine (may_to m1 _).mono ?_
  rintro e x7 ⟨rfl, g7⟩
  (try simp only [V])
  clear l1 p1 q1 r1 f1
  clear l2 p2 q2 r2 f2
  clear l3 p3 q3 r3 f3
  clear l4 p4 q4 r4 f4
  replace B1 := hid (B1.out.more (.cells #[.int .i64 3, .int .i64 0, .string (c1 ++ c2)] 24))
  replace B2 := hid (B2.out.more (.cells #[.int .i64 3, .int .i64 0, .string (c1 ++ c2)] 24))
  replace B3 := hid (B3.out.more (.cells #[.int .i64 3, .int .i64 0, .string (c1 ++ c2)] 24))
  replace B4 := hid (B4.out.more (.cells #[.int .i64 3, .int .i64 0, .string (c1 ++ c2)] 24))
  have B5 := hid (At.alloc x6 3 0 (c1 ++ c2))
  replace HG := hid (HG.out.alloc (.cells #[.int .i64 3, .int .i64 0, .string (c1 ++ c2)] 24))
  replace B1 := hid (B1.out.mono g7)
  replace B2 := hid (B2.out.mono g7)
  replace B3 := hid (B3.out.mono g7)
  replace B4 := hid (B4.out.mono g7)
  replace B5 := hid (B5.out.mono g7)
  replace HG := hid (HG.out.trans g7)
  clear g7
  obtain ⟨l1, p1, q1, r1, f1⟩ := B1.out
  obtain ⟨l2, p2, q2, r2, f2⟩ := B2.out
  obtain ⟨l3, p3, q3, r3, f3⟩ := B3.out
  obtain ⟨l4, p4, q4, r4, f4⟩ := B4.out
  obtain ⟨l5, p5, q5, r5, f5⟩ := B5.out
  go_wp2_with fail
  refine (may_to m2 _).mono ?_
  rintro e x8 ⟨rfl, g8⟩
  (try simp only [V])
  clear l1 p1 q1 r1 f1
  clear l2 p2 q2 r2 f2
  clear l3 p3 q3 r3 f3
  clear l4 p4 q4 r4 f4
  clear l5 p5 q5 r5 f5
  replace B1 := hid (B1.out.mono g8)
  replace B2 := hid (B2.out.mono g8)
  replace B3 := hid (B3.out.mono g8)
  replace B4 := hid (B4.out.mono g8)
  replace B5 := hid (B5.out.mono g8)
  replace HG := hid (HG.out.trans g8)
  clear g8
  obtain ⟨l1, p1, q1, r1, f1⟩ := B1.out
  obtain ⟨l2, p2, q2, r2, f2⟩ := B2.out
  obtain ⟨l3, p3, q3, r3, f3⟩ := B3.out
  obtain ⟨l4, p4, q4, r4, f4⟩ := B4.out
  obtain ⟨l5, p5, q5, r5, f5⟩ := B5.out
  go_wp2_with fail
  refine (bin_to hE z1 z2 _).mono ?_
  rintro e x9 ⟨rfl, g9⟩
  (try simp only [V])
  clear l1 p1 q1 r1 f1
  clear l2 p2 q2 r2 f2
  clear l3 p3 q3 r3 f3
  clear l4 p4 q4 r4 f4
  clear l5 p5 q5 r5 f5
  replace B1 := hid (B1.out.mono g9)
  replace B2 := hid (B2.out.mono g9)
  replace B3 := hid (B3.out.mono g9)
  replace B4 := hid (B4.out.mono g9)
  replace B5 := hid (B5.out.mono g9)
  replace HG := hid (HG.out.trans g9)
  clear g9
  obtain ⟨l1, p1, q1, r1, f1⟩ := B1.out
  obtain ⟨l2, p2, q2, r2, f2⟩ := B2.out
  obtain ⟨l3, p3, q3, r3, f3⟩ := B3.out
  obtain ⟨l4, p4, q4, r4, f4⟩ := B4.out
  obtain ⟨l5, p5, q5, r5, f5⟩ := B5.out
  go_wp2_with fail
  refine (bin_to hN z1 z2 _).mono ?_
  rintro e x10 ⟨rfl, g10⟩
  (try simp only [V])
  clear l1 p1 q1 r1 f1
  clear l2 p2 q2 r2 f2
  clear l3 p3 q3 r3 f3
  clear l4 p4 q4 r4 f4
  clear l5 p5 q5 r5 f5
  replace B1 := hid (B1.out.more (.cells #[.int .i64 2, .int .i64 u, .string E] 24))
  replace B2 := hid (B2.out.more (.cells #[.int .i64 2, .int .i64 u, .string E] 24))
  replace B3 := hid (B3.out.more (.cells #[.int .i64 2, .int .i64 u, .string E] 24))
  replace B4 := hid (B4.out.more (.cells #[.int .i64 2, .int .i64 u, .string E] 24))
  replace B5 := hid (B5.out.more (.cells #[.int .i64 2, .int .i64 u, .string E] 24))
  have B6 := hid (At.alloc x9 2 u E)
  replace HG := hid (HG.out.alloc (.cells #[.int .i64 2, .int .i64 u, .string E] 24))
  replace B1 := hid (B1.out.mono g10)
  replace B2 := hid (B2.out.mono g10)
  replace B3 := hid (B3.out.mono g10)
  replace B4 := hid (B4.out.mono g10)
  replace B5 := hid (B5.out.mono g10)
  replace B6 := hid (B6.out.mono g10)
  replace HG := hid (HG.out.trans g10)
  clear g10
  obtain ⟨l1, p1, q1, r1, f1⟩ := B1.out
  obtain ⟨l2, p2, q2, r2, f2⟩ := B2.out
  obtain ⟨l3, p3, q3, r3, f3⟩ := B3.out
  obtain ⟨l4, p4, q4, r4, f4⟩ := B4.out
  obtain ⟨l5, p5, q5, r5, f5⟩ := B5.out
  obtain ⟨l6, p6, q6, r6, f6⟩ := B6.out
  go_upto_region 13 with (fail)
  clear l1 p1 q1 r1 f1
  clear l2 p2 q2 r2 f2
  clear l3 p3 q3 r3 f3
  clear l4 p4 q4 r4 f4
  clear l5 p5 q5 r5 f5
  clear l6 p6 q6 r6 f6
  replace B1 := hid (B1.out.more (.cells #[.int .i64 2, .int .i64 v, .string E] 24))
  replace B2 := hid (B2.out.more (.cells #[.int .i64 2, .int .i64 v, .string E] 24))
  replace B3 := hid (B3.out.more (.cells #[.int .i64 2, .int .i64 v, .string E] 24))
  replace B4 := hid (B4.out.more (.cells #[.int .i64 2, .int .i64 v, .string E] 24))
  replace B5 := hid (B5.out.more (.cells #[.int .i64 2, .int .i64 v, .string E] 24))
  replace B6 := hid (B6.out.more (.cells #[.int .i64 2, .int .i64 v, .string E] 24))
  have B7 := hid (At.alloc x10 2 v E)
  replace HG := hid (HG.out.alloc (.cells #[.int .i64 2, .int .i64 v, .string E] 24))
  refine wp_region_grows (says [Say.is (.int .i64 0), Say.is (.bool false), Say.is (.bool false), Say.is (.int .i64 0), Say.is (.bool false), Say.is (.bool false), Say.is (.bool false), Say.is (V 2 u E), Say.is (V 2 v E), Say.is (V 2 u E), Say.is (.bool false), Say.is (.bool false), Say.is (.bool false), Say.is (.pointer (some ⟨x9.heap.size, 1, none⟩)), Say.is (.int .i64 u), Say.is (.bool x), Say.is (V 4 n1 c1), Say.is (V 4 n2 c2), Say.is (.bool x), Say.is (.bool false), Say.is (.bool false)]) 133 (by kernel_rfl) (by kernel_rfl) rfl (says_mono _) (allSteps_take ⟨?_, ?_, ?_, ?_, ?_, ?_, ?_, ?_, ?_, ?_, ?_, ?_, ?_, ?_, ?_, ?_, ?_, ?_, ?_, ?_, ?_, trivial⟩) ?_
  · intro a w1 hG hin
    have h11 : a.eval (.tmp 11) = .int .i64 0 := slot_out (hin 11 (by decide)) rfl
    clear hin
    exact .inl ⟨wanted_none rfl, grow_move rfl h11⟩
  · intro a w1 hG hin
    have h84 : a.eval (.tmp 84) = .int .i64 0 := slot_in (hin 84 (by decide)) rfl
    clear hin
    refine .inl ⟨wanted_none rfl, ?_⟩
    exact grow_neint rfl h84 rfl rfl
  · intro a w1 hG hin
    have h85 : a.eval (.tmp 85) = .bool false := slot_in (hin 85 (by decide)) rfl
    clear hin
    exact .inl ⟨wanted_none rfl, grow_move rfl h85⟩
  · intro a w1 hG hin
    have h13 : a.eval (.tmp 13) = .int .i64 0 := slot_out (hin 13 (by decide)) rfl
    have h86 : a.eval (.tmp 86) = .bool false := slot_in (hin 86 (by decide)) rfl
    clear hin
    exact .inl ⟨wanted_yes rfl rfl h86, grow_move rfl h13⟩
  · intro a w1 hG hin
    have h87 : a.eval (.tmp 87) = .int .i64 0 := slot_in (hin 87 (by decide)) rfl
    have h86 : a.eval (.tmp 86) = .bool false := slot_in (hin 86 (by decide)) rfl
    clear hin
    refine .inl ⟨wanted_yes rfl rfl h86, ?_⟩
    exact grow_neint rfl h87 rfl rfl
  · intro a w1 hG hin
    have h86 : a.eval (.tmp 86) = .bool false := slot_in (hin 86 (by decide)) rfl
    have h88 : a.eval (.tmp 88) = .bool false := slot_in (hin 88 (by decide)) rfl
    clear hin
    exact .inl ⟨wanted_none rfl, grow_pick rfl h86 h88⟩
  · intro a w1 hG hin
    have h89 : a.eval (.tmp 89) = .bool false := slot_in (hin 89 (by decide)) rfl
    clear hin
    exact .inl ⟨wanted_none rfl, grow_move rfl h89⟩
  · intro a w1 hG hin
    have h10 : a.eval (.tmp 10) = .pointer (some ⟨x9.heap.size, 0, none⟩) := slot_out (hin 10 (by decide)) rfl
    have h90 : a.eval (.tmp 90) = .bool false := slot_in (hin 90 (by decide)) rfl
    clear hin
    refine .inl ⟨wanted_yes rfl rfl h90, ?_⟩
    exact grow_load rfl (B6.out.mono hG) h10 rfl
  · intro a w1 hG hin
    have h12 : a.eval (.tmp 12) = .pointer (some ⟨x10.heap.size, 0, none⟩) := slot_out (hin 12 (by decide)) rfl
    have h90 : a.eval (.tmp 90) = .bool false := slot_in (hin 90 (by decide)) rfl
    clear hin
    refine .inl ⟨wanted_yes rfl rfl h90, ?_⟩
    exact grow_load rfl (B7.out.mono hG) h12 rfl
  · intro a w1 hG hin
    have h92 : a.eval (.tmp 92) = V 2 v E := slot_in (hin 92 (by decide)) rfl
    have h90 : a.eval (.tmp 90) = .bool false := slot_in (hin 90 (by decide)) rfl
    clear hin
    refine .inl ⟨wanted_yes rfl rfl h90, ?_⟩
    exact grow_call Tryd.call13 #[.string ⟨#[33]⟩, V 2 v E] (by simp only [List.map_toArray, List.map_cons, List.map_nil, h92] <;> rfl) ((not_any hs _).mono (by rintro e w2 ⟨rfl, hg⟩; exact ⟨_, rfl, hg, rfl⟩))
  · intro a w1 hG hin
    have h91 : a.eval (.tmp 91) = V 2 u E := slot_in (hin 91 (by decide)) rfl
    have h93 : a.eval (.tmp 93) = V 2 u E := slot_in (hin 93 (by decide)) rfl
    have h90 : a.eval (.tmp 90) = .bool false := slot_in (hin 90 (by decide)) rfl
    clear hin
    refine .inl ⟨wanted_yes rfl rfl h90, ?_⟩
    exact grow_neV rfl h91 h93 (congrArg Value.bool (by simp [sameV]))
  · intro a w1 hG hin
    have h90 : a.eval (.tmp 90) = .bool false := slot_in (hin 90 (by decide)) rfl
    have h94 : a.eval (.tmp 94) = .bool false := slot_in (hin 94 (by decide)) rfl
    clear hin
    exact .inl ⟨wanted_none rfl, grow_pick rfl h90 h94⟩
  · intro a w1 hG hin
    have h95 : a.eval (.tmp 95) = .bool false := slot_in (hin 95 (by decide)) rfl
    clear hin
    exact .inl ⟨wanted_none rfl, grow_move rfl h95⟩
  · intro a w1 hG hin
    have h10 : a.eval (.tmp 10) = .pointer (some ⟨x9.heap.size, 0, none⟩) := slot_out (hin 10 (by decide)) rfl
    have h96 : a.eval (.tmp 96) = .bool false := slot_in (hin 96 (by decide)) rfl
    clear hin
    refine .inl ⟨wanted_yes rfl rfl h96, ?_⟩
    exact grow_addr rfl (by decide) h10 rfl
  · intro a w1 hG hin
    have h97 : a.eval (.tmp 97) = .pointer (some ⟨x9.heap.size, 1, none⟩) := slot_in (hin 97 (by decide)) rfl
    have h96 : a.eval (.tmp 96) = .bool false := slot_in (hin 96 (by decide)) rfl
    clear hin
    refine .inl ⟨wanted_yes rfl rfl h96, ?_⟩
    exact grow_load1 rfl (B6.out.mono hG) h97 rfl
  · intro a w1 hG hin
    have h98 : a.eval (.tmp 98) = .int .i64 u := slot_in (hin 98 (by decide)) rfl
    have h96 : a.eval (.tmp 96) = .bool false := slot_in (hin 96 (by decide)) rfl
    clear hin
    refine .inl ⟨wanted_yes rfl rfl h96, ?_⟩
    exact grow_eqint rfl h98 rfl (congrArg Value.bool hu)
  · intro a w1 hG hin
    have h2 : a.eval (.tmp 2) = .pointer (some ⟨w.heap.size, 0, none⟩) := slot_out (hin 2 (by decide)) rfl
    have h96 : a.eval (.tmp 96) = .bool false := slot_in (hin 96 (by decide)) rfl
    clear hin
    refine .inl ⟨wanted_yes rfl rfl h96, ?_⟩
    exact grow_load rfl (B1.out.mono hG) h2 rfl
  · intro a w1 hG hin
    have h3 : a.eval (.tmp 3) = .pointer (some ⟨w.heap.size + 1, 0, none⟩) := slot_out (hin 3 (by decide)) rfl
    have h96 : a.eval (.tmp 96) = .bool false := slot_in (hin 96 (by decide)) rfl
    clear hin
    refine .inl ⟨wanted_yes rfl rfl h96, ?_⟩
    exact grow_load rfl (B2.out.mono hG) h3 rfl
  · intro a w1 hG hin
    have h100 : a.eval (.tmp 100) = V 4 n1 c1 := slot_in (hin 100 (by decide)) rfl
    have h101 : a.eval (.tmp 101) = V 4 n2 c2 := slot_in (hin 101 (by decide)) rfl
    have h96 : a.eval (.tmp 96) = .bool false := slot_in (hin 96 (by decide)) rfl
    clear hin
    refine .inl ⟨wanted_yes rfl rfl h96, ?_⟩
    exact grow_eqV rfl h100 h101 (congrArg Value.bool hx)
  · intro a w1 hG hin
    have h99 : a.eval (.tmp 99) = .bool x := slot_in (hin 99 (by decide)) rfl
    have h102 : a.eval (.tmp 102) = .bool x := slot_in (hin 102 (by decide)) rfl
    have h96 : a.eval (.tmp 96) = .bool false := slot_in (hin 96 (by decide)) rfl
    clear hin
    refine .inl ⟨wanted_yes rfl rfl h96, ?_⟩
    exact grow_neboolB rfl Tryd.underlying4 h99 h102 (congrArg Value.bool (by simp))
  · intro a w1 hG hin
    have h96 : a.eval (.tmp 96) = .bool false := slot_in (hin 96 (by decide)) rfl
    have h103 : a.eval (.tmp 103) = .bool false := slot_in (hin 103 (by decide)) rfl
    clear hin
    exact .inl ⟨wanted_none rfl, grow_pick rfl h96 h103⟩
  · intro s w9 hG hin hs
    have f2 : s 2 = .pointer (some ⟨w.heap.size, 0, none⟩) := (hs 2 (by decide)).symm.trans (slot_out (hin 2) rfl)
    have f3 : s 3 = .pointer (some ⟨w.heap.size + 1, 0, none⟩) := (hs 3 (by decide)).symm.trans (slot_out (hin 3) rfl)
    have f4 : s 4 = .bool false := (hs 4 (by decide)).symm.trans (slot_out (hin 4) rfl)
    have f5 : s 5 = .bool true := (hs 5 (by decide)).symm.trans (slot_out (hin 5) rfl)
    have f10 : s 10 = .pointer (some ⟨x9.heap.size, 0, none⟩) := (hs 10 (by decide)).symm.trans (slot_out (hin 10) rfl)
    have f11 : s 11 = .int .i64 0 := (hs 11 (by decide)).symm.trans (slot_out (hin 11) rfl)
    have f12 : s 12 = .pointer (some ⟨x10.heap.size, 0, none⟩) := (hs 12 (by decide)).symm.trans (slot_out (hin 12) rfl)
    have f13 : s 13 = .int .i64 0 := (hs 13 (by decide)).symm.trans (slot_out (hin 13) rfl)
    have f104 : s 104 = .bool false := (hs 104 (by decide)).symm.trans (slot_in (hin 104) rfl)
    clear hin hs
    rw [show List.range 133 = [0, 1, 2, 3, 4, 5, 6, 7, 8, 9, 10, 11, 12, 13, 14, 15, 16, 17, 18, 19, 20, 21, 22, 23, 24, 25, 26, 27, 28, 29, 30, 31, 32, 33, 34, 35, 36, 37, 38, 39, 40, 41, 42, 43, 44, 45, 46, 47, 48, 49, 50, 51, 52, 53, 54, 55, 56, 57, 58, 59, 60, 61, 62, 63, 64, 65, 66, 67, 68, 69, 70, 71, 72, 73, 74, 75, 76, 77, 78, 79, 80, 81, 82, 83, 84, 85, 86, 87, 88, 89, 90, 91, 92, 93, 94, 95, 96, 97, 98, 99, 100, 101, 102, 103, 104, 105, 106, 107, 108, 109, 110, 111, 112, 113, 114, 115, 116, 117, 118, 119, 120, 121, 122, 123, 124, 125, 126, 127, 128, 129, 130, 131, 132] from rfl]
    simp only [List.map_cons, List.map_nil]
    rw [f2, f3, f4, f5, f10, f11, f12, f13, f104]
    replace B1 := hid (B1.out.mono hG)
    replace B2 := hid (B2.out.mono hG)
    replace B3 := hid (B3.out.mono hG)
    replace B4 := hid (B4.out.mono hG)
    replace B5 := hid (B5.out.mono hG)
    replace B6 := hid (B6.out.mono hG)
    replace B7 := hid (B7.out.mono hG)
    replace HG := hid (HG.out.trans hG)
    clear hG f2 f3 f4 f5 f10 f11 f12 f13 f104
    (try simp only [List.drop_succ_cons, List.drop_zero])
    go_upto_region 15 with (fail)
    refine wp_region_grows (says [Say.is (.bool true), Say.is (.bool true), Say.is (.pointer (some ⟨w.heap.size, 0, none⟩)), Say.is (.int .i64 4), Say.is (.bool true), Say.is (.bool true), Say.is (undef), Say.is (undef), Say.is (undef), Say.is (undef), Say.is (undef), Say.is (undef), Say.is (undef), Say.is (undef), Say.is (undef), Say.is (undef), Say.is (undef), Say.is (undef), Say.is (undef), Say.is (undef), Say.is (undef), Say.is (undef), Say.is (undef), Say.is (undef), Say.is (undef), Say.is (undef), Say.is (.bool true), Say.is (.bool true), Say.is (.bool true)]) 133 (by kernel_rfl) (by kernel_rfl) rfl (says_mono _) (allSteps_take ⟨?_, ?_, ?_, ?_, ?_, ?_, ?_, ?_, ?_, ?_, ?_, ?_, ?_, ?_, ?_, ?_, ?_, ?_, ?_, ?_, ?_, ?_, ?_, ?_, ?_, ?_, ?_, ?_, ?_, trivial⟩) ?_
    · intro a w1 hG hin
      have h5 : a.eval (.tmp 5) = .bool true := slot_out (hin 5 (by decide)) rfl
      clear hin
      exact .inl ⟨wanted_none rfl, grow_move rfl h5⟩
    · intro a w1 hG hin
      have h105 : a.eval (.tmp 105) = .bool true := slot_in (hin 105 (by decide)) rfl
      clear hin
      exact .inl ⟨wanted_none rfl, grow_move rfl h105⟩
    · intro a w1 hG hin
      have h2 : a.eval (.tmp 2) = .pointer (some ⟨w.heap.size, 0, none⟩) := slot_out (hin 2 (by decide)) rfl
      have h106 : a.eval (.tmp 106) = .bool true := slot_in (hin 106 (by decide)) rfl
      clear hin
      refine .inl ⟨wanted_yes rfl rfl h106, ?_⟩
      exact grow_addr rfl (by decide) h2 rfl
    · intro a w1 hG hin
      have h107 : a.eval (.tmp 107) = .pointer (some ⟨w.heap.size, 0, none⟩) := slot_in (hin 107 (by decide)) rfl
      have h106 : a.eval (.tmp 106) = .bool true := slot_in (hin 106 (by decide)) rfl
      clear hin
      refine .inl ⟨wanted_yes rfl rfl h106, ?_⟩
      exact grow_load0 rfl (B1.out.mono hG) h107 rfl
    · intro a w1 hG hin
      have h108 : a.eval (.tmp 108) = .int .i64 4 := slot_in (hin 108 (by decide)) rfl
      have h106 : a.eval (.tmp 106) = .bool true := slot_in (hin 106 (by decide)) rfl
      clear hin
      refine .inl ⟨wanted_yes rfl rfl h106, ?_⟩
      exact grow_eqint rfl h108 rfl rfl
    · intro a w1 hG hin
      have h109 : a.eval (.tmp 109) = .bool true := slot_in (hin 109 (by decide)) rfl
      have h106 : a.eval (.tmp 106) = .bool true := slot_in (hin 106 (by decide)) rfl
      clear hin
      exact .inl ⟨wanted_yes rfl rfl h106, grow_move rfl h109⟩
    · intro a w1 hG hin
      have h2 : a.eval (.tmp 2) = .pointer (some ⟨w.heap.size, 0, none⟩) := slot_out (hin 2 (by decide)) rfl
      have h110 : a.eval (.tmp 110) = .bool true := slot_in (hin 110 (by decide)) rfl
      clear hin
      exact .inr ⟨wanted_no rfl rfl h110, fun _ _ => rfl⟩
    · intro a w1 hG hin
      have h111 : a.eval (.tmp 111) = undef := slot_in (hin 111 (by decide)) rfl
      have h110 : a.eval (.tmp 110) = .bool true := slot_in (hin 110 (by decide)) rfl
      clear hin
      exact .inr ⟨wanted_no rfl rfl h110, fun _ _ => rfl⟩
    · intro a w1 hG hin
      have h3 : a.eval (.tmp 3) = .pointer (some ⟨w.heap.size + 1, 0, none⟩) := slot_out (hin 3 (by decide)) rfl
      have h110 : a.eval (.tmp 110) = .bool true := slot_in (hin 110 (by decide)) rfl
      clear hin
      exact .inr ⟨wanted_no rfl rfl h110, fun _ _ => rfl⟩
    · intro a w1 hG hin
      have h113 : a.eval (.tmp 113) = undef := slot_in (hin 113 (by decide)) rfl
      have h110 : a.eval (.tmp 110) = .bool true := slot_in (hin 110 (by decide)) rfl
      clear hin
      exact .inr ⟨wanted_no rfl rfl h110, fun _ _ => rfl⟩
    · intro a w1 hG hin
      have h112 : a.eval (.tmp 112) = undef := slot_in (hin 112 (by decide)) rfl
      have h114 : a.eval (.tmp 114) = undef := slot_in (hin 114 (by decide)) rfl
      have h110 : a.eval (.tmp 110) = .bool true := slot_in (hin 110 (by decide)) rfl
      clear hin
      exact .inr ⟨wanted_no rfl rfl h110, fun _ _ => rfl⟩
    · intro a w1 hG hin
      have h2 : a.eval (.tmp 2) = .pointer (some ⟨w.heap.size, 0, none⟩) := slot_out (hin 2 (by decide)) rfl
      have h110 : a.eval (.tmp 110) = .bool true := slot_in (hin 110 (by decide)) rfl
      clear hin
      exact .inr ⟨wanted_no rfl rfl h110, fun _ _ => rfl⟩
    · intro a w1 hG hin
      have h3 : a.eval (.tmp 3) = .pointer (some ⟨w.heap.size + 1, 0, none⟩) := slot_out (hin 3 (by decide)) rfl
      have h110 : a.eval (.tmp 110) = .bool true := slot_in (hin 110 (by decide)) rfl
      clear hin
      exact .inr ⟨wanted_no rfl rfl h110, fun _ _ => rfl⟩
    · intro a w1 hG hin
      have h116 : a.eval (.tmp 116) = undef := slot_in (hin 116 (by decide)) rfl
      have h117 : a.eval (.tmp 117) = undef := slot_in (hin 117 (by decide)) rfl
      have h110 : a.eval (.tmp 110) = .bool true := slot_in (hin 110 (by decide)) rfl
      clear hin
      exact .inr ⟨wanted_no rfl rfl h110, fun _ _ => rfl⟩
    · intro a w1 hG hin
      have h115 : a.eval (.tmp 115) = undef := slot_in (hin 115 (by decide)) rfl
      have h118 : a.eval (.tmp 118) = undef := slot_in (hin 118 (by decide)) rfl
      have h110 : a.eval (.tmp 110) = .bool true := slot_in (hin 110 (by decide)) rfl
      clear hin
      exact .inr ⟨wanted_no rfl rfl h110, fun _ _ => rfl⟩
    · intro a w1 hG hin
      have h119 : a.eval (.tmp 119) = undef := slot_in (hin 119 (by decide)) rfl
      have h110 : a.eval (.tmp 110) = .bool true := slot_in (hin 110 (by decide)) rfl
      clear hin
      exact .inr ⟨wanted_no rfl rfl h110, fun _ _ => rfl⟩
    · intro a w1 hG hin
      have h2 : a.eval (.tmp 2) = .pointer (some ⟨w.heap.size, 0, none⟩) := slot_out (hin 2 (by decide)) rfl
      have h120 : a.eval (.tmp 120) = undef := slot_in (hin 120 (by decide)) rfl
      clear hin
      exact .inr ⟨wanted_un rfl rfl h120, fun _ _ => rfl⟩
    · intro a w1 hG hin
      have h121 : a.eval (.tmp 121) = undef := slot_in (hin 121 (by decide)) rfl
      have h120 : a.eval (.tmp 120) = undef := slot_in (hin 120 (by decide)) rfl
      clear hin
      exact .inr ⟨wanted_un rfl rfl h120, fun _ _ => rfl⟩
    · intro a w1 hG hin
      have h3 : a.eval (.tmp 3) = .pointer (some ⟨w.heap.size + 1, 0, none⟩) := slot_out (hin 3 (by decide)) rfl
      have h120 : a.eval (.tmp 120) = undef := slot_in (hin 120 (by decide)) rfl
      clear hin
      exact .inr ⟨wanted_un rfl rfl h120, fun _ _ => rfl⟩
    · intro a w1 hG hin
      have h123 : a.eval (.tmp 123) = undef := slot_in (hin 123 (by decide)) rfl
      have h120 : a.eval (.tmp 120) = undef := slot_in (hin 120 (by decide)) rfl
      clear hin
      exact .inr ⟨wanted_un rfl rfl h120, fun _ _ => rfl⟩
    · intro a w1 hG hin
      have h122 : a.eval (.tmp 122) = undef := slot_in (hin 122 (by decide)) rfl
      have h124 : a.eval (.tmp 124) = undef := slot_in (hin 124 (by decide)) rfl
      have h120 : a.eval (.tmp 120) = undef := slot_in (hin 120 (by decide)) rfl
      clear hin
      exact .inr ⟨wanted_un rfl rfl h120, fun _ _ => rfl⟩
    · intro a w1 hG hin
      have h2 : a.eval (.tmp 2) = .pointer (some ⟨w.heap.size, 0, none⟩) := slot_out (hin 2 (by decide)) rfl
      have h120 : a.eval (.tmp 120) = undef := slot_in (hin 120 (by decide)) rfl
      clear hin
      exact .inr ⟨wanted_un rfl rfl h120, fun _ _ => rfl⟩
    · intro a w1 hG hin
      have h3 : a.eval (.tmp 3) = .pointer (some ⟨w.heap.size + 1, 0, none⟩) := slot_out (hin 3 (by decide)) rfl
      have h120 : a.eval (.tmp 120) = undef := slot_in (hin 120 (by decide)) rfl
      clear hin
      exact .inr ⟨wanted_un rfl rfl h120, fun _ _ => rfl⟩
    · intro a w1 hG hin
      have h126 : a.eval (.tmp 126) = undef := slot_in (hin 126 (by decide)) rfl
      have h127 : a.eval (.tmp 127) = undef := slot_in (hin 127 (by decide)) rfl
      have h120 : a.eval (.tmp 120) = undef := slot_in (hin 120 (by decide)) rfl
      clear hin
      exact .inr ⟨wanted_un rfl rfl h120, fun _ _ => rfl⟩
    · intro a w1 hG hin
      have h125 : a.eval (.tmp 125) = undef := slot_in (hin 125 (by decide)) rfl
      have h128 : a.eval (.tmp 128) = undef := slot_in (hin 128 (by decide)) rfl
      have h120 : a.eval (.tmp 120) = undef := slot_in (hin 120 (by decide)) rfl
      clear hin
      exact .inr ⟨wanted_un rfl rfl h120, fun _ _ => rfl⟩
    · intro a w1 hG hin
      have h120 : a.eval (.tmp 120) = undef := slot_in (hin 120 (by decide)) rfl
      have h129 : a.eval (.tmp 129) = undef := slot_in (hin 129 (by decide)) rfl
      have h110 : a.eval (.tmp 110) = .bool true := slot_in (hin 110 (by decide)) rfl
      clear hin
      exact .inr ⟨wanted_no rfl rfl h110, fun _ _ => rfl⟩
    · intro a w1 hG hin
      have h110 : a.eval (.tmp 110) = .bool true := slot_in (hin 110 (by decide)) rfl
      have h130 : a.eval (.tmp 130) = undef := slot_in (hin 130 (by decide)) rfl
      have h106 : a.eval (.tmp 106) = .bool true := slot_in (hin 106 (by decide)) rfl
      clear hin
      exact .inl ⟨wanted_yes rfl rfl h106, grow_pick rfl h110 rfl⟩
    · intro a w1 hG hin
      have h106 : a.eval (.tmp 106) = .bool true := slot_in (hin 106 (by decide)) rfl
      have h131 : a.eval (.tmp 131) = .bool true := slot_in (hin 131 (by decide)) rfl
      clear hin
      exact .inl ⟨wanted_none rfl, grow_pick rfl h106 h131⟩
    · intro a w1 hG hin
      have h132 : a.eval (.tmp 132) = .bool true := slot_in (hin 132 (by decide)) rfl
      clear hin
      exact .inl ⟨wanted_none rfl, grow_assign rfl h132⟩
    · intro s w10 hG hin hs
      have f4 : s 4 = .bool true := (hs 4 (by decide)).symm.trans (slot_in (hin 4) rfl)
      clear hin hs
      rw [show List.range 133 = [0, 1, 2, 3, 4, 5, 6, 7, 8, 9, 10, 11, 12, 13, 14, 15, 16, 17, 18, 19, 20, 21, 22, 23, 24, 25, 26, 27, 28, 29, 30, 31, 32, 33, 34, 35, 36, 37, 38, 39, 40, 41, 42, 43, 44, 45, 46, 47, 48, 49, 50, 51, 52, 53, 54, 55, 56, 57, 58, 59, 60, 61, 62, 63, 64, 65, 66, 67, 68, 69, 70, 71, 72, 73, 74, 75, 76, 77, 78, 79, 80, 81, 82, 83, 84, 85, 86, 87, 88, 89, 90, 91, 92, 93, 94, 95, 96, 97, 98, 99, 100, 101, 102, 103, 104, 105, 106, 107, 108, 109, 110, 111, 112, 113, 114, 115, 116, 117, 118, 119, 120, 121, 122, 123, 124, 125, 126, 127, 128, 129, 130, 131, 132] from rfl]
      simp only [List.map_cons, List.map_nil]
      rw [f4]
      go_wp2_with fail
      go_ret
      exact ⟨rfl, HG.out.trans hG⟩

set_option maxRecDepth 100000 in
set_option maxHeartbeats 8000000 in
theorem texts_all_short (t1 n1 n2 : Int) (s1 s2 c1 c2 : ByteArray) (w : World) (u v : Int) (x : Bool) (h1 : cut60 s1 = c1) (h2 : cut60 s2 = c2) (z1 : c1.size ≤ 60) (z2 : c2.size ≤ 60)
    (hR : binR ⟨#[43]⟩ 3 0 c1 3 0 c2 = ⟨3, 0, c1 ++ c2, 0⟩) (hv : (c1.size : Int) + (c2.size : Int) ≤ 40) (m1 : mayB t1 n1 c1 = true) (m2 : mayB t1 n2 c2 = true) (hE : binR ⟨#[61, 61]⟩ t1 n1 c1 t1 n2 c2 = ⟨2, u, E, 0⟩) (hN : binR ⟨#[33, 61]⟩ t1 n1 c1 t1 n2 c2 = ⟨2, v, E, 0⟩) (hs : one (!decide (v = 1)) = u) (hu : (u == 1) = x) (hx : sameV t1 n1 c1 t1 n2 c2 = x) (n4 : t1 ≠ 4) (hw : ((wordR t1 n1 c1).toList == (wordR t1 n2 c2).toList) = x) (hq : ((quotedR t1 n1 c1).toList == (quotedR t1 n2 c2).toList) = x) (b0 : -9223372036854775808 ≤ n1) (b1 : n1 ≤ 9223372036854775807) (b2 : -9223372036854775808 ≤ n2) (b3 : n2 ≤ 9223372036854775807) (ht : Tab w) :
    Calls Tryd.prog 9 #[V t1 n1 s1, V t1 n2 s2] w fun e w' => e = .returned (.bool true) ∧ G w w' := by
  unfold V
  go_enter Tryd.func9, Tryd.ntmps9
  go_wp2_with fail
  refine (shown_any _).mono ?_
  rintro e x1 ⟨rfl, g1⟩
  have B1 := hid (((At.alloc w t1 n1 s1).more (.cells #[.int .i64 t1, .int .i64 n2, .string s2] 24)).mono g1)
  have B2 := hid (At.after2 g1)
  have HG := hid ((((G.refl w).alloc (.cells #[.int .i64 t1, .int .i64 n1, .string s1] 24)).alloc (.cells #[.int .i64 t1, .int .i64 n2, .string s2] 24)).trans g1)
  clear g1
  obtain ⟨l1, p1, q1, r1, f1⟩ := B1.out
  obtain ⟨l2, p2, q2, r2, f2⟩ := B2.out
  go_wp2_with fail
  refine (short_to h1 _ _ _).mono ?_
  rintro e x2 ⟨rfl, g2⟩
  (try simp only [V])
  clear l1 p1 q1 r1 f1
  clear l2 p2 q2 r2 f2
  replace B1 := hid (B1.out.mono g2)
  replace B2 := hid (B2.out.mono g2)
  replace HG := hid (HG.out.trans g2)
  clear g2
  obtain ⟨l1, p1, q1, r1, f1⟩ := B1.out
  obtain ⟨l2, p2, q2, r2, f2⟩ := B2.out
  go_upto_region 3 with (fail)
  clear l1 p1 q1 r1 f1
  clear l2 p2 q2 r2 f2
  have D1 := B1.out.set t1 n1 c1
  have D2 := Bx.keep B2.out (c := w.heap.size) (by simp) t1 n1 c1
  have CG := G.set (G.set (G.set HG.out (p := ⟨w.heap.size, 0, none⟩) (by simp) (.int .i64 t1)) (p := ⟨w.heap.size, 1, none⟩) (by simp) (.int .i64 n1)) (p := ⟨w.heap.size, 2, none⟩) (by simp) (.string c1)
  generalize ((x2.setCell ⟨w.heap.size, 0, none⟩ (.int .i64 t1)).setCell ⟨w.heap.size, 1, none⟩ (.int .i64 n1)).setCell ⟨w.heap.size, 2, none⟩ (.string c1) = y1 at D1 D2 CG ⊢
  replace B1 := hid D1
  replace B2 := hid D2
  replace HG := hid CG
  clear CG D1 D2
  obtain ⟨l1, p1, q1, r1, f1⟩ := B1.out
  obtain ⟨l2, p2, q2, r2, f2⟩ := B2.out
  go_wp2_with fail
  refine (short_to h2 _ _ _).mono ?_
  rintro e x3 ⟨rfl, g3⟩
  (try simp only [V])
  clear l1 p1 q1 r1 f1
  clear l2 p2 q2 r2 f2
  replace B1 := hid (B1.out.mono g3)
  replace B2 := hid (B2.out.mono g3)
  replace HG := hid (HG.out.trans g3)
  clear g3
  obtain ⟨l1, p1, q1, r1, f1⟩ := B1.out
  obtain ⟨l2, p2, q2, r2, f2⟩ := B2.out
  go_upto_region 4 with (fail)
  clear l1 p1 q1 r1 f1
  clear l2 p2 q2 r2 f2
  have D2 := B2.out.set t1 n2 c2
  have D1 := Bx.keep B1.out (c := w.heap.size + 1) (by simp) t1 n2 c2
  have CG := G.set (G.set (G.set HG.out (p := ⟨w.heap.size + 1, 0, none⟩) (by simp) (.int .i64 t1)) (p := ⟨w.heap.size + 1, 1, none⟩) (by simp) (.int .i64 n2)) (p := ⟨w.heap.size + 1, 2, none⟩) (by simp) (.string c2)
  generalize ((x3.setCell ⟨w.heap.size + 1, 0, none⟩ (.int .i64 t1)).setCell ⟨w.heap.size + 1, 1, none⟩ (.int .i64 n2)).setCell ⟨w.heap.size + 1, 2, none⟩ (.string c2) = y2 at D1 D2 CG ⊢
  replace B1 := hid D1
  replace B2 := hid D2
  replace HG := hid CG
  clear CG D1 D2
  obtain ⟨l1, p1, q1, r1, f1⟩ := B1.out
  obtain ⟨l2, p2, q2, r2, f2⟩ := B2.out
  go_wp2_with fail
  refine (text_any _ _).mono ?_
  rintro e x4 ⟨rfl, g4⟩
  (try simp only [V])
  clear l1 p1 q1 r1 f1
  clear l2 p2 q2 r2 f2
  replace B1 := hid (B1.out.mono g4)
  replace B2 := hid (B2.out.mono g4)
  replace HG := hid (HG.out.trans g4)
  clear g4
  obtain ⟨l1, p1, q1, r1, f1⟩ := B1.out
  obtain ⟨l2, p2, q2, r2, f2⟩ := B2.out
  go_wp2_with fail
  refine (text_any _ _).mono ?_
  rintro e x5 ⟨rfl, g5⟩
  (try simp only [V])
  clear l1 p1 q1 r1 f1
  clear l2 p2 q2 r2 f2
  replace B1 := hid (B1.out.more (.cells #[.int .i64 3, .int .i64 0, .string c1] 24))
  replace B2 := hid (B2.out.more (.cells #[.int .i64 3, .int .i64 0, .string c1] 24))
  have B3 := hid (At.alloc x4 3 0 c1)
  replace HG := hid (HG.out.alloc (.cells #[.int .i64 3, .int .i64 0, .string c1] 24))
  replace B1 := hid (B1.out.mono g5)
  replace B2 := hid (B2.out.mono g5)
  replace B3 := hid (B3.out.mono g5)
  replace HG := hid (HG.out.trans g5)
  clear g5
  obtain ⟨l1, p1, q1, r1, f1⟩ := B1.out
  obtain ⟨l2, p2, q2, r2, f2⟩ := B2.out
  obtain ⟨l3, p3, q3, r3, f3⟩ := B3.out
  go_wp2_with fail
  refine (bin_to hR z1 z2 _).mono ?_
  rintro e x6 ⟨rfl, g6⟩
  (try simp only [V])
  clear l1 p1 q1 r1 f1
  clear l2 p2 q2 r2 f2
  clear l3 p3 q3 r3 f3
  replace B1 := hid (B1.out.more (.cells #[.int .i64 3, .int .i64 0, .string c2] 24))
  replace B2 := hid (B2.out.more (.cells #[.int .i64 3, .int .i64 0, .string c2] 24))
  replace B3 := hid (B3.out.more (.cells #[.int .i64 3, .int .i64 0, .string c2] 24))
  have B4 := hid (At.alloc x5 3 0 c2)
  replace HG := hid (HG.out.alloc (.cells #[.int .i64 3, .int .i64 0, .string c2] 24))
  replace B1 := hid (B1.out.mono g6)
  replace B2 := hid (B2.out.mono g6)
  replace B3 := hid (B3.out.mono g6)
  replace B4 := hid (B4.out.mono g6)
  replace HG := hid (HG.out.trans g6)
  clear g6
  obtain ⟨l1, p1, q1, r1, f1⟩ := B1.out
  obtain ⟨l2, p2, q2, r2, f2⟩ := B2.out
  obtain ⟨l3, p3, q3, r3, f3⟩ := B3.out
  obtain ⟨l4, p4, q4, r4, f4⟩ := B4.out
  go_wp2_with fail
  refine (may_to m1 _).mono ?_
  rintro e x7 ⟨rfl, g7⟩
  (try simp only [V])
  clear l1 p1 q1 r1 f1
  clear l2 p2 q2 r2 f2
  clear l3 p3 q3 r3 f3
  clear l4 p4 q4 r4 f4
  replace B1 := hid (B1.out.more (.cells #[.int .i64 3, .int .i64 0, .string (c1 ++ c2)] 24))
  replace B2 := hid (B2.out.more (.cells #[.int .i64 3, .int .i64 0, .string (c1 ++ c2)] 24))
  replace B3 := hid (B3.out.more (.cells #[.int .i64 3, .int .i64 0, .string (c1 ++ c2)] 24))
  replace B4 := hid (B4.out.more (.cells #[.int .i64 3, .int .i64 0, .string (c1 ++ c2)] 24))
  have B5 := hid (At.alloc x6 3 0 (c1 ++ c2))
  replace HG := hid (HG.out.alloc (.cells #[.int .i64 3, .int .i64 0, .string (c1 ++ c2)] 24))
  replace B1 := hid (B1.out.mono g7)
  replace B2 := hid (B2.out.mono g7)
  replace B3 := hid (B3.out.mono g7)
  replace B4 := hid (B4.out.mono g7)
  replace B5 := hid (B5.out.mono g7)
  replace HG := hid (HG.out.trans g7)
  clear g7
  obtain ⟨l1, p1, q1, r1, f1⟩ := B1.out
  obtain ⟨l2, p2, q2, r2, f2⟩ := B2.out
  obtain ⟨l3, p3, q3, r3, f3⟩ := B3.out
  obtain ⟨l4, p4, q4, r4, f4⟩ := B4.out
  obtain ⟨l5, p5, q5, r5, f5⟩ := B5.out
  go_wp2_with fail
  refine (may_to m2 _).mono ?_
  rintro e x8 ⟨rfl, g8⟩
  (try simp only [V])
  clear l1 p1 q1 r1 f1
  clear l2 p2 q2 r2 f2
  clear l3 p3 q3 r3 f3
  clear l4 p4 q4 r4 f4
  clear l5 p5 q5 r5 f5
  replace B1 := hid (B1.out.mono g8)
  replace B2 := hid (B2.out.mono g8)
  replace B3 := hid (B3.out.mono g8)
  replace B4 := hid (B4.out.mono g8)
  replace B5 := hid (B5.out.mono g8)
  replace HG := hid (HG.out.trans g8)
  clear g8
  obtain ⟨l1, p1, q1, r1, f1⟩ := B1.out
  obtain ⟨l2, p2, q2, r2, f2⟩ := B2.out
  obtain ⟨l3, p3, q3, r3, f3⟩ := B3.out
  obtain ⟨l4, p4, q4, r4, f4⟩ := B4.out
  obtain ⟨l5, p5, q5, r5, f5⟩ := B5.out
  go_wp2_with fail
  refine (bin_to hE z1 z2 _).mono ?_
  rintro e x9 ⟨rfl, g9⟩
  (try simp only [V])
  clear l1 p1 q1 r1 f1
  clear l2 p2 q2 r2 f2
  clear l3 p3 q3 r3 f3
  clear l4 p4 q4 r4 f4
  clear l5 p5 q5 r5 f5
  replace B1 := hid (B1.out.mono g9)
  replace B2 := hid (B2.out.mono g9)
  replace B3 := hid (B3.out.mono g9)
  replace B4 := hid (B4.out.mono g9)
  replace B5 := hid (B5.out.mono g9)
  replace HG := hid (HG.out.trans g9)
  clear g9
  obtain ⟨l1, p1, q1, r1, f1⟩ := B1.out
  obtain ⟨l2, p2, q2, r2, f2⟩ := B2.out
  obtain ⟨l3, p3, q3, r3, f3⟩ := B3.out
  obtain ⟨l4, p4, q4, r4, f4⟩ := B4.out
  obtain ⟨l5, p5, q5, r5, f5⟩ := B5.out
  go_wp2_with fail
  refine (bin_to hN z1 z2 _).mono ?_
  rintro e x10 ⟨rfl, g10⟩
  (try simp only [V])
  clear l1 p1 q1 r1 f1
  clear l2 p2 q2 r2 f2
  clear l3 p3 q3 r3 f3
  clear l4 p4 q4 r4 f4
  clear l5 p5 q5 r5 f5
  replace B1 := hid (B1.out.more (.cells #[.int .i64 2, .int .i64 u, .string E] 24))
  replace B2 := hid (B2.out.more (.cells #[.int .i64 2, .int .i64 u, .string E] 24))
  replace B3 := hid (B3.out.more (.cells #[.int .i64 2, .int .i64 u, .string E] 24))
  replace B4 := hid (B4.out.more (.cells #[.int .i64 2, .int .i64 u, .string E] 24))
  replace B5 := hid (B5.out.more (.cells #[.int .i64 2, .int .i64 u, .string E] 24))
  have B6 := hid (At.alloc x9 2 u E)
  replace HG := hid (HG.out.alloc (.cells #[.int .i64 2, .int .i64 u, .string E] 24))
  replace B1 := hid (B1.out.mono g10)
  replace B2 := hid (B2.out.mono g10)
  replace B3 := hid (B3.out.mono g10)
  replace B4 := hid (B4.out.mono g10)
  replace B5 := hid (B5.out.mono g10)
  replace B6 := hid (B6.out.mono g10)
  replace HG := hid (HG.out.trans g10)
  clear g10
  obtain ⟨l1, p1, q1, r1, f1⟩ := B1.out
  obtain ⟨l2, p2, q2, r2, f2⟩ := B2.out
  obtain ⟨l3, p3, q3, r3, f3⟩ := B3.out
  obtain ⟨l4, p4, q4, r4, f4⟩ := B4.out
  obtain ⟨l5, p5, q5, r5, f5⟩ := B5.out
  obtain ⟨l6, p6, q6, r6, f6⟩ := B6.out
  go_upto_region 13 with (fail)
  clear l1 p1 q1 r1 f1
  clear l2 p2 q2 r2 f2
  clear l3 p3 q3 r3 f3
  clear l4 p4 q4 r4 f4
  clear l5 p5 q5 r5 f5
  clear l6 p6 q6 r6 f6
  replace B1 := hid (B1.out.more (.cells #[.int .i64 2, .int .i64 v, .string E] 24))
  replace B2 := hid (B2.out.more (.cells #[.int .i64 2, .int .i64 v, .string E] 24))
  replace B3 := hid (B3.out.more (.cells #[.int .i64 2, .int .i64 v, .string E] 24))
  replace B4 := hid (B4.out.more (.cells #[.int .i64 2, .int .i64 v, .string E] 24))
  replace B5 := hid (B5.out.more (.cells #[.int .i64 2, .int .i64 v, .string E] 24))
  replace B6 := hid (B6.out.more (.cells #[.int .i64 2, .int .i64 v, .string E] 24))
  have B7 := hid (At.alloc x10 2 v E)
  replace HG := hid (HG.out.alloc (.cells #[.int .i64 2, .int .i64 v, .string E] 24))
  refine wp_region_grows (says [Say.is (.int .i64 0), Say.is (.bool false), Say.is (.bool false), Say.is (.int .i64 0), Say.is (.bool false), Say.is (.bool false), Say.is (.bool false), Say.is (V 2 u E), Say.is (V 2 v E), Say.is (V 2 u E), Say.is (.bool false), Say.is (.bool false), Say.is (.bool false), Say.is (.pointer (some ⟨x9.heap.size, 1, none⟩)), Say.is (.int .i64 u), Say.is (.bool x), Say.is (V t1 n1 c1), Say.is (V t1 n2 c2), Say.is (.bool x), Say.is (.bool false), Say.is (.bool false)]) 133 (by kernel_rfl) (by kernel_rfl) rfl (says_mono _) (allSteps_take ⟨?_, ?_, ?_, ?_, ?_, ?_, ?_, ?_, ?_, ?_, ?_, ?_, ?_, ?_, ?_, ?_, ?_, ?_, ?_, ?_, ?_, trivial⟩) ?_
  · intro a w1 hG hin
    have h11 : a.eval (.tmp 11) = .int .i64 0 := slot_out (hin 11 (by decide)) rfl
    clear hin
    exact .inl ⟨wanted_none rfl, grow_move rfl h11⟩
  · intro a w1 hG hin
    have h84 : a.eval (.tmp 84) = .int .i64 0 := slot_in (hin 84 (by decide)) rfl
    clear hin
    refine .inl ⟨wanted_none rfl, ?_⟩
    exact grow_neint rfl h84 rfl rfl
  · intro a w1 hG hin
    have h85 : a.eval (.tmp 85) = .bool false := slot_in (hin 85 (by decide)) rfl
    clear hin
    exact .inl ⟨wanted_none rfl, grow_move rfl h85⟩
  · intro a w1 hG hin
    have h13 : a.eval (.tmp 13) = .int .i64 0 := slot_out (hin 13 (by decide)) rfl
    have h86 : a.eval (.tmp 86) = .bool false := slot_in (hin 86 (by decide)) rfl
    clear hin
    exact .inl ⟨wanted_yes rfl rfl h86, grow_move rfl h13⟩
  · intro a w1 hG hin
    have h87 : a.eval (.tmp 87) = .int .i64 0 := slot_in (hin 87 (by decide)) rfl
    have h86 : a.eval (.tmp 86) = .bool false := slot_in (hin 86 (by decide)) rfl
    clear hin
    refine .inl ⟨wanted_yes rfl rfl h86, ?_⟩
    exact grow_neint rfl h87 rfl rfl
  · intro a w1 hG hin
    have h86 : a.eval (.tmp 86) = .bool false := slot_in (hin 86 (by decide)) rfl
    have h88 : a.eval (.tmp 88) = .bool false := slot_in (hin 88 (by decide)) rfl
    clear hin
    exact .inl ⟨wanted_none rfl, grow_pick rfl h86 h88⟩
  · intro a w1 hG hin
    have h89 : a.eval (.tmp 89) = .bool false := slot_in (hin 89 (by decide)) rfl
    clear hin
    exact .inl ⟨wanted_none rfl, grow_move rfl h89⟩
  · intro a w1 hG hin
    have h10 : a.eval (.tmp 10) = .pointer (some ⟨x9.heap.size, 0, none⟩) := slot_out (hin 10 (by decide)) rfl
    have h90 : a.eval (.tmp 90) = .bool false := slot_in (hin 90 (by decide)) rfl
    clear hin
    refine .inl ⟨wanted_yes rfl rfl h90, ?_⟩
    exact grow_load rfl (B6.out.mono hG) h10 rfl
  · intro a w1 hG hin
    have h12 : a.eval (.tmp 12) = .pointer (some ⟨x10.heap.size, 0, none⟩) := slot_out (hin 12 (by decide)) rfl
    have h90 : a.eval (.tmp 90) = .bool false := slot_in (hin 90 (by decide)) rfl
    clear hin
    refine .inl ⟨wanted_yes rfl rfl h90, ?_⟩
    exact grow_load rfl (B7.out.mono hG) h12 rfl
  · intro a w1 hG hin
    have h92 : a.eval (.tmp 92) = V 2 v E := slot_in (hin 92 (by decide)) rfl
    have h90 : a.eval (.tmp 90) = .bool false := slot_in (hin 90 (by decide)) rfl
    clear hin
    refine .inl ⟨wanted_yes rfl rfl h90, ?_⟩
    exact grow_call Tryd.call13 #[.string ⟨#[33]⟩, V 2 v E] (by simp only [List.map_toArray, List.map_cons, List.map_nil, h92] <;> rfl) ((not_any hs _).mono (by rintro e w2 ⟨rfl, hg⟩; exact ⟨_, rfl, hg, rfl⟩))
  · intro a w1 hG hin
    have h91 : a.eval (.tmp 91) = V 2 u E := slot_in (hin 91 (by decide)) rfl
    have h93 : a.eval (.tmp 93) = V 2 u E := slot_in (hin 93 (by decide)) rfl
    have h90 : a.eval (.tmp 90) = .bool false := slot_in (hin 90 (by decide)) rfl
    clear hin
    refine .inl ⟨wanted_yes rfl rfl h90, ?_⟩
    exact grow_neV rfl h91 h93 (congrArg Value.bool (by simp [sameV]))
  · intro a w1 hG hin
    have h90 : a.eval (.tmp 90) = .bool false := slot_in (hin 90 (by decide)) rfl
    have h94 : a.eval (.tmp 94) = .bool false := slot_in (hin 94 (by decide)) rfl
    clear hin
    exact .inl ⟨wanted_none rfl, grow_pick rfl h90 h94⟩
  · intro a w1 hG hin
    have h95 : a.eval (.tmp 95) = .bool false := slot_in (hin 95 (by decide)) rfl
    clear hin
    exact .inl ⟨wanted_none rfl, grow_move rfl h95⟩
  · intro a w1 hG hin
    have h10 : a.eval (.tmp 10) = .pointer (some ⟨x9.heap.size, 0, none⟩) := slot_out (hin 10 (by decide)) rfl
    have h96 : a.eval (.tmp 96) = .bool false := slot_in (hin 96 (by decide)) rfl
    clear hin
    refine .inl ⟨wanted_yes rfl rfl h96, ?_⟩
    exact grow_addr rfl (by decide) h10 rfl
  · intro a w1 hG hin
    have h97 : a.eval (.tmp 97) = .pointer (some ⟨x9.heap.size, 1, none⟩) := slot_in (hin 97 (by decide)) rfl
    have h96 : a.eval (.tmp 96) = .bool false := slot_in (hin 96 (by decide)) rfl
    clear hin
    refine .inl ⟨wanted_yes rfl rfl h96, ?_⟩
    exact grow_load1 rfl (B6.out.mono hG) h97 rfl
  · intro a w1 hG hin
    have h98 : a.eval (.tmp 98) = .int .i64 u := slot_in (hin 98 (by decide)) rfl
    have h96 : a.eval (.tmp 96) = .bool false := slot_in (hin 96 (by decide)) rfl
    clear hin
    refine .inl ⟨wanted_yes rfl rfl h96, ?_⟩
    exact grow_eqint rfl h98 rfl (congrArg Value.bool hu)
  · intro a w1 hG hin
    have h2 : a.eval (.tmp 2) = .pointer (some ⟨w.heap.size, 0, none⟩) := slot_out (hin 2 (by decide)) rfl
    have h96 : a.eval (.tmp 96) = .bool false := slot_in (hin 96 (by decide)) rfl
    clear hin
    refine .inl ⟨wanted_yes rfl rfl h96, ?_⟩
    exact grow_load rfl (B1.out.mono hG) h2 rfl
  · intro a w1 hG hin
    have h3 : a.eval (.tmp 3) = .pointer (some ⟨w.heap.size + 1, 0, none⟩) := slot_out (hin 3 (by decide)) rfl
    have h96 : a.eval (.tmp 96) = .bool false := slot_in (hin 96 (by decide)) rfl
    clear hin
    refine .inl ⟨wanted_yes rfl rfl h96, ?_⟩
    exact grow_load rfl (B2.out.mono hG) h3 rfl
  · intro a w1 hG hin
    have h100 : a.eval (.tmp 100) = V t1 n1 c1 := slot_in (hin 100 (by decide)) rfl
    have h101 : a.eval (.tmp 101) = V t1 n2 c2 := slot_in (hin 101 (by decide)) rfl
    have h96 : a.eval (.tmp 96) = .bool false := slot_in (hin 96 (by decide)) rfl
    clear hin
    refine .inl ⟨wanted_yes rfl rfl h96, ?_⟩
    exact grow_eqV rfl h100 h101 (congrArg Value.bool hx)
  · intro a w1 hG hin
    have h99 : a.eval (.tmp 99) = .bool x := slot_in (hin 99 (by decide)) rfl
    have h102 : a.eval (.tmp 102) = .bool x := slot_in (hin 102 (by decide)) rfl
    have h96 : a.eval (.tmp 96) = .bool false := slot_in (hin 96 (by decide)) rfl
    clear hin
    refine .inl ⟨wanted_yes rfl rfl h96, ?_⟩
    exact grow_neboolB rfl Tryd.underlying4 h99 h102 (congrArg Value.bool (by simp))
  · intro a w1 hG hin
    have h96 : a.eval (.tmp 96) = .bool false := slot_in (hin 96 (by decide)) rfl
    have h103 : a.eval (.tmp 103) = .bool false := slot_in (hin 103 (by decide)) rfl
    clear hin
    exact .inl ⟨wanted_none rfl, grow_pick rfl h96 h103⟩
  · intro s w9 hG hin hs
    have f2 : s 2 = .pointer (some ⟨w.heap.size, 0, none⟩) := (hs 2 (by decide)).symm.trans (slot_out (hin 2) rfl)
    have f3 : s 3 = .pointer (some ⟨w.heap.size + 1, 0, none⟩) := (hs 3 (by decide)).symm.trans (slot_out (hin 3) rfl)
    have f4 : s 4 = .bool false := (hs 4 (by decide)).symm.trans (slot_out (hin 4) rfl)
    have f5 : s 5 = .bool true := (hs 5 (by decide)).symm.trans (slot_out (hin 5) rfl)
    have f10 : s 10 = .pointer (some ⟨x9.heap.size, 0, none⟩) := (hs 10 (by decide)).symm.trans (slot_out (hin 10) rfl)
    have f11 : s 11 = .int .i64 0 := (hs 11 (by decide)).symm.trans (slot_out (hin 11) rfl)
    have f12 : s 12 = .pointer (some ⟨x10.heap.size, 0, none⟩) := (hs 12 (by decide)).symm.trans (slot_out (hin 12) rfl)
    have f13 : s 13 = .int .i64 0 := (hs 13 (by decide)).symm.trans (slot_out (hin 13) rfl)
    have f104 : s 104 = .bool false := (hs 104 (by decide)).symm.trans (slot_in (hin 104) rfl)
    clear hin hs
    rw [show List.range 133 = [0, 1, 2, 3, 4, 5, 6, 7, 8, 9, 10, 11, 12, 13, 14, 15, 16, 17, 18, 19, 20, 21, 22, 23, 24, 25, 26, 27, 28, 29, 30, 31, 32, 33, 34, 35, 36, 37, 38, 39, 40, 41, 42, 43, 44, 45, 46, 47, 48, 49, 50, 51, 52, 53, 54, 55, 56, 57, 58, 59, 60, 61, 62, 63, 64, 65, 66, 67, 68, 69, 70, 71, 72, 73, 74, 75, 76, 77, 78, 79, 80, 81, 82, 83, 84, 85, 86, 87, 88, 89, 90, 91, 92, 93, 94, 95, 96, 97, 98, 99, 100, 101, 102, 103, 104, 105, 106, 107, 108, 109, 110, 111, 112, 113, 114, 115, 116, 117, 118, 119, 120, 121, 122, 123, 124, 125, 126, 127, 128, 129, 130, 131, 132] from rfl]
    simp only [List.map_cons, List.map_nil]
    rw [f2, f3, f4, f5, f10, f11, f12, f13, f104]
    replace B1 := hid (B1.out.mono hG)
    replace B2 := hid (B2.out.mono hG)
    replace B3 := hid (B3.out.mono hG)
    replace B4 := hid (B4.out.mono hG)
    replace B5 := hid (B5.out.mono hG)
    replace B6 := hid (B6.out.mono hG)
    replace B7 := hid (B7.out.mono hG)
    replace HG := hid (HG.out.trans hG)
    clear hG f2 f3 f4 f5 f10 f11 f12 f13 f104
    (try simp only [List.drop_succ_cons, List.drop_zero])
    go_upto_region 15 with (fail)
    refine wp_region_grows (says [Say.is (.bool true), Say.is (.bool true), Say.is (.pointer (some ⟨w.heap.size, 0, none⟩)), Say.is (.int .i64 t1), Say.is (.bool false), Say.is (.bool false), Say.is (V t1 n1 c1), Say.is (.string (wordR t1 n1 c1)), Say.is (V t1 n2 c2), Say.is (.string (wordR t1 n2 c2)), Say.is (.bool x), Say.is (V t1 n1 c1), Say.is (V t1 n2 c2), Say.is (.bool x), Say.is (.bool true), Say.is (.bool true), Say.is (V t1 n1 c1), Say.is (.string (quotedR t1 n1 c1)), Say.is (V t1 n2 c2), Say.is (.string (quotedR t1 n2 c2)), Say.is (.bool x), Say.is (V t1 n1 c1), Say.is (V t1 n2 c2), Say.is (.bool x), Say.is (.bool true), Say.is (.bool true), Say.is (.bool true), Say.is (.bool true), Say.is (.bool true)]) 133 (by kernel_rfl) (by kernel_rfl) rfl (says_mono _) (allSteps_take ⟨?_, ?_, ?_, ?_, ?_, ?_, ?_, ?_, ?_, ?_, ?_, ?_, ?_, ?_, ?_, ?_, ?_, ?_, ?_, ?_, ?_, ?_, ?_, ?_, ?_, ?_, ?_, ?_, ?_, trivial⟩) ?_
    · intro a w1 hG hin
      have h5 : a.eval (.tmp 5) = .bool true := slot_out (hin 5 (by decide)) rfl
      clear hin
      exact .inl ⟨wanted_none rfl, grow_move rfl h5⟩
    · intro a w1 hG hin
      have h105 : a.eval (.tmp 105) = .bool true := slot_in (hin 105 (by decide)) rfl
      clear hin
      exact .inl ⟨wanted_none rfl, grow_move rfl h105⟩
    · intro a w1 hG hin
      have h2 : a.eval (.tmp 2) = .pointer (some ⟨w.heap.size, 0, none⟩) := slot_out (hin 2 (by decide)) rfl
      have h106 : a.eval (.tmp 106) = .bool true := slot_in (hin 106 (by decide)) rfl
      clear hin
      refine .inl ⟨wanted_yes rfl rfl h106, ?_⟩
      exact grow_addr rfl (by decide) h2 rfl
    · intro a w1 hG hin
      have h107 : a.eval (.tmp 107) = .pointer (some ⟨w.heap.size, 0, none⟩) := slot_in (hin 107 (by decide)) rfl
      have h106 : a.eval (.tmp 106) = .bool true := slot_in (hin 106 (by decide)) rfl
      clear hin
      refine .inl ⟨wanted_yes rfl rfl h106, ?_⟩
      exact grow_load0 rfl (B1.out.mono hG) h107 rfl
    · intro a w1 hG hin
      have h108 : a.eval (.tmp 108) = .int .i64 t1 := slot_in (hin 108 (by decide)) rfl
      have h106 : a.eval (.tmp 106) = .bool true := slot_in (hin 106 (by decide)) rfl
      clear hin
      refine .inl ⟨wanted_yes rfl rfl h106, ?_⟩
      exact grow_eqint rfl h108 rfl (congrArg Value.bool (by simpa using n4))
    · intro a w1 hG hin
      have h109 : a.eval (.tmp 109) = .bool false := slot_in (hin 109 (by decide)) rfl
      have h106 : a.eval (.tmp 106) = .bool true := slot_in (hin 106 (by decide)) rfl
      clear hin
      exact .inl ⟨wanted_yes rfl rfl h106, grow_move rfl h109⟩
    · intro a w1 hG hin
      have h2 : a.eval (.tmp 2) = .pointer (some ⟨w.heap.size, 0, none⟩) := slot_out (hin 2 (by decide)) rfl
      have h110 : a.eval (.tmp 110) = .bool false := slot_in (hin 110 (by decide)) rfl
      clear hin
      refine .inl ⟨wanted_yes rfl rfl h110, ?_⟩
      exact grow_load rfl (B1.out.mono hG) h2 rfl
    · intro a w1 hG hin
      have h111 : a.eval (.tmp 111) = V t1 n1 c1 := slot_in (hin 111 (by decide)) rfl
      have h110 : a.eval (.tmp 110) = .bool false := slot_in (hin 110 (by decide)) rfl
      clear hin
      refine .inl ⟨wanted_yes rfl rfl h110, ?_⟩
      exact grow_call Tryd.call27 #[V t1 n1 c1] (by simp only [List.map_toArray, List.map_cons, List.map_nil, h111] <;> rfl) ((word_any _ _ _ _ b0 b1 (tab_on ht (HG.out.trans hG))).mono (by rintro e w2 ⟨rfl, hg⟩; exact ⟨_, rfl, hg, rfl⟩))
    · intro a w1 hG hin
      have h3 : a.eval (.tmp 3) = .pointer (some ⟨w.heap.size + 1, 0, none⟩) := slot_out (hin 3 (by decide)) rfl
      have h110 : a.eval (.tmp 110) = .bool false := slot_in (hin 110 (by decide)) rfl
      clear hin
      refine .inl ⟨wanted_yes rfl rfl h110, ?_⟩
      exact grow_load rfl (B2.out.mono hG) h3 rfl
    · intro a w1 hG hin
      have h113 : a.eval (.tmp 113) = V t1 n2 c2 := slot_in (hin 113 (by decide)) rfl
      have h110 : a.eval (.tmp 110) = .bool false := slot_in (hin 110 (by decide)) rfl
      clear hin
      refine .inl ⟨wanted_yes rfl rfl h110, ?_⟩
      exact grow_call Tryd.call27 #[V t1 n2 c2] (by simp only [List.map_toArray, List.map_cons, List.map_nil, h113] <;> rfl) ((word_any _ _ _ _ b2 b3 (tab_on ht (HG.out.trans hG))).mono (by rintro e w2 ⟨rfl, hg⟩; exact ⟨_, rfl, hg, rfl⟩))
    · intro a w1 hG hin
      have h112 : a.eval (.tmp 112) = .string (wordR t1 n1 c1) := slot_in (hin 112 (by decide)) rfl
      have h114 : a.eval (.tmp 114) = .string (wordR t1 n2 c2) := slot_in (hin 114 (by decide)) rfl
      have h110 : a.eval (.tmp 110) = .bool false := slot_in (hin 110 (by decide)) rfl
      clear hin
      refine .inl ⟨wanted_yes rfl rfl h110, ?_⟩
      exact grow_eqtext rfl h112 h114 (congrArg Value.bool hw)
    · intro a w1 hG hin
      have h2 : a.eval (.tmp 2) = .pointer (some ⟨w.heap.size, 0, none⟩) := slot_out (hin 2 (by decide)) rfl
      have h110 : a.eval (.tmp 110) = .bool false := slot_in (hin 110 (by decide)) rfl
      clear hin
      refine .inl ⟨wanted_yes rfl rfl h110, ?_⟩
      exact grow_load rfl (B1.out.mono hG) h2 rfl
    · intro a w1 hG hin
      have h3 : a.eval (.tmp 3) = .pointer (some ⟨w.heap.size + 1, 0, none⟩) := slot_out (hin 3 (by decide)) rfl
      have h110 : a.eval (.tmp 110) = .bool false := slot_in (hin 110 (by decide)) rfl
      clear hin
      refine .inl ⟨wanted_yes rfl rfl h110, ?_⟩
      exact grow_load rfl (B2.out.mono hG) h3 rfl
    · intro a w1 hG hin
      have h116 : a.eval (.tmp 116) = V t1 n1 c1 := slot_in (hin 116 (by decide)) rfl
      have h117 : a.eval (.tmp 117) = V t1 n2 c2 := slot_in (hin 117 (by decide)) rfl
      have h110 : a.eval (.tmp 110) = .bool false := slot_in (hin 110 (by decide)) rfl
      clear hin
      refine .inl ⟨wanted_yes rfl rfl h110, ?_⟩
      exact grow_eqV rfl h116 h117 (congrArg Value.bool hx)
    · intro a w1 hG hin
      have h115 : a.eval (.tmp 115) = .bool x := slot_in (hin 115 (by decide)) rfl
      have h118 : a.eval (.tmp 118) = .bool x := slot_in (hin 118 (by decide)) rfl
      have h110 : a.eval (.tmp 110) = .bool false := slot_in (hin 110 (by decide)) rfl
      clear hin
      refine .inl ⟨wanted_yes rfl rfl h110, ?_⟩
      exact grow_eqbool rfl Tryd.underlying4 h115 h118 (congrArg Value.bool (by simp))
    · intro a w1 hG hin
      have h119 : a.eval (.tmp 119) = .bool true := slot_in (hin 119 (by decide)) rfl
      have h110 : a.eval (.tmp 110) = .bool false := slot_in (hin 110 (by decide)) rfl
      clear hin
      exact .inl ⟨wanted_yes rfl rfl h110, grow_move rfl h119⟩
    · intro a w1 hG hin
      have h2 : a.eval (.tmp 2) = .pointer (some ⟨w.heap.size, 0, none⟩) := slot_out (hin 2 (by decide)) rfl
      have h120 : a.eval (.tmp 120) = .bool true := slot_in (hin 120 (by decide)) rfl
      clear hin
      refine .inl ⟨wanted_yes rfl rfl h120, ?_⟩
      exact grow_load rfl (B1.out.mono hG) h2 rfl
    · intro a w1 hG hin
      have h121 : a.eval (.tmp 121) = V t1 n1 c1 := slot_in (hin 121 (by decide)) rfl
      have h120 : a.eval (.tmp 120) = .bool true := slot_in (hin 120 (by decide)) rfl
      clear hin
      refine .inl ⟨wanted_yes rfl rfl h120, ?_⟩
      exact grow_call Tryd.call29 #[V t1 n1 c1] (by simp only [List.map_toArray, List.map_cons, List.map_nil, h121] <;> rfl) ((quoted_any _ _ _ _ b0 b1 (tab_on ht (HG.out.trans hG)) z1).mono (by rintro e w2 ⟨rfl, hg⟩; exact ⟨_, rfl, hg, rfl⟩))
    · intro a w1 hG hin
      have h3 : a.eval (.tmp 3) = .pointer (some ⟨w.heap.size + 1, 0, none⟩) := slot_out (hin 3 (by decide)) rfl
      have h120 : a.eval (.tmp 120) = .bool true := slot_in (hin 120 (by decide)) rfl
      clear hin
      refine .inl ⟨wanted_yes rfl rfl h120, ?_⟩
      exact grow_load rfl (B2.out.mono hG) h3 rfl
    · intro a w1 hG hin
      have h123 : a.eval (.tmp 123) = V t1 n2 c2 := slot_in (hin 123 (by decide)) rfl
      have h120 : a.eval (.tmp 120) = .bool true := slot_in (hin 120 (by decide)) rfl
      clear hin
      refine .inl ⟨wanted_yes rfl rfl h120, ?_⟩
      exact grow_call Tryd.call29 #[V t1 n2 c2] (by simp only [List.map_toArray, List.map_cons, List.map_nil, h123] <;> rfl) ((quoted_any _ _ _ _ b2 b3 (tab_on ht (HG.out.trans hG)) z2).mono (by rintro e w2 ⟨rfl, hg⟩; exact ⟨_, rfl, hg, rfl⟩))
    · intro a w1 hG hin
      have h122 : a.eval (.tmp 122) = .string (quotedR t1 n1 c1) := slot_in (hin 122 (by decide)) rfl
      have h124 : a.eval (.tmp 124) = .string (quotedR t1 n2 c2) := slot_in (hin 124 (by decide)) rfl
      have h120 : a.eval (.tmp 120) = .bool true := slot_in (hin 120 (by decide)) rfl
      clear hin
      refine .inl ⟨wanted_yes rfl rfl h120, ?_⟩
      exact grow_eqtext rfl h122 h124 (congrArg Value.bool hq)
    · intro a w1 hG hin
      have h2 : a.eval (.tmp 2) = .pointer (some ⟨w.heap.size, 0, none⟩) := slot_out (hin 2 (by decide)) rfl
      have h120 : a.eval (.tmp 120) = .bool true := slot_in (hin 120 (by decide)) rfl
      clear hin
      refine .inl ⟨wanted_yes rfl rfl h120, ?_⟩
      exact grow_load rfl (B1.out.mono hG) h2 rfl
    · intro a w1 hG hin
      have h3 : a.eval (.tmp 3) = .pointer (some ⟨w.heap.size + 1, 0, none⟩) := slot_out (hin 3 (by decide)) rfl
      have h120 : a.eval (.tmp 120) = .bool true := slot_in (hin 120 (by decide)) rfl
      clear hin
      refine .inl ⟨wanted_yes rfl rfl h120, ?_⟩
      exact grow_load rfl (B2.out.mono hG) h3 rfl
    · intro a w1 hG hin
      have h126 : a.eval (.tmp 126) = V t1 n1 c1 := slot_in (hin 126 (by decide)) rfl
      have h127 : a.eval (.tmp 127) = V t1 n2 c2 := slot_in (hin 127 (by decide)) rfl
      have h120 : a.eval (.tmp 120) = .bool true := slot_in (hin 120 (by decide)) rfl
      clear hin
      refine .inl ⟨wanted_yes rfl rfl h120, ?_⟩
      exact grow_eqV rfl h126 h127 (congrArg Value.bool hx)
    · intro a w1 hG hin
      have h125 : a.eval (.tmp 125) = .bool x := slot_in (hin 125 (by decide)) rfl
      have h128 : a.eval (.tmp 128) = .bool x := slot_in (hin 128 (by decide)) rfl
      have h120 : a.eval (.tmp 120) = .bool true := slot_in (hin 120 (by decide)) rfl
      clear hin
      refine .inl ⟨wanted_yes rfl rfl h120, ?_⟩
      exact grow_eqbool rfl Tryd.underlying4 h125 h128 (congrArg Value.bool (by simp))
    · intro a w1 hG hin
      have h120 : a.eval (.tmp 120) = .bool true := slot_in (hin 120 (by decide)) rfl
      have h129 : a.eval (.tmp 129) = .bool true := slot_in (hin 129 (by decide)) rfl
      have h110 : a.eval (.tmp 110) = .bool false := slot_in (hin 110 (by decide)) rfl
      clear hin
      exact .inl ⟨wanted_yes rfl rfl h110, grow_pick rfl h120 h129⟩
    · intro a w1 hG hin
      have h110 : a.eval (.tmp 110) = .bool false := slot_in (hin 110 (by decide)) rfl
      have h130 : a.eval (.tmp 130) = .bool true := slot_in (hin 130 (by decide)) rfl
      have h106 : a.eval (.tmp 106) = .bool true := slot_in (hin 106 (by decide)) rfl
      clear hin
      exact .inl ⟨wanted_yes rfl rfl h106, grow_pick rfl h110 h130⟩
    · intro a w1 hG hin
      have h106 : a.eval (.tmp 106) = .bool true := slot_in (hin 106 (by decide)) rfl
      have h131 : a.eval (.tmp 131) = .bool true := slot_in (hin 131 (by decide)) rfl
      clear hin
      exact .inl ⟨wanted_none rfl, grow_pick rfl h106 h131⟩
    · intro a w1 hG hin
      have h132 : a.eval (.tmp 132) = .bool true := slot_in (hin 132 (by decide)) rfl
      clear hin
      exact .inl ⟨wanted_none rfl, grow_assign rfl h132⟩
    · intro s w10 hG hin hs
      have f4 : s 4 = .bool true := (hs 4 (by decide)).symm.trans (slot_in (hin 4) rfl)
      clear hin hs
      rw [show List.range 133 = [0, 1, 2, 3, 4, 5, 6, 7, 8, 9, 10, 11, 12, 13, 14, 15, 16, 17, 18, 19, 20, 21, 22, 23, 24, 25, 26, 27, 28, 29, 30, 31, 32, 33, 34, 35, 36, 37, 38, 39, 40, 41, 42, 43, 44, 45, 46, 47, 48, 49, 50, 51, 52, 53, 54, 55, 56, 57, 58, 59, 60, 61, 62, 63, 64, 65, 66, 67, 68, 69, 70, 71, 72, 73, 74, 75, 76, 77, 78, 79, 80, 81, 82, 83, 84, 85, 86, 87, 88, 89, 90, 91, 92, 93, 94, 95, 96, 97, 98, 99, 100, 101, 102, 103, 104, 105, 106, 107, 108, 109, 110, 111, 112, 113, 114, 115, 116, 117, 118, 119, 120, 121, 122, 123, 124, 125, 126, 127, 128, 129, 130, 131, 132] from rfl]
      simp only [List.map_cons, List.map_nil]
      rw [f4]
      go_wp2_with fail
      go_ret
      exact ⟨rfl, HG.out.trans hG⟩
end Bx
end Go.Proofs.YtlmmpcoakemooaaDoor
