/-
  ValueAll: whatever the two values and the sign, the statement's function returns true, and writes nothing that was there, where the table of the powers of ten stands as laid. No conditions.
-/
import Derived.Test.YtlmmpcoakemooaaDoorMayC
import Derived.Test.YtlmmpcoakemooaaDoorRBin
import Derived.Test.YtlmmpcoakemooaaDoorSign
import Derived.Test.YtlmmpcoakemooaaDoorWords
namespace Go.Proofs.YtlmmpcoakemooaaDoor
open Go.RowKit

namespace Bx
section
variable {a : Act} {w : World}
theorem grow_gt {o : Oper} {x y : Operand} {m n : Int} {Ψ : Post} (h : o.op = .binOp .gtr 3 x y 3) (hx : a.eval x = .int .i64 m) (hy : a.eval y = .int .i64 n) (hv : Ψ (.bool (decide (n < m))) w) : growAt Tryd.prog o a w Ψ := by
  refine grow_run ?_ hv
  unfold execOp
  rw [h]
  simp only [hx, hy]
  simp [go_sem, Tryd.underlying3]
end
theorem rbin_to {g : ByteArray} {t1 n1 t2 n2 : Int} {s1 s2 : ByteArray} {p q e : Int} {s : ByteArray} (h : binR g t1 n1 s1 t2 n2 s2 = ⟨p, q, s, e⟩) (ha : s1.size ≤ 60) (hb : s2.size ≤ 60) (w : World) :
    Calls Tryd.prog 18 #[.string g, V t1 n1 s1, V t2 n2 s2] w fun x w' => x = .returned (.tuple #[V p q s, .int .i64 e]) ∧ G w w' := by
  have k := rbin_any g t1 n1 s1 t2 n2 s2 w ha hb
  rw [h] at k
  exact k

set_option maxRecDepth 100000 in
set_option maxHeartbeats 8000000 in
theorem all_walk (t1 n1 t2 n2 : Int) (s1 s2 c1 c2 : ByteArray) (z : Int) (k : Nat) (w : World) (S : ByteArray) (p q e : Int) (u : ByteArray) (h1 : cut60 s1 = c1) (h2 : cut60 s2 = c2) (hz : z.tmod 13 = k) (hz0 : 0 ≤ z) (hz1 : z ≤ 255) (hk : k < 13) (hS : signOf k = S)
    (hR : binR S t1 n1 c1 t2 n2 c2 = ⟨p, q, u, e⟩) (z1 : c1.size ≤ 60) (z2 : c2.size ≤ 60) (b0 : -9223372036854775808 ≤ n1) (b1 : n1 ≤ 9223372036854775807) (ht : Tab w) :
    Calls Tryd.prog 8 #[V t1 n1 s1, V t2 n2 s2, .int .u8 z] w fun e w' => e = .returned (.bool true) ∧ G w w' := by
  unfold V
  go_enter Tryd.func8, Tryd.ntmps8
  go_wp2_with fail
  refine (shown_any _).mono ?_
  rintro e x1 ⟨rfl, g1⟩
  have B1 := hid (((At.alloc w t1 n1 s1).more (.cells #[.int .i64 t2, .int .i64 n2, .string s2] 24)).mono g1)
  have B2 := hid (At.after2 g1)
  have HG := hid ((((G.refl w).alloc (.cells #[.int .i64 t1, .int .i64 n1, .string s1] 24)).alloc (.cells #[.int .i64 t2, .int .i64 n2, .string s2] 24)).trans g1)
  clear g1
  obtain ⟨l1, p1, q1, r1, f1⟩ := B1.out
  obtain ⟨l2, p2, q2, r2, f2⟩ := B2.out
  go_wp2_with fail
  refine (short_to h1 _ _ _).mono ?_
  rintro e x2 ⟨rfl, g2⟩
  (try simp only [V])
  clear l1 p1 q1 r1 f1
  clear l2 p2 q2 r2 f2
  replace B1 := hid (B1.out.mono g2)
  replace B2 := hid (B2.out.mono g2)
  replace HG := hid (HG.out.trans g2)
  clear g2
  obtain ⟨l1, p1, q1, r1, f1⟩ := B1.out
  obtain ⟨l2, p2, q2, r2, f2⟩ := B2.out
  go_upto_region 3 with (fail)
  clear l1 p1 q1 r1 f1
  clear l2 p2 q2 r2 f2
  have D1 := B1.out.set t1 n1 c1
  have D2 := Bx.keep B2.out (c := w.heap.size) (by simp) t1 n1 c1
  have CG := G.set (G.set (G.set HG.out (p := ⟨w.heap.size, 0, none⟩) (by simp) (.int .i64 t1)) (p := ⟨w.heap.size, 1, none⟩) (by simp) (.int .i64 n1)) (p := ⟨w.heap.size, 2, none⟩) (by simp) (.string c1)
  generalize ((x2.setCell ⟨w.heap.size, 0, none⟩ (.int .i64 t1)).setCell ⟨w.heap.size, 1, none⟩ (.int .i64 n1)).setCell ⟨w.heap.size, 2, none⟩ (.string c1) = y1 at D1 D2 CG ⊢
  replace B1 := hid D1
  replace B2 := hid D2
  replace HG := hid CG
  clear CG D1 D2
  obtain ⟨l1, p1, q1, r1, f1⟩ := B1.out
  obtain ⟨l2, p2, q2, r2, f2⟩ := B2.out
  go_wp2_with fail
  refine (short_to h2 _ _ _).mono ?_
  rintro e x3 ⟨rfl, g3⟩
  (try simp only [V])
  clear l1 p1 q1 r1 f1
  clear l2 p2 q2 r2 f2
  replace B1 := hid (B1.out.mono g3)
  replace B2 := hid (B2.out.mono g3)
  replace HG := hid (HG.out.trans g3)
  clear g3
  obtain ⟨l1, p1, q1, r1, f1⟩ := B1.out
  obtain ⟨l2, p2, q2, r2, f2⟩ := B2.out
  go_upto_region 4 with (fail)
  clear l1 p1 q1 r1 f1
  clear l2 p2 q2 r2 f2
  have D2 := B2.out.set t2 n2 c2
  have D1 := Bx.keep B1.out (c := w.heap.size + 1) (by simp) t2 n2 c2
  have CG := G.set (G.set (G.set HG.out (p := ⟨w.heap.size + 1, 0, none⟩) (by simp) (.int .i64 t2)) (p := ⟨w.heap.size + 1, 1, none⟩) (by simp) (.int .i64 n2)) (p := ⟨w.heap.size + 1, 2, none⟩) (by simp) (.string c2)
  generalize ((x3.setCell ⟨w.heap.size + 1, 0, none⟩ (.int .i64 t2)).setCell ⟨w.heap.size + 1, 1, none⟩ (.int .i64 n2)).setCell ⟨w.heap.size + 1, 2, none⟩ (.string c2) = y2 at D1 D2 CG ⊢
  replace B1 := hid D1
  replace B2 := hid D2
  replace HG := hid CG
  clear CG D1 D2
  obtain ⟨l1, p1, q1, r1, f1⟩ := B1.out
  obtain ⟨l2, p2, q2, r2, f2⟩ := B2.out
  go_wp2_with fail
  refine (signs_any _).mono ?_
  rintro e x4 ⟨sb, rfl, g4, hs⟩
  clear l1 p1 q1 r1 f1
  clear l2 p2 q2 r2 f2
  replace B1 := hid (B1.out.mono g4)
  replace B2 := hid (B2.out.mono g4)
  replace HG := hid (HG.out.trans g4)
  clear g4
  have hs0 := hs k hk
  clear hs
  rw [hS] at hs0
  obtain ⟨l1, p1, q1, r1, f1⟩ := B1.out
  obtain ⟨l2, p2, q2, r2, f2⟩ := B2.out
  go_wp2_with fail
  refine (bin_to hR z1 z2 _).mono ?_
  rintro e7 x5 ⟨rfl, g5⟩
  (try simp only [V])
  clear hs0
  clear l1 p1 q1 r1 f1
  clear l2 p2 q2 r2 f2
  replace B1 := hid (B1.out.mono g5)
  replace B2 := hid (B2.out.mono g5)
  replace HG := hid (HG.out.trans g5)
  clear g5
  obtain ⟨l1, p1, q1, r1, f1⟩ := B1.out
  obtain ⟨l2, p2, q2, r2, f2⟩ := B2.out
  go_wp2_with fail
  refine (rbin_to hR z1 z2 _).mono ?_
  rintro e8 x6 ⟨rfl, g6⟩
  (try simp only [V])
  clear l1 p1 q1 r1 f1
  clear l2 p2 q2 r2 f2
  replace B1 := hid (B1.out.more (.cells #[.int .i64 p, .int .i64 q, .string u] 24))
  replace B2 := hid (B2.out.more (.cells #[.int .i64 p, .int .i64 q, .string u] 24))
  have B3 := hid (At.alloc x5 p q u)
  replace HG := hid (HG.out.alloc (.cells #[.int .i64 p, .int .i64 q, .string u] 24))
  replace B1 := hid (B1.out.mono g6)
  replace B2 := hid (B2.out.mono g6)
  replace B3 := hid (B3.out.mono g6)
  replace HG := hid (HG.out.trans g6)
  clear g6
  obtain ⟨l1, p1, q1, r1, f1⟩ := B1.out
  obtain ⟨l2, p2, q2, r2, f2⟩ := B2.out
  obtain ⟨l3, p3, q3, r3, f3⟩ := B3.out
  go_upto_region 7 with (fail)
  clear l1 p1 q1 r1 f1
  clear l2 p2 q2 r2 f2
  clear l3 p3 q3 r3 f3
  replace B1 := hid (B1.out.more (.cells #[.int .i64 p, .int .i64 q, .string u] 24))
  replace B2 := hid (B2.out.more (.cells #[.int .i64 p, .int .i64 q, .string u] 24))
  replace B3 := hid (B3.out.more (.cells #[.int .i64 p, .int .i64 q, .string u] 24))
  have B4 := hid (At.alloc x6 p q u)
  replace HG := hid (HG.out.alloc (.cells #[.int .i64 p, .int .i64 q, .string u] 24))
  refine wp_region_grows (says [Say.is (.pointer (some ⟨w.heap.size, 1, none⟩)), Say.is (.int .i64 n1), Say.is (V 1 n1 E), Say.is (.pointer (some ⟨w.heap.size, 1, none⟩)), Say.is (.int .i64 n1), Say.is (V 1 n1 E), Say.is (.bool true), Say.is (.bool true), Say.is (.pointer (some ⟨w.heap.size, 1, none⟩)), Say.is (.int .i64 n1), Say.is (.bool (decide (0 < n1))), Say.is (V 2 (one (decide (0 < n1))) E), Say.is (.pointer (some ⟨w.heap.size, 1, none⟩)), Say.is (.int .i64 n1), Say.is (.bool (decide (0 < n1))), Say.is (V 2 (one (decide (0 < n1))) E), Say.is (.bool true), Say.is (.bool true), Say.is (.bool true), Say.is (.pointer (some ⟨w.heap.size, 2, none⟩)), Say.is (.string c1), Say.is (V 3 0 c1), Say.is (.pointer (some ⟨w.heap.size, 2, none⟩)), Say.is (.string c1), Say.is (V 3 0 c1), Say.is (.bool true), Say.is (.bool true), Say.is (.bool true), Say.is (.pointer (some ⟨w.heap.size, 1, none⟩)), Say.is (.int .i64 n1), Say.is (V n1 0 E), Say.is (.pointer (some ⟨w.heap.size, 1, none⟩)), Say.is (.int .i64 n1), Say.is (V n1 0 E), Say.is (.bool true), Say.is (.bool true), Say.is (.bool true)]) 119 (by kernel_rfl) (by kernel_rfl) rfl (says_mono _) (allSteps_take ⟨?_, ?_, ?_, ?_, ?_, ?_, ?_, ?_, ?_, ?_, ?_, ?_, ?_, ?_, ?_, ?_, ?_, ?_, ?_, ?_, ?_, ?_, ?_, ?_, ?_, ?_, ?_, ?_, ?_, ?_, ?_, ?_, ?_, ?_, ?_, ?_, ?_, trivial⟩) ?_
  · intro a w1 hG hin
    have h3 : a.eval (.tmp 3) = .pointer (some ⟨w.heap.size, 0, none⟩) := slot_out (hin 3 (by decide)) rfl
    clear hin
    refine .inl ⟨wanted_none rfl, ?_⟩
    exact grow_addr rfl (by decide) h3 rfl
  · intro a w1 hG hin
    have h39 : a.eval (.tmp 39) = .pointer (some ⟨w.heap.size, 1, none⟩) := slot_in (hin 39 (by decide)) rfl
    clear hin
    refine .inl ⟨wanted_none rfl, ?_⟩
    exact grow_load1 rfl (B1.out.mono hG) h39 rfl
  · intro a w1 hG hin
    have h40 : a.eval (.tmp 40) = .int .i64 n1 := slot_in (hin 40 (by decide)) rfl
    clear hin
    refine .inl ⟨wanted_none rfl, ?_⟩
    exact grow_call Tryd.call11 #[.int .i64 n1] (by simp only [List.map_toArray, List.map_cons, List.map_nil, h40] <;> rfl) ((int_any _ _).mono (by rintro e w2 ⟨rfl, hg⟩; exact ⟨_, rfl, hg, rfl⟩))
  · intro a w1 hG hin
    have h3 : a.eval (.tmp 3) = .pointer (some ⟨w.heap.size, 0, none⟩) := slot_out (hin 3 (by decide)) rfl
    clear hin
    refine .inl ⟨wanted_none rfl, ?_⟩
    exact grow_addr rfl (by decide) h3 rfl
  · intro a w1 hG hin
    have h42 : a.eval (.tmp 42) = .pointer (some ⟨w.heap.size, 1, none⟩) := slot_in (hin 42 (by decide)) rfl
    clear hin
    refine .inl ⟨wanted_none rfl, ?_⟩
    exact grow_load1 rfl (B1.out.mono hG) h42 rfl
  · intro a w1 hG hin
    have h43 : a.eval (.tmp 43) = .int .i64 n1 := slot_in (hin 43 (by decide)) rfl
    clear hin
    refine .inl ⟨wanted_none rfl, ?_⟩
    exact grow_call Tryd.call19 #[.int .i64 n1] (by simp only [List.map_toArray, List.map_cons, List.map_nil, h43] <;> rfl) ((rint_any _ _).mono (by rintro e w2 ⟨rfl, hg⟩; exact ⟨_, rfl, hg, rfl⟩))
  · intro a w1 hG hin
    have h41 : a.eval (.tmp 41) = V 1 n1 E := slot_in (hin 41 (by decide)) rfl
    have h44 : a.eval (.tmp 44) = V 1 n1 E := slot_in (hin 44 (by decide)) rfl
    clear hin
    refine .inl ⟨wanted_none rfl, ?_⟩
    exact grow_eqV rfl h41 h44 (congrArg Value.bool (by simp [sameV]))
  · intro a w1 hG hin
    have h45 : a.eval (.tmp 45) = .bool true := slot_in (hin 45 (by decide)) rfl
    clear hin
    exact .inl ⟨wanted_none rfl, grow_move rfl h45⟩
  · intro a w1 hG hin
    have h3 : a.eval (.tmp 3) = .pointer (some ⟨w.heap.size, 0, none⟩) := slot_out (hin 3 (by decide)) rfl
    have h46 : a.eval (.tmp 46) = .bool true := slot_in (hin 46 (by decide)) rfl
    clear hin
    refine .inl ⟨wanted_yes rfl rfl h46, ?_⟩
    exact grow_addr rfl (by decide) h3 rfl
  · intro a w1 hG hin
    have h47 : a.eval (.tmp 47) = .pointer (some ⟨w.heap.size, 1, none⟩) := slot_in (hin 47 (by decide)) rfl
    have h46 : a.eval (.tmp 46) = .bool true := slot_in (hin 46 (by decide)) rfl
    clear hin
    refine .inl ⟨wanted_yes rfl rfl h46, ?_⟩
    exact grow_load1 rfl (B1.out.mono hG) h47 rfl
  · intro a w1 hG hin
    have h48 : a.eval (.tmp 48) = .int .i64 n1 := slot_in (hin 48 (by decide)) rfl
    have h46 : a.eval (.tmp 46) = .bool true := slot_in (hin 46 (by decide)) rfl
    clear hin
    refine .inl ⟨wanted_yes rfl rfl h46, ?_⟩
    exact grow_gt rfl h48 rfl rfl
  · intro a w1 hG hin
    have h49 : a.eval (.tmp 49) = .bool (decide (0 < n1)) := slot_in (hin 49 (by decide)) rfl
    have h46 : a.eval (.tmp 46) = .bool true := slot_in (hin 46 (by decide)) rfl
    clear hin
    refine .inl ⟨wanted_yes rfl rfl h46, ?_⟩
    exact grow_call Tryd.call14 #[.bool (decide (0 < n1))] (by simp only [List.map_toArray, List.map_cons, List.map_nil, h49] <;> rfl) ((bool_any _ _).mono (by rintro e w2 ⟨rfl, hg⟩; exact ⟨_, rfl, hg, rfl⟩))
  · intro a w1 hG hin
    have h3 : a.eval (.tmp 3) = .pointer (some ⟨w.heap.size, 0, none⟩) := slot_out (hin 3 (by decide)) rfl
    have h46 : a.eval (.tmp 46) = .bool true := slot_in (hin 46 (by decide)) rfl
    clear hin
    refine .inl ⟨wanted_yes rfl rfl h46, ?_⟩
    exact grow_addr rfl (by decide) h3 rfl
  · intro a w1 hG hin
    have h51 : a.eval (.tmp 51) = .pointer (some ⟨w.heap.size, 1, none⟩) := slot_in (hin 51 (by decide)) rfl
    have h46 : a.eval (.tmp 46) = .bool true := slot_in (hin 46 (by decide)) rfl
    clear hin
    refine .inl ⟨wanted_yes rfl rfl h46, ?_⟩
    exact grow_load1 rfl (B1.out.mono hG) h51 rfl
  · intro a w1 hG hin
    have h52 : a.eval (.tmp 52) = .int .i64 n1 := slot_in (hin 52 (by decide)) rfl
    have h46 : a.eval (.tmp 46) = .bool true := slot_in (hin 46 (by decide)) rfl
    clear hin
    refine .inl ⟨wanted_yes rfl rfl h46, ?_⟩
    exact grow_gt rfl h52 rfl rfl
  · intro a w1 hG hin
    have h53 : a.eval (.tmp 53) = .bool (decide (0 < n1)) := slot_in (hin 53 (by decide)) rfl
    have h46 : a.eval (.tmp 46) = .bool true := slot_in (hin 46 (by decide)) rfl
    clear hin
    refine .inl ⟨wanted_yes rfl rfl h46, ?_⟩
    exact grow_call Tryd.call20 #[.bool (decide (0 < n1))] (by simp only [List.map_toArray, List.map_cons, List.map_nil, h53] <;> rfl) ((rbool_any _ _).mono (by rintro e w2 ⟨rfl, hg⟩; exact ⟨_, rfl, hg, rfl⟩))
  · intro a w1 hG hin
    have h50 : a.eval (.tmp 50) = V 2 (one (decide (0 < n1))) E := slot_in (hin 50 (by decide)) rfl
    have h54 : a.eval (.tmp 54) = V 2 (one (decide (0 < n1))) E := slot_in (hin 54 (by decide)) rfl
    have h46 : a.eval (.tmp 46) = .bool true := slot_in (hin 46 (by decide)) rfl
    clear hin
    refine .inl ⟨wanted_yes rfl rfl h46, ?_⟩
    exact grow_eqV rfl h50 h54 (congrArg Value.bool (by simp [sameV]))
  · intro a w1 hG hin
    have h46 : a.eval (.tmp 46) = .bool true := slot_in (hin 46 (by decide)) rfl
    have h55 : a.eval (.tmp 55) = .bool true := slot_in (hin 55 (by decide)) rfl
    clear hin
    exact .inl ⟨wanted_none rfl, grow_pick rfl h46 h55⟩
  · intro a w1 hG hin
    have h56 : a.eval (.tmp 56) = .bool true := slot_in (hin 56 (by decide)) rfl
    clear hin
    exact .inl ⟨wanted_none rfl, grow_move rfl h56⟩
  · intro a w1 hG hin
    have h3 : a.eval (.tmp 3) = .pointer (some ⟨w.heap.size, 0, none⟩) := slot_out (hin 3 (by decide)) rfl
    have h57 : a.eval (.tmp 57) = .bool true := slot_in (hin 57 (by decide)) rfl
    clear hin
    refine .inl ⟨wanted_yes rfl rfl h57, ?_⟩
    exact grow_addr rfl (by decide) h3 rfl
  · intro a w1 hG hin
    have h58 : a.eval (.tmp 58) = .pointer (some ⟨w.heap.size, 2, none⟩) := slot_in (hin 58 (by decide)) rfl
    have h57 : a.eval (.tmp 57) = .bool true := slot_in (hin 57 (by decide)) rfl
    clear hin
    refine .inl ⟨wanted_yes rfl rfl h57, ?_⟩
    exact grow_load2 rfl (B1.out.mono hG) h58 rfl
  · intro a w1 hG hin
    have h59 : a.eval (.tmp 59) = .string c1 := slot_in (hin 59 (by decide)) rfl
    have h57 : a.eval (.tmp 57) = .bool true := slot_in (hin 57 (by decide)) rfl
    clear hin
    refine .inl ⟨wanted_yes rfl rfl h57, ?_⟩
    exact grow_call Tryd.call21 #[.string c1] (by simp only [List.map_toArray, List.map_cons, List.map_nil, h59] <;> rfl) ((text_any _ _).mono (by rintro e w2 ⟨rfl, hg⟩; exact ⟨_, rfl, hg, rfl⟩))
  · intro a w1 hG hin
    have h3 : a.eval (.tmp 3) = .pointer (some ⟨w.heap.size, 0, none⟩) := slot_out (hin 3 (by decide)) rfl
    have h57 : a.eval (.tmp 57) = .bool true := slot_in (hin 57 (by decide)) rfl
    clear hin
    refine .inl ⟨wanted_yes rfl rfl h57, ?_⟩
    exact grow_addr rfl (by decide) h3 rfl
  · intro a w1 hG hin
    have h61 : a.eval (.tmp 61) = .pointer (some ⟨w.heap.size, 2, none⟩) := slot_in (hin 61 (by decide)) rfl
    have h57 : a.eval (.tmp 57) = .bool true := slot_in (hin 57 (by decide)) rfl
    clear hin
    refine .inl ⟨wanted_yes rfl rfl h57, ?_⟩
    exact grow_load2 rfl (B1.out.mono hG) h61 rfl
  · intro a w1 hG hin
    have h62 : a.eval (.tmp 62) = .string c1 := slot_in (hin 62 (by decide)) rfl
    have h57 : a.eval (.tmp 57) = .bool true := slot_in (hin 57 (by decide)) rfl
    clear hin
    refine .inl ⟨wanted_yes rfl rfl h57, ?_⟩
    exact grow_call Tryd.call22 #[.string c1] (by simp only [List.map_toArray, List.map_cons, List.map_nil, h62] <;> rfl) ((rtext_any _ _).mono (by rintro e w2 ⟨rfl, hg⟩; exact ⟨_, rfl, hg, rfl⟩))
  · intro a w1 hG hin
    have h60 : a.eval (.tmp 60) = V 3 0 c1 := slot_in (hin 60 (by decide)) rfl
    have h63 : a.eval (.tmp 63) = V 3 0 c1 := slot_in (hin 63 (by decide)) rfl
    have h57 : a.eval (.tmp 57) = .bool true := slot_in (hin 57 (by decide)) rfl
    clear hin
    refine .inl ⟨wanted_yes rfl rfl h57, ?_⟩
    exact grow_eqV rfl h60 h63 (congrArg Value.bool (by simp [sameV]))
  · intro a w1 hG hin
    have h57 : a.eval (.tmp 57) = .bool true := slot_in (hin 57 (by decide)) rfl
    have h64 : a.eval (.tmp 64) = .bool true := slot_in (hin 64 (by decide)) rfl
    clear hin
    exact .inl ⟨wanted_none rfl, grow_pick rfl h57 h64⟩
  · intro a w1 hG hin
    have h65 : a.eval (.tmp 65) = .bool true := slot_in (hin 65 (by decide)) rfl
    clear hin
    exact .inl ⟨wanted_none rfl, grow_move rfl h65⟩
  · intro a w1 hG hin
    have h3 : a.eval (.tmp 3) = .pointer (some ⟨w.heap.size, 0, none⟩) := slot_out (hin 3 (by decide)) rfl
    have h66 : a.eval (.tmp 66) = .bool true := slot_in (hin 66 (by decide)) rfl
    clear hin
    refine .inl ⟨wanted_yes rfl rfl h66, ?_⟩
    exact grow_addr rfl (by decide) h3 rfl
  · intro a w1 hG hin
    have h67 : a.eval (.tmp 67) = .pointer (some ⟨w.heap.size, 1, none⟩) := slot_in (hin 67 (by decide)) rfl
    have h66 : a.eval (.tmp 66) = .bool true := slot_in (hin 66 (by decide)) rfl
    clear hin
    refine .inl ⟨wanted_yes rfl rfl h66, ?_⟩
    exact grow_load1 rfl (B1.out.mono hG) h67 rfl
  · intro a w1 hG hin
    have h68 : a.eval (.tmp 68) = .int .i64 n1 := slot_in (hin 68 (by decide)) rfl
    have h66 : a.eval (.tmp 66) = .bool true := slot_in (hin 66 (by decide)) rfl
    clear hin
    refine .inl ⟨wanted_yes rfl rfl h66, ?_⟩
    exact grow_call Tryd.call23 #[.int .i64 n1] (by simp only [List.map_toArray, List.map_cons, List.map_nil, h68] <;> rfl) ((zero_any _ _).mono (by rintro e w2 ⟨rfl, hg⟩; exact ⟨_, rfl, hg, rfl⟩))
  · intro a w1 hG hin
    have h3 : a.eval (.tmp 3) = .pointer (some ⟨w.heap.size, 0, none⟩) := slot_out (hin 3 (by decide)) rfl
    have h66 : a.eval (.tmp 66) = .bool true := slot_in (hin 66 (by decide)) rfl
    clear hin
    refine .inl ⟨wanted_yes rfl rfl h66, ?_⟩
    exact grow_addr rfl (by decide) h3 rfl
  · intro a w1 hG hin
    have h70 : a.eval (.tmp 70) = .pointer (some ⟨w.heap.size, 1, none⟩) := slot_in (hin 70 (by decide)) rfl
    have h66 : a.eval (.tmp 66) = .bool true := slot_in (hin 66 (by decide)) rfl
    clear hin
    refine .inl ⟨wanted_yes rfl rfl h66, ?_⟩
    exact grow_load1 rfl (B1.out.mono hG) h70 rfl
  · intro a w1 hG hin
    have h71 : a.eval (.tmp 71) = .int .i64 n1 := slot_in (hin 71 (by decide)) rfl
    have h66 : a.eval (.tmp 66) = .bool true := slot_in (hin 66 (by decide)) rfl
    clear hin
    refine .inl ⟨wanted_yes rfl rfl h66, ?_⟩
    exact grow_call Tryd.call24 #[.int .i64 n1] (by simp only [List.map_toArray, List.map_cons, List.map_nil, h71] <;> rfl) ((rzero_any _ _).mono (by rintro e w2 ⟨rfl, hg⟩; exact ⟨_, rfl, hg, rfl⟩))
  · intro a w1 hG hin
    have h69 : a.eval (.tmp 69) = V n1 0 E := slot_in (hin 69 (by decide)) rfl
    have h72 : a.eval (.tmp 72) = V n1 0 E := slot_in (hin 72 (by decide)) rfl
    have h66 : a.eval (.tmp 66) = .bool true := slot_in (hin 66 (by decide)) rfl
    clear hin
    refine .inl ⟨wanted_yes rfl rfl h66, ?_⟩
    exact grow_eqV rfl h69 h72 (congrArg Value.bool (by simp [sameV]))
  · intro a w1 hG hin
    have h66 : a.eval (.tmp 66) = .bool true := slot_in (hin 66 (by decide)) rfl
    have h73 : a.eval (.tmp 73) = .bool true := slot_in (hin 73 (by decide)) rfl
    clear hin
    exact .inl ⟨wanted_none rfl, grow_pick rfl h66 h73⟩
  · intro a w1 hG hin
    have h74 : a.eval (.tmp 74) = .bool true := slot_in (hin 74 (by decide)) rfl
    clear hin
    exact .inl ⟨wanted_none rfl, grow_assign rfl h74⟩
  · intro s w9 hG hin hs
    have f3 : s 3 = .pointer (some ⟨w.heap.size, 0, none⟩) := (hs 3 (by decide)).symm.trans (slot_out (hin 3) rfl)
    have f4 : s 4 = .pointer (some ⟨w.heap.size + 1, 0, none⟩) := (hs 4 (by decide)).symm.trans (slot_out (hin 4) rfl)
    have f6 : s 6 = .bool false := (hs 6 (by decide)).symm.trans (slot_out (hin 6) rfl)
    have f7 : s 7 = .bool true := (hs 7 (by decide)).symm.trans (slot_out (hin 7) rfl)
    have f8 : s 8 = .string S := (hs 8 (by decide)).symm.trans (slot_out (hin 8) rfl)
    have f9 : s 9 = .pointer (some ⟨x5.heap.size, 0, none⟩) := (hs 9 (by decide)).symm.trans (slot_out (hin 9) rfl)
    have f10 : s 10 = .int .i64 e := (hs 10 (by decide)).symm.trans (slot_out (hin 10) rfl)
    have f11 : s 11 = .pointer (some ⟨x6.heap.size, 0, none⟩) := (hs 11 (by decide)).symm.trans (slot_out (hin 11) rfl)
    have f12 : s 12 = .int .i64 e := (hs 12 (by decide)).symm.trans (slot_out (hin 12) rfl)
    have f13 : s 13 = .bool true := (hs 13 (by decide)).symm.trans (slot_in (hin 13) rfl)
    clear hin hs
    rw [show List.range 119 = [0, 1, 2, 3, 4, 5, 6, 7, 8, 9, 10, 11, 12, 13, 14, 15, 16, 17, 18, 19, 20, 21, 22, 23, 24, 25, 26, 27, 28, 29, 30, 31, 32, 33, 34, 35, 36, 37, 38, 39, 40, 41, 42, 43, 44, 45, 46, 47, 48, 49, 50, 51, 52, 53, 54, 55, 56, 57, 58, 59, 60, 61, 62, 63, 64, 65, 66, 67, 68, 69, 70, 71, 72, 73, 74, 75, 76, 77, 78, 79, 80, 81, 82, 83, 84, 85, 86, 87, 88, 89, 90, 91, 92, 93, 94, 95, 96, 97, 98, 99, 100, 101, 102, 103, 104, 105, 106, 107, 108, 109, 110, 111, 112, 113, 114, 115, 116, 117, 118] from rfl]
    simp only [List.map_cons, List.map_nil]
    rw [f3, f4, f6, f7, f8, f9, f10, f11, f12, f13]
    replace B1 := hid (B1.out.mono hG)
    replace B2 := hid (B2.out.mono hG)
    replace B3 := hid (B3.out.mono hG)
    replace B4 := hid (B4.out.mono hG)
    replace HG := hid (HG.out.trans hG)
    clear hG f3 f4 f6 f7 f8 f9 f10 f11 f12 f13
    (try simp only [List.drop_succ_cons, List.drop_zero])
    go_upto_region 8 with (fail)
    refine wp_region_grows (says [Say.is (.bool true), Say.is (.bool true), Say.is (.bool true), Say.is (.bool true), Say.is (.bool true), Say.is (V p q u), Say.is (V p q u), Say.is (.bool true), Say.is (.bool true), Say.is (.bool true), Say.is (.int .i64 e), Say.is (.int .i64 e), Say.is (.bool true), Say.is (.bool true), Say.is (.bool true), Say.is (.string S), Say.is (V t1 n1 c1), Say.is (V (signR S t1 n1).t (signR S t1 n1).n (signR S t1 n1).s), Say.is (.string S), Say.is (V t1 n1 c1), Say.is (V (signR S t1 n1).t (signR S t1 n1).n (signR S t1 n1).s), Say.is (.bool true), Say.is (.bool true), Say.is (.bool true), Say.is (V t1 n1 c1), Say.is (.bool (mayB t1 n1 c1)), Say.is (V t1 n1 c1), Say.is (.bool (mayB t1 n1 c1)), Say.is (.bool true), Say.is (.bool true), Say.is (.bool true), Say.is (V t1 n1 c1), Say.is (.string (wordR t1 n1 c1)), Say.is (V t1 n1 c1), Say.is (.string (wordR t1 n1 c1)), Say.is (.bool true), Say.is (.bool true), Say.is (.bool true), Say.is (V t1 n1 c1), Say.is (.string (quotedR t1 n1 c1)), Say.is (V t1 n1 c1), Say.is (.string (quotedR t1 n1 c1)), Say.is (.bool true), Say.is (.bool true), Say.is (.bool true)]) 119 (by kernel_rfl) (by kernel_rfl) rfl (says_mono _) (allSteps_take ⟨?_, ?_, ?_, ?_, ?_, ?_, ?_, ?_, ?_, ?_, ?_, ?_, ?_, ?_, ?_, ?_, ?_, ?_, ?_, ?_, ?_, ?_, ?_, ?_, ?_, ?_, ?_, ?_, ?_, ?_, ?_, ?_, ?_, ?_, ?_, ?_, ?_, ?_, ?_, ?_, ?_, ?_, ?_, ?_, ?_, trivial⟩) ?_
    · intro a w1 hG hin
      have h7 : a.eval (.tmp 7) = .bool true := slot_out (hin 7 (by decide)) rfl
      clear hin
      exact .inl ⟨wanted_none rfl, grow_move rfl h7⟩
    · intro a w1 hG hin
      have h75 : a.eval (.tmp 75) = .bool true := slot_in (hin 75 (by decide)) rfl
      clear hin
      exact .inl ⟨wanted_none rfl, grow_move rfl h75⟩
    · intro a w1 hG hin
      have h13 : a.eval (.tmp 13) = .bool true := slot_out (hin 13 (by decide)) rfl
      have h76 : a.eval (.tmp 76) = .bool true := slot_in (hin 76 (by decide)) rfl
      clear hin
      exact .inl ⟨wanted_yes rfl rfl h76, grow_move rfl h13⟩
    · intro a w1 hG hin
      have h76 : a.eval (.tmp 76) = .bool true := slot_in (hin 76 (by decide)) rfl
      have h77 : a.eval (.tmp 77) = .bool true := slot_in (hin 77 (by decide)) rfl
      clear hin
      exact .inl ⟨wanted_none rfl, grow_pick rfl h76 h77⟩
    · intro a w1 hG hin
      have h78 : a.eval (.tmp 78) = .bool true := slot_in (hin 78 (by decide)) rfl
      clear hin
      exact .inl ⟨wanted_none rfl, grow_move rfl h78⟩
    · intro a w1 hG hin
      have h9 : a.eval (.tmp 9) = .pointer (some ⟨x5.heap.size, 0, none⟩) := slot_out (hin 9 (by decide)) rfl
      have h79 : a.eval (.tmp 79) = .bool true := slot_in (hin 79 (by decide)) rfl
      clear hin
      refine .inl ⟨wanted_yes rfl rfl h79, ?_⟩
      exact grow_load rfl (B3.out.mono hG) h9 rfl
    · intro a w1 hG hin
      have h11 : a.eval (.tmp 11) = .pointer (some ⟨x6.heap.size, 0, none⟩) := slot_out (hin 11 (by decide)) rfl
      have h79 : a.eval (.tmp 79) = .bool true := slot_in (hin 79 (by decide)) rfl
      clear hin
      refine .inl ⟨wanted_yes rfl rfl h79, ?_⟩
      exact grow_load rfl (B4.out.mono hG) h11 rfl
    · intro a w1 hG hin
      have h80 : a.eval (.tmp 80) = V p q u := slot_in (hin 80 (by decide)) rfl
      have h81 : a.eval (.tmp 81) = V p q u := slot_in (hin 81 (by decide)) rfl
      have h79 : a.eval (.tmp 79) = .bool true := slot_in (hin 79 (by decide)) rfl
      clear hin
      refine .inl ⟨wanted_yes rfl rfl h79, ?_⟩
      exact grow_eqV rfl h80 h81 (congrArg Value.bool (by simp [sameV]))
    · intro a w1 hG hin
      have h79 : a.eval (.tmp 79) = .bool true := slot_in (hin 79 (by decide)) rfl
      have h82 : a.eval (.tmp 82) = .bool true := slot_in (hin 82 (by decide)) rfl
      clear hin
      exact .inl ⟨wanted_none rfl, grow_pick rfl h79 h82⟩
    · intro a w1 hG hin
      have h83 : a.eval (.tmp 83) = .bool true := slot_in (hin 83 (by decide)) rfl
      clear hin
      exact .inl ⟨wanted_none rfl, grow_move rfl h83⟩
    · intro a w1 hG hin
      have h10 : a.eval (.tmp 10) = .int .i64 e := slot_out (hin 10 (by decide)) rfl
      have h84 : a.eval (.tmp 84) = .bool true := slot_in (hin 84 (by decide)) rfl
      clear hin
      exact .inl ⟨wanted_yes rfl rfl h84, grow_move rfl h10⟩
    · intro a w1 hG hin
      have h12 : a.eval (.tmp 12) = .int .i64 e := slot_out (hin 12 (by decide)) rfl
      have h84 : a.eval (.tmp 84) = .bool true := slot_in (hin 84 (by decide)) rfl
      clear hin
      exact .inl ⟨wanted_yes rfl rfl h84, grow_move rfl h12⟩
    · intro a w1 hG hin
      have h85 : a.eval (.tmp 85) = .int .i64 e := slot_in (hin 85 (by decide)) rfl
      have h86 : a.eval (.tmp 86) = .int .i64 e := slot_in (hin 86 (by decide)) rfl
      have h84 : a.eval (.tmp 84) = .bool true := slot_in (hin 84 (by decide)) rfl
      clear hin
      refine .inl ⟨wanted_yes rfl rfl h84, ?_⟩
      exact grow_eqint rfl h85 h86 (congrArg Value.bool (by simp))
    · intro a w1 hG hin
      have h84 : a.eval (.tmp 84) = .bool true := slot_in (hin 84 (by decide)) rfl
      have h87 : a.eval (.tmp 87) = .bool true := slot_in (hin 87 (by decide)) rfl
      clear hin
      exact .inl ⟨wanted_none rfl, grow_pick rfl h84 h87⟩
    · intro a w1 hG hin
      have h88 : a.eval (.tmp 88) = .bool true := slot_in (hin 88 (by decide)) rfl
      clear hin
      exact .inl ⟨wanted_none rfl, grow_move rfl h88⟩
    · intro a w1 hG hin
      have h8 : a.eval (.tmp 8) = .string S := slot_out (hin 8 (by decide)) rfl
      have h89 : a.eval (.tmp 89) = .bool true := slot_in (hin 89 (by decide)) rfl
      clear hin
      exact .inl ⟨wanted_yes rfl rfl h89, grow_move rfl h8⟩
    · intro a w1 hG hin
      have h3 : a.eval (.tmp 3) = .pointer (some ⟨w.heap.size, 0, none⟩) := slot_out (hin 3 (by decide)) rfl
      have h89 : a.eval (.tmp 89) = .bool true := slot_in (hin 89 (by decide)) rfl
      clear hin
      refine .inl ⟨wanted_yes rfl rfl h89, ?_⟩
      exact grow_load rfl (B1.out.mono hG) h3 rfl
    · intro a w1 hG hin
      have h90 : a.eval (.tmp 90) = .string S := slot_in (hin 90 (by decide)) rfl
      have h91 : a.eval (.tmp 91) = V t1 n1 c1 := slot_in (hin 91 (by decide)) rfl
      have h89 : a.eval (.tmp 89) = .bool true := slot_in (hin 89 (by decide)) rfl
      clear hin
      refine .inl ⟨wanted_yes rfl rfl h89, ?_⟩
      exact grow_call Tryd.call13 #[.string S, V t1 n1 c1] (by simp only [List.map_toArray, List.map_cons, List.map_nil, h90, h91] <;> rfl) ((sign_any _ _ _ _ _).mono (by rintro e w2 ⟨rfl, hg⟩; exact ⟨_, rfl, hg, rfl⟩))
    · intro a w1 hG hin
      have h8 : a.eval (.tmp 8) = .string S := slot_out (hin 8 (by decide)) rfl
      have h89 : a.eval (.tmp 89) = .bool true := slot_in (hin 89 (by decide)) rfl
      clear hin
      exact .inl ⟨wanted_yes rfl rfl h89, grow_move rfl h8⟩
    · intro a w1 hG hin
      have h3 : a.eval (.tmp 3) = .pointer (some ⟨w.heap.size, 0, none⟩) := slot_out (hin 3 (by decide)) rfl
      have h89 : a.eval (.tmp 89) = .bool true := slot_in (hin 89 (by decide)) rfl
      clear hin
      refine .inl ⟨wanted_yes rfl rfl h89, ?_⟩
      exact grow_load rfl (B1.out.mono hG) h3 rfl
    · intro a w1 hG hin
      have h93 : a.eval (.tmp 93) = .string S := slot_in (hin 93 (by decide)) rfl
      have h94 : a.eval (.tmp 94) = V t1 n1 c1 := slot_in (hin 94 (by decide)) rfl
      have h89 : a.eval (.tmp 89) = .bool true := slot_in (hin 89 (by decide)) rfl
      clear hin
      refine .inl ⟨wanted_yes rfl rfl h89, ?_⟩
      exact grow_call Tryd.call25 #[.string S, V t1 n1 c1] (by simp only [List.map_toArray, List.map_cons, List.map_nil, h93, h94] <;> rfl) ((rsign_any _ _ _ _ _).mono (by rintro e w2 ⟨rfl, hg⟩; exact ⟨_, rfl, hg, rfl⟩))
    · intro a w1 hG hin
      have h92 : a.eval (.tmp 92) = V (signR S t1 n1).t (signR S t1 n1).n (signR S t1 n1).s := slot_in (hin 92 (by decide)) rfl
      have h95 : a.eval (.tmp 95) = V (signR S t1 n1).t (signR S t1 n1).n (signR S t1 n1).s := slot_in (hin 95 (by decide)) rfl
      have h89 : a.eval (.tmp 89) = .bool true := slot_in (hin 89 (by decide)) rfl
      clear hin
      refine .inl ⟨wanted_yes rfl rfl h89, ?_⟩
      exact grow_eqV rfl h92 h95 (congrArg Value.bool (by simp [sameV]))
    · intro a w1 hG hin
      have h89 : a.eval (.tmp 89) = .bool true := slot_in (hin 89 (by decide)) rfl
      have h96 : a.eval (.tmp 96) = .bool true := slot_in (hin 96 (by decide)) rfl
      clear hin
      exact .inl ⟨wanted_none rfl, grow_pick rfl h89 h96⟩
    · intro a w1 hG hin
      have h97 : a.eval (.tmp 97) = .bool true := slot_in (hin 97 (by decide)) rfl
      clear hin
      exact .inl ⟨wanted_none rfl, grow_move rfl h97⟩
    · intro a w1 hG hin
      have h3 : a.eval (.tmp 3) = .pointer (some ⟨w.heap.size, 0, none⟩) := slot_out (hin 3 (by decide)) rfl
      have h98 : a.eval (.tmp 98) = .bool true := slot_in (hin 98 (by decide)) rfl
      clear hin
      refine .inl ⟨wanted_yes rfl rfl h98, ?_⟩
      exact grow_load rfl (B1.out.mono hG) h3 rfl
    · intro a w1 hG hin
      have h99 : a.eval (.tmp 99) = V t1 n1 c1 := slot_in (hin 99 (by decide)) rfl
      have h98 : a.eval (.tmp 98) = .bool true := slot_in (hin 98 (by decide)) rfl
      clear hin
      refine .inl ⟨wanted_yes rfl rfl h98, ?_⟩
      exact grow_call Tryd.call17 #[V t1 n1 c1] (by simp only [List.map_toArray, List.map_cons, List.map_nil, h99] <;> rfl) ((may_any _ _ _ _).mono (by rintro e w2 ⟨rfl, hg⟩; exact ⟨_, rfl, hg, rfl⟩))
    · intro a w1 hG hin
      have h3 : a.eval (.tmp 3) = .pointer (some ⟨w.heap.size, 0, none⟩) := slot_out (hin 3 (by decide)) rfl
      have h98 : a.eval (.tmp 98) = .bool true := slot_in (hin 98 (by decide)) rfl
      clear hin
      refine .inl ⟨wanted_yes rfl rfl h98, ?_⟩
      exact grow_load rfl (B1.out.mono hG) h3 rfl
    · intro a w1 hG hin
      have h101 : a.eval (.tmp 101) = V t1 n1 c1 := slot_in (hin 101 (by decide)) rfl
      have h98 : a.eval (.tmp 98) = .bool true := slot_in (hin 98 (by decide)) rfl
      clear hin
      refine .inl ⟨wanted_yes rfl rfl h98, ?_⟩
      exact grow_call Tryd.call26 #[V t1 n1 c1] (by simp only [List.map_toArray, List.map_cons, List.map_nil, h101] <;> rfl) ((rmay_any _ _ _ _).mono (by rintro e w2 ⟨rfl, hg⟩; exact ⟨_, rfl, hg, rfl⟩))
    · intro a w1 hG hin
      have h100 : a.eval (.tmp 100) = .bool (mayB t1 n1 c1) := slot_in (hin 100 (by decide)) rfl
      have h102 : a.eval (.tmp 102) = .bool (mayB t1 n1 c1) := slot_in (hin 102 (by decide)) rfl
      have h98 : a.eval (.tmp 98) = .bool true := slot_in (hin 98 (by decide)) rfl
      clear hin
      refine .inl ⟨wanted_yes rfl rfl h98, ?_⟩
      exact grow_eqbool rfl Tryd.underlying4 h100 h102 (congrArg Value.bool (by simp))
    · intro a w1 hG hin
      have h98 : a.eval (.tmp 98) = .bool true := slot_in (hin 98 (by decide)) rfl
      have h103 : a.eval (.tmp 103) = .bool true := slot_in (hin 103 (by decide)) rfl
      clear hin
      exact .inl ⟨wanted_none rfl, grow_pick rfl h98 h103⟩
    · intro a w1 hG hin
      have h104 : a.eval (.tmp 104) = .bool true := slot_in (hin 104 (by decide)) rfl
      clear hin
      exact .inl ⟨wanted_none rfl, grow_move rfl h104⟩
    · intro a w1 hG hin
      have h3 : a.eval (.tmp 3) = .pointer (some ⟨w.heap.size, 0, none⟩) := slot_out (hin 3 (by decide)) rfl
      have h105 : a.eval (.tmp 105) = .bool true := slot_in (hin 105 (by decide)) rfl
      clear hin
      refine .inl ⟨wanted_yes rfl rfl h105, ?_⟩
      exact grow_load rfl (B1.out.mono hG) h3 rfl
    · intro a w1 hG hin
      have h106 : a.eval (.tmp 106) = V t1 n1 c1 := slot_in (hin 106 (by decide)) rfl
      have h105 : a.eval (.tmp 105) = .bool true := slot_in (hin 105 (by decide)) rfl
      clear hin
      refine .inl ⟨wanted_yes rfl rfl h105, ?_⟩
      exact grow_call Tryd.call27 #[V t1 n1 c1] (by simp only [List.map_toArray, List.map_cons, List.map_nil, h106] <;> rfl) ((word_any _ _ _ _ b0 b1 (tab_on ht (HG.out.trans hG))).mono (by rintro e w2 ⟨rfl, hg⟩; exact ⟨_, rfl, hg, rfl⟩))
    · intro a w1 hG hin
      have h3 : a.eval (.tmp 3) = .pointer (some ⟨w.heap.size, 0, none⟩) := slot_out (hin 3 (by decide)) rfl
      have h105 : a.eval (.tmp 105) = .bool true := slot_in (hin 105 (by decide)) rfl
      clear hin
      refine .inl ⟨wanted_yes rfl rfl h105, ?_⟩
      exact grow_load rfl (B1.out.mono hG) h3 rfl
    · intro a w1 hG hin
      have h108 : a.eval (.tmp 108) = V t1 n1 c1 := slot_in (hin 108 (by decide)) rfl
      have h105 : a.eval (.tmp 105) = .bool true := slot_in (hin 105 (by decide)) rfl
      clear hin
      refine .inl ⟨wanted_yes rfl rfl h105, ?_⟩
      exact grow_call Tryd.call28 #[V t1 n1 c1] (by simp only [List.map_toArray, List.map_cons, List.map_nil, h108] <;> rfl) ((rword_any _ _ _ _ b0 b1 (tab_on ht (HG.out.trans hG))).mono (by rintro e w2 ⟨rfl, hg⟩; exact ⟨_, rfl, hg, rfl⟩))
    · intro a w1 hG hin
      have h107 : a.eval (.tmp 107) = .string (wordR t1 n1 c1) := slot_in (hin 107 (by decide)) rfl
      have h109 : a.eval (.tmp 109) = .string (wordR t1 n1 c1) := slot_in (hin 109 (by decide)) rfl
      have h105 : a.eval (.tmp 105) = .bool true := slot_in (hin 105 (by decide)) rfl
      clear hin
      refine .inl ⟨wanted_yes rfl rfl h105, ?_⟩
      exact grow_eqtext rfl h107 h109 (congrArg Value.bool (by simp))
    · intro a w1 hG hin
      have h105 : a.eval (.tmp 105) = .bool true := slot_in (hin 105 (by decide)) rfl
      have h110 : a.eval (.tmp 110) = .bool true := slot_in (hin 110 (by decide)) rfl
      clear hin
      exact .inl ⟨wanted_none rfl, grow_pick rfl h105 h110⟩
    · intro a w1 hG hin
      have h111 : a.eval (.tmp 111) = .bool true := slot_in (hin 111 (by decide)) rfl
      clear hin
      exact .inl ⟨wanted_none rfl, grow_move rfl h111⟩
    · intro a w1 hG hin
      have h3 : a.eval (.tmp 3) = .pointer (some ⟨w.heap.size, 0, none⟩) := slot_out (hin 3 (by decide)) rfl
      have h112 : a.eval (.tmp 112) = .bool true := slot_in (hin 112 (by decide)) rfl
      clear hin
      refine .inl ⟨wanted_yes rfl rfl h112, ?_⟩
      exact grow_load rfl (B1.out.mono hG) h3 rfl
    · intro a w1 hG hin
      have h113 : a.eval (.tmp 113) = V t1 n1 c1 := slot_in (hin 113 (by decide)) rfl
      have h112 : a.eval (.tmp 112) = .bool true := slot_in (hin 112 (by decide)) rfl
      clear hin
      refine .inl ⟨wanted_yes rfl rfl h112, ?_⟩
      exact grow_call Tryd.call29 #[V t1 n1 c1] (by simp only [List.map_toArray, List.map_cons, List.map_nil, h113] <;> rfl) ((quoted_any _ _ _ _ b0 b1 (tab_on ht (HG.out.trans hG)) z1).mono (by rintro e w2 ⟨rfl, hg⟩; exact ⟨_, rfl, hg, rfl⟩))
    · intro a w1 hG hin
      have h3 : a.eval (.tmp 3) = .pointer (some ⟨w.heap.size, 0, none⟩) := slot_out (hin 3 (by decide)) rfl
      have h112 : a.eval (.tmp 112) = .bool true := slot_in (hin 112 (by decide)) rfl
      clear hin
      refine .inl ⟨wanted_yes rfl rfl h112, ?_⟩
      exact grow_load rfl (B1.out.mono hG) h3 rfl
    · intro a w1 hG hin
      have h115 : a.eval (.tmp 115) = V t1 n1 c1 := slot_in (hin 115 (by decide)) rfl
      have h112 : a.eval (.tmp 112) = .bool true := slot_in (hin 112 (by decide)) rfl
      clear hin
      refine .inl ⟨wanted_yes rfl rfl h112, ?_⟩
      exact grow_call Tryd.call30 #[V t1 n1 c1] (by simp only [List.map_toArray, List.map_cons, List.map_nil, h115] <;> rfl) ((rquoted_any _ _ _ _ b0 b1 (tab_on ht (HG.out.trans hG)) z1).mono (by rintro e w2 ⟨rfl, hg⟩; exact ⟨_, rfl, hg, rfl⟩))
    · intro a w1 hG hin
      have h114 : a.eval (.tmp 114) = .string (quotedR t1 n1 c1) := slot_in (hin 114 (by decide)) rfl
      have h116 : a.eval (.tmp 116) = .string (quotedR t1 n1 c1) := slot_in (hin 116 (by decide)) rfl
      have h112 : a.eval (.tmp 112) = .bool true := slot_in (hin 112 (by decide)) rfl
      clear hin
      refine .inl ⟨wanted_yes rfl rfl h112, ?_⟩
      exact grow_eqtext rfl h114 h116 (congrArg Value.bool (by simp))
    · intro a w1 hG hin
      have h112 : a.eval (.tmp 112) = .bool true := slot_in (hin 112 (by decide)) rfl
      have h117 : a.eval (.tmp 117) = .bool true := slot_in (hin 117 (by decide)) rfl
      clear hin
      exact .inl ⟨wanted_none rfl, grow_pick rfl h112 h117⟩
    · intro a w1 hG hin
      have h118 : a.eval (.tmp 118) = .bool true := slot_in (hin 118 (by decide)) rfl
      clear hin
      exact .inl ⟨wanted_none rfl, grow_assign rfl h118⟩
    · intro s w10 hG hin hs
      have f6 : s 6 = .bool true := (hs 6 (by decide)).symm.trans (slot_in (hin 6) rfl)
      clear hin hs
      rw [show List.range 119 = [0, 1, 2, 3, 4, 5, 6, 7, 8, 9, 10, 11, 12, 13, 14, 15, 16, 17, 18, 19, 20, 21, 22, 23, 24, 25, 26, 27, 28, 29, 30, 31, 32, 33, 34, 35, 36, 37, 38, 39, 40, 41, 42, 43, 44, 45, 46, 47, 48, 49, 50, 51, 52, 53, 54, 55, 56, 57, 58, 59, 60, 61, 62, 63, 64, 65, 66, 67, 68, 69, 70, 71, 72, 73, 74, 75, 76, 77, 78, 79, 80, 81, 82, 83, 84, 85, 86, 87, 88, 89, 90, 91, 92, 93, 94, 95, 96, 97, 98, 99, 100, 101, 102, 103, 104, 105, 106, 107, 108, 109, 110, 111, 112, 113, 114, 115, 116, 117, 118] from rfl]
      simp only [List.map_cons, List.map_nil]
      rw [f6]
      go_wp2_with fail
      go_ret
      exact ⟨rfl, HG.out.trans hG⟩

theorem all_law (t1 n1 t2 n2 : Int) (s1 s2 : ByteArray) (z : Int) (w : World) (h0 : 0 ≤ z) (h1 : z ≤ 255) (b0 : -9223372036854775808 ≤ n1) (b1 : n1 ≤ 9223372036854775807) (ht : Tab w) :
    Calls Tryd.prog 8 #[V t1 n1 s1, V t2 n2 s2, .int .u8 z] w fun e w' => e = .returned (.bool true) ∧ G w w' := by
  obtain ⟨k, hk, hz⟩ : ∃ k : Nat, k < 13 ∧ z.tmod 13 = k := by
    refine ⟨(z.tmod 13).toNat, ?_, ?_⟩
    · have := Int.tmod_lt_of_pos z (show (0 : Int) < 13 by decide)
      omega
    · have := Int.tmod_nonneg 13 h0
      omega
  exact all_walk t1 n1 t2 n2 s1 s2 _ _ z k w _ _ _ _ _ rfl rfl hz h0 h1 hk rfl rfl (cut60_size s1) (cut60_size s2) b0 b1 ht
end Bx
end Go.Proofs.YtlmmpcoakemooaaDoor
