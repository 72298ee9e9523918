/-
  The walk over ValueRings: it returns true, and writes nothing that was there. No conditions.
-/
import Derived.Test.YtlmmpcoakemooaaDoorNums
namespace Go.Proofs.YtlmmpcoakemooaaDoor
open Go.RowKit

set_option maxRecDepth 100000 in
set_option maxHeartbeats 4000000 in
theorem rings_walk (a b c m n l p r i : Int) (w : World) (h1 : wrap64 (a + b) = m) (h2 : wrap64 (b + a) = m) (h3 : wrap64 (b + c) = n) (h4 : wrap64 (m + c) = l) (h5 : wrap64 (a + n) = l) (h6 : wrap64 (a * b) = p) (h7 : wrap64 (b * a) = p) (h8 : wrap64 (a * c) = r) (h9 : wrap64 (a * n) = i) (h10 : wrap64 (p + r) = i) :
    Calls Tryd.prog 4 #[.int .i64 a, .int .i64 b, .int .i64 c] w fun e w' => e = .returned (.bool true) ∧ G w w' := by
  go_enter Tryd.func4, Tryd.ntmps4
  go_wp2_with fail
  refine (shown_any _).mono ?_
  rintro e x1 ⟨rfl, g1⟩
  (try simp only [R.v, R.u, V])
  have h1 : G w x1 := g1
  have HG := hid h1
  clear h1 g1
  go_wp2_with fail
  refine (int_any _ _).mono ?_
  rintro e x2 ⟨rfl, g2⟩
  (try simp only [R.v, R.u, V])
  have h2 : G x1 x2 := g2
  replace HG := hid (HG.out.trans h2)
  clear h2 g2
  go_wp2_with fail
  refine (int_any _ _).mono ?_
  rintro e x3 ⟨rfl, g3⟩
  (try simp only [R.v, R.u, V])
  have h3 : G x2 x3 := ((G.refl _).alloc _).trans g3
  have B1 := hid (At.after g3)
  replace HG := hid (HG.out.trans h3)
  clear h3 g3
  obtain ⟨l1, p1, q1, r1, f1⟩ := B1.out
  go_wp2_with fail
  refine (int_any _ _).mono ?_
  rintro e x4 ⟨rfl, g4⟩
  (try simp only [R.v, R.u, V])
  clear l1 p1 q1 r1 f1
  have h4 : G x3 x4 := ((G.refl _).alloc _).trans g4
  replace B1 := hid (B1.out.mono h4)
  have B2 := hid (At.after g4)
  replace HG := hid (HG.out.trans h4)
  clear h4 g4
  obtain ⟨l1, p1, q1, r1, f1⟩ := B1.out
  obtain ⟨l2, p2, q2, r2, f2⟩ := B2.out
  go_wp2_with fail
  refine (add_any h1 _).mono ?_
  rintro e x5 ⟨rfl, g5⟩
  (try simp only [R.v, R.u, V])
  clear l1 p1 q1 r1 f1
  clear l2 p2 q2 r2 f2
  have h5 : G x4 x5 := ((G.refl _).alloc _).trans g5
  replace B1 := hid (B1.out.mono h5)
  replace B2 := hid (B2.out.mono h5)
  have B3 := hid (At.after g5)
  replace HG := hid (HG.out.trans h5)
  clear h5 g5
  obtain ⟨l1, p1, q1, r1, f1⟩ := B1.out
  obtain ⟨l2, p2, q2, r2, f2⟩ := B2.out
  obtain ⟨l3, p3, q3, r3, f3⟩ := B3.out
  go_wp2_with fail
  refine (add_any h2 _).mono ?_
  rintro e x6 ⟨rfl, g6⟩
  (try simp only [R.v, R.u, V])
  clear l1 p1 q1 r1 f1
  clear l2 p2 q2 r2 f2
  clear l3 p3 q3 r3 f3
  have h6 : G x5 x6 := ((G.refl _).alloc _).trans g6
  replace B1 := hid (B1.out.mono h6)
  replace B2 := hid (B2.out.mono h6)
  replace B3 := hid (B3.out.mono h6)
  have B4 := hid (At.after g6)
  replace HG := hid (HG.out.trans h6)
  clear h6 g6
  obtain ⟨l1, p1, q1, r1, f1⟩ := B1.out
  obtain ⟨l2, p2, q2, r2, f2⟩ := B2.out
  obtain ⟨l3, p3, q3, r3, f3⟩ := B3.out
  obtain ⟨l4, p4, q4, r4, f4⟩ := B4.out
  go_wp2_with fail
  refine (add_any h3 _).mono ?_
  rintro e x7 ⟨rfl, g7⟩
  (try simp only [R.v, R.u, V])
  clear l1 p1 q1 r1 f1
  clear l2 p2 q2 r2 f2
  clear l3 p3 q3 r3 f3
  clear l4 p4 q4 r4 f4
  have h7 : G x6 x7 := ((G.refl _).alloc _).trans g7
  replace B1 := hid (B1.out.mono h7)
  replace B2 := hid (B2.out.mono h7)
  replace B3 := hid (B3.out.mono h7)
  replace B4 := hid (B4.out.mono h7)
  have B5 := hid (At.after g7)
  replace HG := hid (HG.out.trans h7)
  clear h7 g7
  obtain ⟨l1, p1, q1, r1, f1⟩ := B1.out
  obtain ⟨l2, p2, q2, r2, f2⟩ := B2.out
  obtain ⟨l3, p3, q3, r3, f3⟩ := B3.out
  obtain ⟨l4, p4, q4, r4, f4⟩ := B4.out
  obtain ⟨l5, p5, q5, r5, f5⟩ := B5.out
  go_wp2_with fail
  refine (add_any h4 _).mono ?_
  rintro e x8 ⟨rfl, g8⟩
  (try simp only [R.v, R.u, V])
  clear l1 p1 q1 r1 f1
  clear l2 p2 q2 r2 f2
  clear l3 p3 q3 r3 f3
  clear l4 p4 q4 r4 f4
  clear l5 p5 q5 r5 f5
  have h8 : G x7 x8 := ((G.refl _).alloc _).trans g8
  replace B1 := hid (B1.out.mono h8)
  replace B2 := hid (B2.out.mono h8)
  replace B3 := hid (B3.out.mono h8)
  replace B4 := hid (B4.out.mono h8)
  replace B5 := hid (B5.out.mono h8)
  have B6 := hid (At.after g8)
  replace HG := hid (HG.out.trans h8)
  clear h8 g8
  obtain ⟨l1, p1, q1, r1, f1⟩ := B1.out
  obtain ⟨l2, p2, q2, r2, f2⟩ := B2.out
  obtain ⟨l3, p3, q3, r3, f3⟩ := B3.out
  obtain ⟨l4, p4, q4, r4, f4⟩ := B4.out
  obtain ⟨l5, p5, q5, r5, f5⟩ := B5.out
  obtain ⟨l6, p6, q6, r6, f6⟩ := B6.out
  go_wp2_with fail
  refine (add_any h5 _).mono ?_
  rintro e x9 ⟨rfl, g9⟩
  (try simp only [R.v, R.u, V])
  clear l1 p1 q1 r1 f1
  clear l2 p2 q2 r2 f2
  clear l3 p3 q3 r3 f3
  clear l4 p4 q4 r4 f4
  clear l5 p5 q5 r5 f5
  clear l6 p6 q6 r6 f6
  have h9 : G x8 x9 := ((G.refl _).alloc _).trans g9
  replace B1 := hid (B1.out.mono h9)
  replace B2 := hid (B2.out.mono h9)
  replace B3 := hid (B3.out.mono h9)
  replace B4 := hid (B4.out.mono h9)
  replace B5 := hid (B5.out.mono h9)
  replace B6 := hid (B6.out.mono h9)
  have B7 := hid (At.after g9)
  replace HG := hid (HG.out.trans h9)
  clear h9 g9
  obtain ⟨l1, p1, q1, r1, f1⟩ := B1.out
  obtain ⟨l2, p2, q2, r2, f2⟩ := B2.out
  obtain ⟨l3, p3, q3, r3, f3⟩ := B3.out
  obtain ⟨l4, p4, q4, r4, f4⟩ := B4.out
  obtain ⟨l5, p5, q5, r5, f5⟩ := B5.out
  obtain ⟨l6, p6, q6, r6, f6⟩ := B6.out
  obtain ⟨l7, p7, q7, r7, f7⟩ := B7.out
  go_wp2_with fail
  refine (mul_any h6 _).mono ?_
  rintro e x10 ⟨rfl, g10⟩
  (try simp only [R.v, R.u, V])
  clear l1 p1 q1 r1 f1
  clear l2 p2 q2 r2 f2
  clear l3 p3 q3 r3 f3
  clear l4 p4 q4 r4 f4
  clear l5 p5 q5 r5 f5
  clear l6 p6 q6 r6 f6
  clear l7 p7 q7 r7 f7
  have h10 : G x9 x10 := ((G.refl _).alloc _).trans g10
  replace B1 := hid (B1.out.mono h10)
  replace B2 := hid (B2.out.mono h10)
  replace B3 := hid (B3.out.mono h10)
  replace B4 := hid (B4.out.mono h10)
  replace B5 := hid (B5.out.mono h10)
  replace B6 := hid (B6.out.mono h10)
  replace B7 := hid (B7.out.mono h10)
  have B8 := hid (At.after g10)
  replace HG := hid (HG.out.trans h10)
  clear h10 g10
  obtain ⟨l1, p1, q1, r1, f1⟩ := B1.out
  obtain ⟨l2, p2, q2, r2, f2⟩ := B2.out
  obtain ⟨l3, p3, q3, r3, f3⟩ := B3.out
  obtain ⟨l4, p4, q4, r4, f4⟩ := B4.out
  obtain ⟨l5, p5, q5, r5, f5⟩ := B5.out
  obtain ⟨l6, p6, q6, r6, f6⟩ := B6.out
  obtain ⟨l7, p7, q7, r7, f7⟩ := B7.out
  obtain ⟨l8, p8, q8, r8, f8⟩ := B8.out
  go_wp2_with fail
  refine (mul_any h7 _).mono ?_
  rintro e x11 ⟨rfl, g11⟩
  (try simp only [R.v, R.u, V])
  clear l1 p1 q1 r1 f1
  clear l2 p2 q2 r2 f2
  clear l3 p3 q3 r3 f3
  clear l4 p4 q4 r4 f4
  clear l5 p5 q5 r5 f5
  clear l6 p6 q6 r6 f6
  clear l7 p7 q7 r7 f7
  clear l8 p8 q8 r8 f8
  have h11 : G x10 x11 := ((G.refl _).alloc _).trans g11
  replace B1 := hid (B1.out.mono h11)
  replace B2 := hid (B2.out.mono h11)
  replace B3 := hid (B3.out.mono h11)
  replace B4 := hid (B4.out.mono h11)
  replace B5 := hid (B5.out.mono h11)
  replace B6 := hid (B6.out.mono h11)
  replace B7 := hid (B7.out.mono h11)
  replace B8 := hid (B8.out.mono h11)
  have B9 := hid (At.after g11)
  replace HG := hid (HG.out.trans h11)
  clear h11 g11
  obtain ⟨l1, p1, q1, r1, f1⟩ := B1.out
  obtain ⟨l2, p2, q2, r2, f2⟩ := B2.out
  obtain ⟨l3, p3, q3, r3, f3⟩ := B3.out
  obtain ⟨l4, p4, q4, r4, f4⟩ := B4.out
  obtain ⟨l5, p5, q5, r5, f5⟩ := B5.out
  obtain ⟨l6, p6, q6, r6, f6⟩ := B6.out
  obtain ⟨l7, p7, q7, r7, f7⟩ := B7.out
  obtain ⟨l8, p8, q8, r8, f8⟩ := B8.out
  obtain ⟨l9, p9, q9, r9, f9⟩ := B9.out
  go_wp2_with fail
  refine (mul_any h8 _).mono ?_
  rintro e x12 ⟨rfl, g12⟩
  (try simp only [R.v, R.u, V])
  clear l1 p1 q1 r1 f1
  clear l2 p2 q2 r2 f2
  clear l3 p3 q3 r3 f3
  clear l4 p4 q4 r4 f4
  clear l5 p5 q5 r5 f5
  clear l6 p6 q6 r6 f6
  clear l7 p7 q7 r7 f7
  clear l8 p8 q8 r8 f8
  clear l9 p9 q9 r9 f9
  have h12 : G x11 x12 := ((G.refl _).alloc _).trans g12
  replace B1 := hid (B1.out.mono h12)
  replace B2 := hid (B2.out.mono h12)
  replace B3 := hid (B3.out.mono h12)
  replace B4 := hid (B4.out.mono h12)
  replace B5 := hid (B5.out.mono h12)
  replace B6 := hid (B6.out.mono h12)
  replace B7 := hid (B7.out.mono h12)
  replace B8 := hid (B8.out.mono h12)
  replace B9 := hid (B9.out.mono h12)
  have B10 := hid (At.after g12)
  replace HG := hid (HG.out.trans h12)
  clear h12 g12
  obtain ⟨l1, p1, q1, r1, f1⟩ := B1.out
  obtain ⟨l2, p2, q2, r2, f2⟩ := B2.out
  obtain ⟨l3, p3, q3, r3, f3⟩ := B3.out
  obtain ⟨l4, p4, q4, r4, f4⟩ := B4.out
  obtain ⟨l5, p5, q5, r5, f5⟩ := B5.out
  obtain ⟨l6, p6, q6, r6, f6⟩ := B6.out
  obtain ⟨l7, p7, q7, r7, f7⟩ := B7.out
  obtain ⟨l8, p8, q8, r8, f8⟩ := B8.out
  obtain ⟨l9, p9, q9, r9, f9⟩ := B9.out
  obtain ⟨l10, p10, q10, r10, f10⟩ := B10.out
  go_wp2_with fail
  refine (mul_any h9 _).mono ?_
  rintro e x13 ⟨rfl, g13⟩
  (try simp only [R.v, R.u, V])
  clear l1 p1 q1 r1 f1
  clear l2 p2 q2 r2 f2
  clear l3 p3 q3 r3 f3
  clear l4 p4 q4 r4 f4
  clear l5 p5 q5 r5 f5
  clear l6 p6 q6 r6 f6
  clear l7 p7 q7 r7 f7
  clear l8 p8 q8 r8 f8
  clear l9 p9 q9 r9 f9
  clear l10 p10 q10 r10 f10
  have h13 : G x12 x13 := ((G.refl _).alloc _).trans g13
  replace B1 := hid (B1.out.mono h13)
  replace B2 := hid (B2.out.mono h13)
  replace B3 := hid (B3.out.mono h13)
  replace B4 := hid (B4.out.mono h13)
  replace B5 := hid (B5.out.mono h13)
  replace B6 := hid (B6.out.mono h13)
  replace B7 := hid (B7.out.mono h13)
  replace B8 := hid (B8.out.mono h13)
  replace B9 := hid (B9.out.mono h13)
  replace B10 := hid (B10.out.mono h13)
  have B11 := hid (At.after g13)
  replace HG := hid (HG.out.trans h13)
  clear h13 g13
  obtain ⟨l1, p1, q1, r1, f1⟩ := B1.out
  obtain ⟨l2, p2, q2, r2, f2⟩ := B2.out
  obtain ⟨l3, p3, q3, r3, f3⟩ := B3.out
  obtain ⟨l4, p4, q4, r4, f4⟩ := B4.out
  obtain ⟨l5, p5, q5, r5, f5⟩ := B5.out
  obtain ⟨l6, p6, q6, r6, f6⟩ := B6.out
  obtain ⟨l7, p7, q7, r7, f7⟩ := B7.out
  obtain ⟨l8, p8, q8, r8, f8⟩ := B8.out
  obtain ⟨l9, p9, q9, r9, f9⟩ := B9.out
  obtain ⟨l10, p10, q10, r10, f10⟩ := B10.out
  obtain ⟨l11, p11, q11, r11, f11⟩ := B11.out
  go_wp2_with fail
  refine (add_any h10 _).mono ?_
  rintro e x14 ⟨rfl, g14⟩
  (try simp only [R.v, R.u, V])
  clear l1 p1 q1 r1 f1
  clear l2 p2 q2 r2 f2
  clear l3 p3 q3 r3 f3
  clear l4 p4 q4 r4 f4
  clear l5 p5 q5 r5 f5
  clear l6 p6 q6 r6 f6
  clear l7 p7 q7 r7 f7
  clear l8 p8 q8 r8 f8
  clear l9 p9 q9 r9 f9
  clear l10 p10 q10 r10 f10
  clear l11 p11 q11 r11 f11
  have h14 : G x13 x14 := ((G.refl _).alloc _).trans g14
  replace B1 := hid (B1.out.mono h14)
  replace B2 := hid (B2.out.mono h14)
  replace B3 := hid (B3.out.mono h14)
  replace B4 := hid (B4.out.mono h14)
  replace B5 := hid (B5.out.mono h14)
  replace B6 := hid (B6.out.mono h14)
  replace B7 := hid (B7.out.mono h14)
  replace B8 := hid (B8.out.mono h14)
  replace B9 := hid (B9.out.mono h14)
  replace B10 := hid (B10.out.mono h14)
  replace B11 := hid (B11.out.mono h14)
  have B12 := hid (At.after g14)
  replace HG := hid (HG.out.trans h14)
  clear h14 g14
  obtain ⟨l1, p1, q1, r1, f1⟩ := B1.out
  obtain ⟨l2, p2, q2, r2, f2⟩ := B2.out
  obtain ⟨l3, p3, q3, r3, f3⟩ := B3.out
  obtain ⟨l4, p4, q4, r4, f4⟩ := B4.out
  obtain ⟨l5, p5, q5, r5, f5⟩ := B5.out
  obtain ⟨l6, p6, q6, r6, f6⟩ := B6.out
  obtain ⟨l7, p7, q7, r7, f7⟩ := B7.out
  obtain ⟨l8, p8, q8, r8, f8⟩ := B8.out
  obtain ⟨l9, p9, q9, r9, f9⟩ := B9.out
  obtain ⟨l10, p10, q10, r10, f10⟩ := B10.out
  obtain ⟨l11, p11, q11, r11, f11⟩ := B11.out
  obtain ⟨l12, p12, q12, r12, f12⟩ := B12.out
  clear h1 h2 h3 h4 h5 h6 h7 h8 h9 h10
  go_wp2_with fail
  go_ret
  refine ⟨rfl, ?_⟩
  repeat first | exact G.refl _ | refine G.then ?_ (by assumption) | refine G.alloc ?_ _ | refine G.set ?_ (by simp <;> omega) _

/-- wrap64 keeps what a number is modulo 2^64. -/
theorem wrap64_mod (n : Int) : ∃ k : Int, wrap64 n = n + 18446744073709551616 * k := ⟨-((n + 9223372036854775808) / 18446744073709551616), by unfold wrap64; omega⟩
theorem wrap64_add (n k : Int) : wrap64 (n + 18446744073709551616 * k) = wrap64 n := by
  unfold wrap64
  omega
theorem wrap64_sum_l (a b : Int) : wrap64 (wrap64 a + b) = wrap64 (a + b) := by
  obtain ⟨k, h⟩ := wrap64_mod a
  rw [h, show a + 18446744073709551616 * k + b = (a + b) + 18446744073709551616 * k by omega, wrap64_add]
theorem wrap64_sum_r (a b : Int) : wrap64 (a + wrap64 b) = wrap64 (a + b) := by rw [Int.add_comm, wrap64_sum_l, Int.add_comm]
theorem wrap64_mul_r (a b : Int) : wrap64 (a * wrap64 b) = wrap64 (a * b) := by
  obtain ⟨k, h⟩ := wrap64_mod b
  rw [h, Int.mul_add, show a * (18446744073709551616 * k) = 18446744073709551616 * (a * k) by rw [← Int.mul_assoc, Int.mul_comm a, Int.mul_assoc], wrap64_add]
theorem wrap64_mul_l (a b : Int) : wrap64 (wrap64 a * b) = wrap64 (a * b) := by rw [Int.mul_comm, wrap64_mul_r, Int.mul_comm]

theorem rings_law (a b c : Int) (w : World) : Calls Tryd.prog 4 #[.int .i64 a, .int .i64 b, .int .i64 c] w fun e w' => e = .returned (.bool true) ∧ G w w' := by
  refine rings_walk a b c _ _ _ _ _ _ w rfl (by rw [Int.add_comm]) rfl rfl ?_ rfl (by rw [Int.mul_comm]) rfl rfl ?_
  · rw [wrap64_sum_l, wrap64_sum_r, Int.add_assoc]
  · rw [wrap64_sum_l, wrap64_sum_r, wrap64_mul_r, Int.mul_add]
end Go.Proofs.YtlmmpcoakemooaaDoor
