/-
  The walk over ValueOrder: it returns true, and writes nothing that was there. No conditions.
-/
import Derived.Test.YtlmmpcoakemooaaDoorNums
namespace Go.Proofs.YtlmmpcoakemooaaDoor
open Go.RowKit

set_option maxRecDepth 100000 in
set_option maxHeartbeats 4000000 in
theorem order_walk (a b c p q r s t : Int) (w : World) (hp : one (decide (a < b)) = p) (hq : one (decide (b < a)) = q) (hr : one (decide (a = b)) = r) (hr2 : one (decide (b = a)) = r) (hs : one (decide (b < c)) = s) (ht : one (decide (a < c)) = t)
    (hall : p = 1 ∧ q = 0 ∧ r = 0 ∧ s = 0 ∨ p = 1 ∧ q = 0 ∧ r = 0 ∧ s = 1 ∧ t = 1 ∨ p = 0 ∧ q = 1 ∧ r = 0 ∨ p = 0 ∧ q = 0 ∧ r = 1) :
    Calls Tryd.prog 3 #[.int .i64 a, .int .i64 b, .int .i64 c] w fun e w' => e = .returned (.bool true) ∧ G w w' := by
  go_enter Tryd.func3, Tryd.ntmps3
  go_wp2_with fail
  refine (shown_any _).mono ?_
  rintro e x1 ⟨rfl, g1⟩
  (try simp only [R.v, R.u, V])
  have h1 : G w x1 := g1
  have HG := hid h1
  clear h1 g1
  go_wp2_with fail
  refine (int_any _ _).mono ?_
  rintro e x2 ⟨rfl, g2⟩
  (try simp only [R.v, R.u, V])
  have h2 : G x1 x2 := g2
  replace HG := hid (HG.out.trans h2)
  clear h2 g2
  go_wp2_with fail
  refine (int_any _ _).mono ?_
  rintro e x3 ⟨rfl, g3⟩
  (try simp only [R.v, R.u, V])
  have h3 : G x2 x3 := ((G.refl _).alloc _).trans g3
  have B1 := hid (At.after g3)
  replace HG := hid (HG.out.trans h3)
  clear h3 g3
  obtain ⟨l1, p1, q1, r1, f1⟩ := B1.out
  go_wp2_with fail
  refine (int_any _ _).mono ?_
  rintro e x4 ⟨rfl, g4⟩
  (try simp only [R.v, R.u, V])
  clear l1 p1 q1 r1 f1
  have h4 : G x3 x4 := ((G.refl _).alloc _).trans g4
  replace B1 := hid (B1.out.mono h4)
  have B2 := hid (At.after g4)
  replace HG := hid (HG.out.trans h4)
  clear h4 g4
  obtain ⟨l1, p1, q1, r1, f1⟩ := B1.out
  obtain ⟨l2, p2, q2, r2, f2⟩ := B2.out
  go_wp2_with fail
  refine (lt_any hp _).mono ?_
  rintro e x5 ⟨rfl, g5⟩
  (try simp only [R.v, R.u, V])
  clear l1 p1 q1 r1 f1
  clear l2 p2 q2 r2 f2
  have h5 : G x4 x5 := ((G.refl _).alloc _).trans g5
  replace B1 := hid (B1.out.mono h5)
  replace B2 := hid (B2.out.mono h5)
  have B3 := hid (At.after g5)
  replace HG := hid (HG.out.trans h5)
  clear h5 g5
  obtain ⟨l1, p1, q1, r1, f1⟩ := B1.out
  obtain ⟨l2, p2, q2, r2, f2⟩ := B2.out
  obtain ⟨l3, p3, q3, r3, f3⟩ := B3.out
  go_wp2_with fail
  refine (lt_any hq _).mono ?_
  rintro e x6 ⟨rfl, g6⟩
  (try simp only [R.v, R.u, V])
  clear l1 p1 q1 r1 f1
  clear l2 p2 q2 r2 f2
  clear l3 p3 q3 r3 f3
  have h6 : G x5 x6 := ((G.refl _).alloc _).trans g6
  replace B1 := hid (B1.out.mono h6)
  replace B2 := hid (B2.out.mono h6)
  replace B3 := hid (B3.out.mono h6)
  have B4 := hid (At.after g6)
  replace HG := hid (HG.out.trans h6)
  clear h6 g6
  obtain ⟨l1, p1, q1, r1, f1⟩ := B1.out
  obtain ⟨l2, p2, q2, r2, f2⟩ := B2.out
  obtain ⟨l3, p3, q3, r3, f3⟩ := B3.out
  obtain ⟨l4, p4, q4, r4, f4⟩ := B4.out
  go_wp2_with fail
  refine (eq_any hr _).mono ?_
  rintro e x7 ⟨rfl, g7⟩
  (try simp only [R.v, R.u, V])
  clear l1 p1 q1 r1 f1
  clear l2 p2 q2 r2 f2
  clear l3 p3 q3 r3 f3
  clear l4 p4 q4 r4 f4
  have h7 : G x6 x7 := ((G.refl _).alloc _).trans g7
  replace B1 := hid (B1.out.mono h7)
  replace B2 := hid (B2.out.mono h7)
  replace B3 := hid (B3.out.mono h7)
  replace B4 := hid (B4.out.mono h7)
  have B5 := hid (At.after g7)
  replace HG := hid (HG.out.trans h7)
  clear h7 g7
  obtain ⟨l1, p1, q1, r1, f1⟩ := B1.out
  obtain ⟨l2, p2, q2, r2, f2⟩ := B2.out
  obtain ⟨l3, p3, q3, r3, f3⟩ := B3.out
  obtain ⟨l4, p4, q4, r4, f4⟩ := B4.out
  obtain ⟨l5, p5, q5, r5, f5⟩ := B5.out
  go_wp2_with fail
  refine (eq_any hr2 _).mono ?_
  rintro e x8 ⟨rfl, g8⟩
  (try simp only [R.v, R.u, V])
  clear l1 p1 q1 r1 f1
  clear l2 p2 q2 r2 f2
  clear l3 p3 q3 r3 f3
  clear l4 p4 q4 r4 f4
  clear l5 p5 q5 r5 f5
  have h8 : G x7 x8 := ((G.refl _).alloc _).trans g8
  replace B1 := hid (B1.out.mono h8)
  replace B2 := hid (B2.out.mono h8)
  replace B3 := hid (B3.out.mono h8)
  replace B4 := hid (B4.out.mono h8)
  replace B5 := hid (B5.out.mono h8)
  have B6 := hid (At.after g8)
  replace HG := hid (HG.out.trans h8)
  clear h8 g8
  obtain ⟨l1, p1, q1, r1, f1⟩ := B1.out
  obtain ⟨l2, p2, q2, r2, f2⟩ := B2.out
  obtain ⟨l3, p3, q3, r3, f3⟩ := B3.out
  obtain ⟨l4, p4, q4, r4, f4⟩ := B4.out
  obtain ⟨l5, p5, q5, r5, f5⟩ := B5.out
  obtain ⟨l6, p6, q6, r6, f6⟩ := B6.out
  go_wp2_with fail
  refine (lt_any hs _).mono ?_
  rintro e x9 ⟨rfl, g9⟩
  (try simp only [R.v, R.u, V])
  clear l1 p1 q1 r1 f1
  clear l2 p2 q2 r2 f2
  clear l3 p3 q3 r3 f3
  clear l4 p4 q4 r4 f4
  clear l5 p5 q5 r5 f5
  clear l6 p6 q6 r6 f6
  have h9 : G x8 x9 := ((G.refl _).alloc _).trans g9
  replace B1 := hid (B1.out.mono h9)
  replace B2 := hid (B2.out.mono h9)
  replace B3 := hid (B3.out.mono h9)
  replace B4 := hid (B4.out.mono h9)
  replace B5 := hid (B5.out.mono h9)
  replace B6 := hid (B6.out.mono h9)
  have B7 := hid (At.after g9)
  replace HG := hid (HG.out.trans h9)
  clear h9 g9
  obtain ⟨l1, p1, q1, r1, f1⟩ := B1.out
  obtain ⟨l2, p2, q2, r2, f2⟩ := B2.out
  obtain ⟨l3, p3, q3, r3, f3⟩ := B3.out
  obtain ⟨l4, p4, q4, r4, f4⟩ := B4.out
  obtain ⟨l5, p5, q5, r5, f5⟩ := B5.out
  obtain ⟨l6, p6, q6, r6, f6⟩ := B6.out
  obtain ⟨l7, p7, q7, r7, f7⟩ := B7.out
  go_wp2_with fail
  refine (lt_any ht _).mono ?_
  rintro e x10 ⟨rfl, g10⟩
  (try simp only [R.v, R.u, V])
  clear l1 p1 q1 r1 f1
  clear l2 p2 q2 r2 f2
  clear l3 p3 q3 r3 f3
  clear l4 p4 q4 r4 f4
  clear l5 p5 q5 r5 f5
  clear l6 p6 q6 r6 f6
  clear l7 p7 q7 r7 f7
  have h10 : G x9 x10 := ((G.refl _).alloc _).trans g10
  replace B1 := hid (B1.out.mono h10)
  replace B2 := hid (B2.out.mono h10)
  replace B3 := hid (B3.out.mono h10)
  replace B4 := hid (B4.out.mono h10)
  replace B5 := hid (B5.out.mono h10)
  replace B6 := hid (B6.out.mono h10)
  replace B7 := hid (B7.out.mono h10)
  have B8 := hid (At.after g10)
  replace HG := hid (HG.out.trans h10)
  clear h10 g10
  obtain ⟨l1, p1, q1, r1, f1⟩ := B1.out
  obtain ⟨l2, p2, q2, r2, f2⟩ := B2.out
  obtain ⟨l3, p3, q3, r3, f3⟩ := B3.out
  obtain ⟨l4, p4, q4, r4, f4⟩ := B4.out
  obtain ⟨l5, p5, q5, r5, f5⟩ := B5.out
  obtain ⟨l6, p6, q6, r6, f6⟩ := B6.out
  obtain ⟨l7, p7, q7, r7, f7⟩ := B7.out
  obtain ⟨l8, p8, q8, r8, f8⟩ := B8.out
  clear hp hq hr hr2 hs ht
  rcases hall with ⟨rfl, rfl, rfl, rfl⟩ | ⟨rfl, rfl, rfl, rfl, rfl⟩ | ⟨rfl, rfl, rfl⟩ | ⟨rfl, rfl, rfl⟩
  all_goals (
    go_wp2_with fail
    go_ret
    refine ⟨rfl, ?_⟩
    repeat first | exact G.refl _ | refine G.then ?_ (by assumption) | refine G.alloc ?_ _ | refine G.set ?_ (by simp <;> omega) _)
theorem order_law (a b c : Int) (w : World) : Calls Tryd.prog 3 #[.int .i64 a, .int .i64 b, .int .i64 c] w fun e w' => e = .returned (.bool true) ∧ G w w' := by
  refine order_walk a b c _ _ _ _ _ w rfl rfl rfl (by rw [decide_eq_decide.2 (show b = a ↔ a = b from ⟨Eq.symm, Eq.symm⟩)]) rfl rfl ?_
  rcases Int.lt_trichotomy a b with h | h | h
  · by_cases h2 : b < c
    · exact .inr (.inl ⟨by simp [one, h], by simp [one]; omega, by simp [one]; omega, by simp [one, h2], by simp [one]; omega⟩)
    · exact .inl ⟨by simp [one, h], by simp [one]; omega, by simp [one]; omega, by simp [one]; omega⟩
  · exact .inr (.inr (.inr ⟨by simp [one]; omega, by simp [one]; omega, by simp [one, h]⟩))
  · exact .inr (.inr (.inl ⟨by simp [one]; omega, by simp [one, h], by simp [one]; omega⟩))
end Go.Proofs.YtlmmpcoakemooaaDoor
