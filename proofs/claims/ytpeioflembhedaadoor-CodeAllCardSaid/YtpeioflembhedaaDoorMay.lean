/-
  What the function May gives of any instruction. No conditions but that its kind is an int.
-/
import Derived.Test.YtpeioflembhedaaDoorVals
namespace Go.Proofs.YtpeioflembhedaaDoor
open Go.RowKit

theorem number_to {had x : Bool} {n : Int} (h : numR had n = x) (w : World) : Calls Tryd.prog 23 #[.bool had, .int .i64 n] w fun e w' => e = .returned (.bool x) ∧ w = w' := by
  subst h
  exact number_any had n w
theorem bits01 : bits BinOp.and IntKind.i64 0 1 = 0 := by decide
theorem bits02 : bits BinOp.and IntKind.i64 0 2 = 0 := by decide
theorem bits04 : bits BinOp.and IntKind.i64 0 4 = 0 := by decide
theorem bits11 : bits BinOp.and IntKind.i64 1 1 = 1 := by decide
theorem bits12 : bits BinOp.and IntKind.i64 1 2 = 0 := by decide
theorem bits14 : bits BinOp.and IntKind.i64 1 4 = 0 := by decide
theorem bits31 : bits BinOp.and IntKind.i64 3 1 = 1 := by decide
theorem bits32 : bits BinOp.and IntKind.i64 3 2 = 2 := by decide
theorem bits34 : bits BinOp.and IntKind.i64 3 4 = 0 := by decide
theorem bits41 : bits BinOp.and IntKind.i64 4 1 = 0 := by decide
theorem bits42 : bits BinOp.and IntKind.i64 4 2 = 0 := by decide
theorem bits44 : bits BinOp.and IntKind.i64 4 4 = 4 := by decide
set_option maxHeartbeats 800000 in
set_option maxRecDepth 100000 in
theorem may_out (o a b : Int) (s : ByteArray) (w : World) (h0 : -9223372036854775808 ≤ o) (h1 : o ≤ 9223372036854775807) (k : Int) (hs : shapeR o = k) (ho : o < 1 ∨ 23 < o) :
    Calls Tryd.prog 10 #[V o a b s] w fun e w' => e = .returned (.bool false) ∧ G w w' := by
  have H := hid h0
  have H1 := hid h1
  clear h0 h1
  have e2 : (o == 2) = false := by simp; omega
  rcases ho with ho | ho
  all_goals (
      unfold V
      go_enter Tryd.func10, Tryd.ntmps10
      go_wp2_with (first
        | (go_at_call 22; refine (shape_to hs H.out H1.out _).mono ?_; rintro e w1 ⟨rfl, hg1⟩; have A1 := hid (At.after hg1); obtain ⟨l1, p1, q1, r1, t1, f1⟩ := A1.out; simp at q1 r1 t1; have HG := hid hg1; clear hg1)
        | (go_at_call 23; refine (number_any _ _ _).mono ?_; rintro e w2 ⟨rfl, rfl⟩))
      all_goals first
        | (exfalso; omega)
        | (go_ret
           refine ⟨?_, G.then ((G.refl _).alloc _) HG⟩
           first
             | rfl
             | (simp_all; done)
             | (simp_all; rw [decide_eq_decide.2 (show ((s.size : Int) ≤ 40) ↔ s.size ≤ 40 by omega)])
             | (simp_all; omega)))
set_option maxHeartbeats 800000 in
set_option maxRecDepth 100000 in
theorem may_in0 (o a b : Int) (s : ByteArray) (w : World) (h0 : -9223372036854775808 ≤ o) (h1 : o ≤ 9223372036854775807) (hs : shapeR o = 0) (ho : 1 ≤ o) (ho2 : o ≤ 23) (h2 : o ≠ 2) (x y : Bool) (hA : numR false a = x) (hB : numR false b = y) :
    Calls Tryd.prog 10 #[V o a b s] w fun e w' => e = .returned (.bool (x && y && (s.toList == []))) ∧ G w w' := by
  have H := hid h0
  have H1 := hid h1
  clear h0 h1
  have e2 : (o == 2) = false := by simp; omega
  have b1 := bits01
  have b2 := bits02
  have b4 := bits04
  rcases x with _ | _
  · (
      unfold V
      go_enter Tryd.func10, Tryd.ntmps10
      go_wp2_with (first
        | (go_at_call 22; refine (shape_to hs H.out H1.out _).mono ?_; rintro e w1 ⟨rfl, hg1⟩; have A1 := hid (At.after hg1); obtain ⟨l1, p1, q1, r1, t1, f1⟩ := A1.out; simp at q1 r1 t1; have HG := hid hg1; clear hg1)
        | (go_at_call 23; refine (number_any _ _ _).mono ?_; rintro e w2 ⟨rfl, rfl⟩; (try simp only [hA]); (try simp only [hB])))
      all_goals first
        | (exfalso; omega)
        | (go_ret
           refine ⟨?_, G.then ((G.refl _).alloc _) HG⟩
           first
             | rfl
             | (simp_all; done)
             | (simp_all; rw [decide_eq_decide.2 (show ((s.size : Int) ≤ 40) ↔ s.size ≤ 40 by omega)])
             | (simp_all; omega)))
  · cases y
    all_goals (
      unfold V
      go_enter Tryd.func10, Tryd.ntmps10
      go_wp2_with (first
        | (go_at_call 22; refine (shape_to hs H.out H1.out _).mono ?_; rintro e w1 ⟨rfl, hg1⟩; have A1 := hid (At.after hg1); obtain ⟨l1, p1, q1, r1, t1, f1⟩ := A1.out; simp at q1 r1 t1; have HG := hid hg1; clear hg1)
        | (go_at_call 23; refine (number_any _ _ _).mono ?_; rintro e w2 ⟨rfl, rfl⟩; (try simp only [hA]); (try simp only [hB])))
      all_goals first
        | (exfalso; omega)
        | (go_ret
           refine ⟨?_, G.then ((G.refl _).alloc _) HG⟩
           first
             | rfl
             | (simp_all; done)
             | (simp_all; rw [decide_eq_decide.2 (show ((s.size : Int) ≤ 40) ↔ s.size ≤ 40 by omega)])
             | (simp_all; omega)))
set_option maxHeartbeats 800000 in
set_option maxRecDepth 100000 in
theorem may_in1 (o a b : Int) (s : ByteArray) (w : World) (h0 : -9223372036854775808 ≤ o) (h1 : o ≤ 9223372036854775807) (hs : shapeR o = 1) (ho : 1 ≤ o) (ho2 : o ≤ 23) (h2 : o ≠ 2) (x y : Bool) (hA : numR true a = x) (hB : numR false b = y) :
    Calls Tryd.prog 10 #[V o a b s] w fun e w' => e = .returned (.bool (x && y && (s.toList == []))) ∧ G w w' := by
  have H := hid h0
  have H1 := hid h1
  clear h0 h1
  have e2 : (o == 2) = false := by simp; omega
  have b1 := bits11
  have b2 := bits12
  have b4 := bits14
  rcases x with _ | _
  · (
      unfold V
      go_enter Tryd.func10, Tryd.ntmps10
      go_wp2_with (first
        | (go_at_call 22; refine (shape_to hs H.out H1.out _).mono ?_; rintro e w1 ⟨rfl, hg1⟩; have A1 := hid (At.after hg1); obtain ⟨l1, p1, q1, r1, t1, f1⟩ := A1.out; simp at q1 r1 t1; have HG := hid hg1; clear hg1)
        | (go_at_call 23; refine (number_any _ _ _).mono ?_; rintro e w2 ⟨rfl, rfl⟩; (try simp only [hA]); (try simp only [hB])))
      all_goals first
        | (exfalso; omega)
        | (go_ret
           refine ⟨?_, G.then ((G.refl _).alloc _) HG⟩
           first
             | rfl
             | (simp_all; done)
             | (simp_all; rw [decide_eq_decide.2 (show ((s.size : Int) ≤ 40) ↔ s.size ≤ 40 by omega)])
             | (simp_all; omega)))
  · cases y
    all_goals (
      unfold V
      go_enter Tryd.func10, Tryd.ntmps10
      go_wp2_with (first
        | (go_at_call 22; refine (shape_to hs H.out H1.out _).mono ?_; rintro e w1 ⟨rfl, hg1⟩; have A1 := hid (At.after hg1); obtain ⟨l1, p1, q1, r1, t1, f1⟩ := A1.out; simp at q1 r1 t1; have HG := hid hg1; clear hg1)
        | (go_at_call 23; refine (number_any _ _ _).mono ?_; rintro e w2 ⟨rfl, rfl⟩; (try simp only [hA]); (try simp only [hB])))
      all_goals first
        | (exfalso; omega)
        | (go_ret
           refine ⟨?_, G.then ((G.refl _).alloc _) HG⟩
           first
             | rfl
             | (simp_all; done)
             | (simp_all; rw [decide_eq_decide.2 (show ((s.size : Int) ≤ 40) ↔ s.size ≤ 40 by omega)])
             | (simp_all; omega)))
set_option maxHeartbeats 800000 in
set_option maxRecDepth 100000 in
theorem may_in3 (o a b : Int) (s : ByteArray) (w : World) (h0 : -9223372036854775808 ≤ o) (h1 : o ≤ 9223372036854775807) (hs : shapeR o = 3) (ho : 1 ≤ o) (ho2 : o ≤ 23) (h2 : o ≠ 2) (x y : Bool) (hA : numR true a = x) (hB : numR true b = y) :
    Calls Tryd.prog 10 #[V o a b s] w fun e w' => e = .returned (.bool (x && y && (s.toList == []))) ∧ G w w' := by
  have H := hid h0
  have H1 := hid h1
  clear h0 h1
  have e2 : (o == 2) = false := by simp; omega
  have b1 := bits31
  have b2 := bits32
  have b4 := bits34
  rcases x with _ | _
  · (
      unfold V
      go_enter Tryd.func10, Tryd.ntmps10
      go_wp2_with (first
        | (go_at_call 22; refine (shape_to hs H.out H1.out _).mono ?_; rintro e w1 ⟨rfl, hg1⟩; have A1 := hid (At.after hg1); obtain ⟨l1, p1, q1, r1, t1, f1⟩ := A1.out; simp at q1 r1 t1; have HG := hid hg1; clear hg1)
        | (go_at_call 23; refine (number_any _ _ _).mono ?_; rintro e w2 ⟨rfl, rfl⟩; (try simp only [hA]); (try simp only [hB])))
      all_goals first
        | (exfalso; omega)
        | (go_ret
           refine ⟨?_, G.then ((G.refl _).alloc _) HG⟩
           first
             | rfl
             | (simp_all; done)
             | (simp_all; rw [decide_eq_decide.2 (show ((s.size : Int) ≤ 40) ↔ s.size ≤ 40 by omega)])
             | (simp_all; omega)))
  · cases y
    all_goals (
      unfold V
      go_enter Tryd.func10, Tryd.ntmps10
      go_wp2_with (first
        | (go_at_call 22; refine (shape_to hs H.out H1.out _).mono ?_; rintro e w1 ⟨rfl, hg1⟩; have A1 := hid (At.after hg1); obtain ⟨l1, p1, q1, r1, t1, f1⟩ := A1.out; simp at q1 r1 t1; have HG := hid hg1; clear hg1)
        | (go_at_call 23; refine (number_any _ _ _).mono ?_; rintro e w2 ⟨rfl, rfl⟩; (try simp only [hA]); (try simp only [hB])))
      all_goals first
        | (exfalso; omega)
        | (go_ret
           refine ⟨?_, G.then ((G.refl _).alloc _) HG⟩
           first
             | rfl
             | (simp_all; done)
             | (simp_all; rw [decide_eq_decide.2 (show ((s.size : Int) ≤ 40) ↔ s.size ≤ 40 by omega)])
             | (simp_all; omega)))
set_option maxHeartbeats 800000 in
set_option maxRecDepth 100000 in
theorem may_in4 (o a b : Int) (s : ByteArray) (w : World) (h0 : -9223372036854775808 ≤ o) (h1 : o ≤ 9223372036854775807) (hs : shapeR o = 4) (ho : 1 ≤ o) (ho2 : o ≤ 23) (h2 : o ≠ 2) (x y : Bool) (hA : numR false a = x) (hB : numR false b = y) :
    Calls Tryd.prog 10 #[V o a b s] w fun e w' => e = .returned (.bool (x && y && (s.toList == [] || decide (s.size ≤ 40)))) ∧ G w w' := by
  have H := hid h0
  have H1 := hid h1
  clear h0 h1
  have e2 : (o == 2) = false := by simp; omega
  have b1 := bits41
  have b2 := bits42
  have b4 := bits44
  rcases x with _ | _
  · (
      unfold V
      go_enter Tryd.func10, Tryd.ntmps10
      go_wp2_with (first
        | (go_at_call 22; refine (shape_to hs H.out H1.out _).mono ?_; rintro e w1 ⟨rfl, hg1⟩; have A1 := hid (At.after hg1); obtain ⟨l1, p1, q1, r1, t1, f1⟩ := A1.out; simp at q1 r1 t1; have HG := hid hg1; clear hg1)
        | (go_at_call 23; refine (number_any _ _ _).mono ?_; rintro e w2 ⟨rfl, rfl⟩; (try simp only [hA]); (try simp only [hB])))
      all_goals first
        | (exfalso; omega)
        | (go_ret
           refine ⟨?_, G.then ((G.refl _).alloc _) HG⟩
           first
             | rfl
             | (simp_all; done)
             | (simp_all; rw [decide_eq_decide.2 (show ((s.size : Int) ≤ 40) ↔ s.size ≤ 40 by omega)])
             | (simp_all; omega)))
  · cases y
    all_goals (
      unfold V
      go_enter Tryd.func10, Tryd.ntmps10
      go_wp2_with (first
        | (go_at_call 22; refine (shape_to hs H.out H1.out _).mono ?_; rintro e w1 ⟨rfl, hg1⟩; have A1 := hid (At.after hg1); obtain ⟨l1, p1, q1, r1, t1, f1⟩ := A1.out; simp at q1 r1 t1; have HG := hid hg1; clear hg1)
        | (go_at_call 23; refine (number_any _ _ _).mono ?_; rintro e w2 ⟨rfl, rfl⟩; (try simp only [hA]); (try simp only [hB])))
      all_goals first
        | (exfalso; omega)
        | (go_ret
           refine ⟨?_, G.then ((G.refl _).alloc _) HG⟩
           first
             | rfl
             | (simp_all; done)
             | (simp_all; rw [decide_eq_decide.2 (show ((s.size : Int) ≤ 40) ↔ s.size ≤ 40 by omega)])
             | (simp_all; omega)))
set_option maxHeartbeats 800000 in
set_option maxRecDepth 100000 in
theorem may_two (a b : Int) (s : ByteArray) (w : World) (y : Bool) (hB : numR false b = y) :
    Calls Tryd.prog 10 #[V 2 a b s] w fun e w' => e = .returned (.bool (y && (s.toList == []))) ∧ G w w' := by
  have hs : shapeR 2 = 1 := by decide
  have H := hid (show (-9223372036854775808 : Int) ≤ 2 by decide)
  have H1 := hid (show (2 : Int) ≤ 9223372036854775807 by decide)
  have b1 := bits11
  have b2 := bits12
  have b3 := bits14
  cases y
  all_goals (
      unfold V
      go_enter Tryd.func10, Tryd.ntmps10
      go_wp2_with (first
        | (go_at_call 22; refine (shape_to hs H.out H1.out _).mono ?_; rintro e w1 ⟨rfl, hg1⟩; have A1 := hid (At.after hg1); obtain ⟨l1, p1, q1, r1, t1, f1⟩ := A1.out; simp at q1 r1 t1; have HG := hid hg1; clear hg1)
        | (go_at_call 23; refine (number_to hB _).mono ?_; rintro e w2 ⟨rfl, rfl⟩))
      all_goals first
        | (exfalso; omega)
        | (go_ret
           refine ⟨?_, G.then ((G.refl _).alloc _) HG⟩
           first
             | rfl
             | (simp_all; done)
             | (simp_all; rw [decide_eq_decide.2 (show ((s.size : Int) ≤ 40) ↔ s.size ≤ 40 by omega)])
             | (simp_all; omega)))
theorem may_any (o a b : Int) (s : ByteArray) (w : World) (h0 : -9223372036854775808 ≤ o) (h1 : o ≤ 9223372036854775807) : Calls Tryd.prog 10 #[V o a b s] w fun e w' => e = .returned (.bool (mayR o a b s)) ∧ G w w' := by
  by_cases ho : o < 1 ∨ 23 < o
  · have e : mayR o a b s = false := by
      unfold mayR
      rcases ho with ho | ho
      · simp [show ¬ 1 ≤ o by omega]
      · simp [show ¬ o ≤ 23 by omega]
    rw [e]
    exact may_out o a b s w h0 h1 _ rfl ho
  · have k1 : 1 ≤ o := by omega
    have k2 : o ≤ 23 := by omega
    by_cases h2 : o = 2
    · subst h2
      have e : mayR 2 a b s = (numR false b && (s.toList == [])) := by simp [mayR, hasB, hasS, shapeR]
      rw [e]
      exact may_two a b s w _ rfl
    · rcases shapes4 o with hs | hs | hs | hs
      · have e : mayR o a b s = (numR false a && numR false b && (s.toList == [])) := by simp [mayR, hasA, hasB, hasS, hs, k1, k2, h2]
        rw [e]
        exact may_in0 o a b s w h0 h1 hs k1 k2 h2 _ _ rfl rfl
      · have e : mayR o a b s = (numR true a && numR false b && (s.toList == [])) := by simp [mayR, hasA, hasB, hasS, hs, k1, k2, h2]
        rw [e]
        exact may_in1 o a b s w h0 h1 hs k1 k2 h2 _ _ rfl rfl
      · have e : mayR o a b s = (numR true a && numR true b && (s.toList == [])) := by simp [mayR, hasA, hasB, hasS, hs, k1, k2, h2]
        rw [e]
        exact may_in3 o a b s w h0 h1 hs k1 k2 h2 _ _ rfl rfl
      · have e : mayR o a b s = (numR false a && numR false b && (s.toList == [] || decide (s.size ≤ 40))) := by simp [mayR, hasA, hasB, hasS, hs, k1, k2, h2]
        rw [e]
        exact may_in4 o a b s w h0 h1 hs k1 k2 h2 _ _ rfl rfl
end Go.Proofs.YtpeioflembhedaaDoor
