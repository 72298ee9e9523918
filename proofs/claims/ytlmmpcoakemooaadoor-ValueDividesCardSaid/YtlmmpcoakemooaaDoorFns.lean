/-
  What each function of the values gives, and of the reference's. No conditions.
-/
import Derived.Test.YtlmmpcoakemooaaDoorVals
namespace Go.Proofs.YtlmmpcoakemooaaDoor
open Go.RowKit

abbrev E : ByteArray := ⟨#[]⟩
/-- What a sign makes of two values: a type, a number, a text; and a trap. -/
structure R where
  t : Int
  n : Int
  s : ByteArray
  e : Int
def R.v (r : R) : Value := .tuple #[V r.t r.n r.s, .int .i64 r.e]
def one (b : Bool) : Int := if b then 1 else 0
def boolR (b : Bool) : R := ⟨2, one b, E, 0⟩
def noR : R := ⟨0, 0, E, 0⟩
def orderR (g : ByteArray) (a b : Int) : R := if (g.toList == [60]) = true then boolR (decide (a < b)) else if (g.toList == [60, 61]) = true then boolR (decide (a ≤ b)) else noR
def numR (g : ByteArray) (a b : Int) : R :=
  if (g.toList == [43]) = true then ⟨1, wrap64 (a + b), E, 0⟩ else if (g.toList == [45]) = true then ⟨1, wrap64 (a - b), E, 0⟩ else if (g.toList == [42]) = true then ⟨1, wrap64 (a * b), E, 0⟩
  else if (g.toList == [47]) = true ∨ (g.toList == [37]) = true then (if b = 0 then ⟨0, 0, E, 1⟩ else if (g.toList == [37]) = true then ⟨1, a.tmod b, E, 0⟩ else ⟨1, wrap64 (a.tdiv b), E, 0⟩)
  else orderR g a b
def bothR (g : ByteArray) (a b : Bool) : R := if (g.toList == [124, 124]) = true then boolR (a || b) else if (g.toList == [38, 38]) = true then boolR (a && b) else noR
def textR (g a b : ByteArray) : R := if (g.toList == [43]) = true then (if 40 < (a.size : Int) + (b.size : Int) then ⟨0, 0, E, 6⟩ else ⟨3, 0, a ++ b, 0⟩) else noR

theorem int_any (n : Int) (w : World) : Calls Tryd.prog 11 #[.int .i64 n] w fun e w' => e = .returned (V 1 n E) ∧ G w w' := by
  go_enter Tryd.func11, Tryd.ntmps11
  go_wp2
  all_goals first
    | (exfalso; omega)
    | (apply post1; exact Tryd.results11; rfl; (first | exact At.alloc _ _ _ _ | exact At.set (Hid.out (by assumption)) _ _ _ | exact (At.set (Hid.out (by assumption)) _ _ _).more _ | exact (At.alloc _ _ _ _).more _ | exact ((At.alloc _ _ _ _).more _).more _); refine And.intro ?eq ?gg; case gg => (repeat first | exact G.refl _ | refine G.then ?_ (by assumption) | refine G.alloc ?_ _ | refine G.set ?_ (by simp) _)
       case eq => (first | rfl | (rfl; all_goals first | rfl | (unfold wrap64; omega) | omega | (rw [if_pos (by omega)]; simp) | (rw [if_neg (by omega)]; simp))))

theorem rint_any (n : Int) (w : World) : Calls Tryd.prog 19 #[.int .i64 n] w fun e w' => e = .returned (V 1 n E) ∧ G w w' := by
  go_enter Tryd.func19, Tryd.ntmps19
  go_wp2
  all_goals first
    | (exfalso; omega)
    | (apply post1; exact Tryd.results19; rfl; (first | exact At.alloc _ _ _ _ | exact At.set (Hid.out (by assumption)) _ _ _ | exact (At.set (Hid.out (by assumption)) _ _ _).more _ | exact (At.alloc _ _ _ _).more _ | exact ((At.alloc _ _ _ _).more _).more _); refine And.intro ?eq ?gg; case gg => (repeat first | exact G.refl _ | refine G.then ?_ (by assumption) | refine G.alloc ?_ _ | refine G.set ?_ (by simp) _)
       case eq => (first | rfl | (rfl; all_goals first | rfl | (unfold wrap64; omega) | omega | (rw [if_pos (by omega)]; simp) | (rw [if_neg (by omega)]; simp))))

theorem text_any (s : ByteArray) (w : World) : Calls Tryd.prog 21 #[.string s] w fun e w' => e = .returned (V 3 0 s) ∧ G w w' := by
  go_enter Tryd.func21, Tryd.ntmps21
  go_wp2
  all_goals first
    | (exfalso; omega)
    | (apply post1; exact Tryd.results21; rfl; (first | exact At.alloc _ _ _ _ | exact At.set (Hid.out (by assumption)) _ _ _ | exact (At.set (Hid.out (by assumption)) _ _ _).more _ | exact (At.alloc _ _ _ _).more _ | exact ((At.alloc _ _ _ _).more _).more _); refine And.intro ?eq ?gg; case gg => (repeat first | exact G.refl _ | refine G.then ?_ (by assumption) | refine G.alloc ?_ _ | refine G.set ?_ (by simp) _)
       case eq => (first | rfl | (rfl; all_goals first | rfl | (unfold wrap64; omega) | omega | (rw [if_pos (by omega)]; simp) | (rw [if_neg (by omega)]; simp))))

theorem rtext_any (s : ByteArray) (w : World) : Calls Tryd.prog 22 #[.string s] w fun e w' => e = .returned (V 3 0 s) ∧ G w w' := by
  go_enter Tryd.func22, Tryd.ntmps22
  go_wp2
  all_goals first
    | (exfalso; omega)
    | (apply post1; exact Tryd.results22; rfl; (first | exact At.alloc _ _ _ _ | exact At.set (Hid.out (by assumption)) _ _ _ | exact (At.set (Hid.out (by assumption)) _ _ _).more _ | exact (At.alloc _ _ _ _).more _ | exact ((At.alloc _ _ _ _).more _).more _); refine And.intro ?eq ?gg; case gg => (repeat first | exact G.refl _ | refine G.then ?_ (by assumption) | refine G.alloc ?_ _ | refine G.set ?_ (by simp) _)
       case eq => (first | rfl | (rfl; all_goals first | rfl | (unfold wrap64; omega) | omega | (rw [if_pos (by omega)]; simp) | (rw [if_neg (by omega)]; simp))))

theorem zero_any (n : Int) (w : World) : Calls Tryd.prog 23 #[.int .i64 n] w fun e w' => e = .returned (V n 0 E) ∧ G w w' := by
  go_enter Tryd.func23, Tryd.ntmps23
  go_wp2
  all_goals first
    | (exfalso; omega)
    | (apply post1; exact Tryd.results23; rfl; (first | exact At.alloc _ _ _ _ | exact At.set (Hid.out (by assumption)) _ _ _ | exact (At.set (Hid.out (by assumption)) _ _ _).more _ | exact (At.alloc _ _ _ _).more _ | exact ((At.alloc _ _ _ _).more _).more _); refine And.intro ?eq ?gg; case gg => (repeat first | exact G.refl _ | refine G.then ?_ (by assumption) | refine G.alloc ?_ _ | refine G.set ?_ (by simp) _)
       case eq => (first | rfl | (rfl; all_goals first | rfl | (unfold wrap64; omega) | omega | (rw [if_pos (by omega)]; simp) | (rw [if_neg (by omega)]; simp))))

theorem rzero_any (n : Int) (w : World) : Calls Tryd.prog 24 #[.int .i64 n] w fun e w' => e = .returned (V n 0 E) ∧ G w w' := by
  go_enter Tryd.func24, Tryd.ntmps24
  go_wp2
  all_goals first
    | (exfalso; omega)
    | (apply post1; exact Tryd.results24; rfl; (first | exact At.alloc _ _ _ _ | exact At.set (Hid.out (by assumption)) _ _ _ | exact (At.set (Hid.out (by assumption)) _ _ _).more _ | exact (At.alloc _ _ _ _).more _ | exact ((At.alloc _ _ _ _).more _).more _); refine And.intro ?eq ?gg; case gg => (repeat first | exact G.refl _ | refine G.then ?_ (by assumption) | refine G.alloc ?_ _ | refine G.set ?_ (by simp) _)
       case eq => (first | rfl | (rfl; all_goals first | rfl | (unfold wrap64; omega) | omega | (rw [if_pos (by omega)]; simp) | (rw [if_neg (by omega)]; simp))))

theorem bool_any (b : Bool) (w : World) : Calls Tryd.prog 14 #[.bool b] w fun e w' => e = .returned (V 2 (one b) E) ∧ G w w' := by
  go_enter Tryd.func14, Tryd.ntmps14
  go_wp2_with (first | (go_at_call 23; refine (zero_any _ _).mono ?_; rintro e w1 ⟨rfl, hg1⟩; (try simp only [R.v, V]); have A1 := hid ((At.alloc _ _ _ _).mono hg1); obtain ⟨l1, c10, c11, c12, f1⟩ := A1.out; have H1 := hid hg1; clear hg1))
  all_goals first
    | (exfalso; omega)
    | (apply post1; exact Tryd.results14; rfl; (first | exact At.alloc _ _ _ _ | exact At.set (Hid.out (by assumption)) _ _ _ | exact (At.set (Hid.out (by assumption)) _ _ _).more _ | exact (At.alloc _ _ _ _).more _ | exact ((At.alloc _ _ _ _).more _).more _); refine And.intro ?eq ?gg; case gg => (repeat first | exact G.refl _ | refine G.then ?_ (by assumption) | refine G.alloc ?_ _ | refine G.set ?_ (by simp) _)
       case eq => (first | rfl | (simp_all [one, V, R.v]; all_goals first | rfl | (unfold wrap64; omega) | omega | (rw [if_pos (by omega)]; simp) | (rw [if_neg (by omega)]; simp))))

theorem rbool_any (b : Bool) (w : World) : Calls Tryd.prog 20 #[.bool b] w fun e w' => e = .returned (V 2 (one b) E) ∧ G w w' := by
  go_enter Tryd.func20, Tryd.ntmps20
  go_wp2
  all_goals first
    | (exfalso; omega)
    | (apply post1; exact Tryd.results20; rfl; (first | exact At.alloc _ _ _ _ | exact At.set (Hid.out (by assumption)) _ _ _ | exact (At.set (Hid.out (by assumption)) _ _ _).more _ | exact (At.alloc _ _ _ _).more _ | exact ((At.alloc _ _ _ _).more _).more _); refine And.intro ?eq ?gg; case gg => (repeat first | exact G.refl _ | refine G.then ?_ (by assumption) | refine G.alloc ?_ _ | refine G.set ?_ (by simp) _)
       case eq => (first | rfl | (simp_all [one, V, R.v]; all_goals first | rfl | (unfold wrap64; omega) | omega | (rw [if_pos (by omega)]; simp) | (rw [if_neg (by omega)]; simp))))

theorem order_any (g : ByteArray) (a b : Int) (w : World) : Calls Tryd.prog 37 #[.string g, .int .i64 a, .int .i64 b] w fun e w' => e = .returned ((orderR g a b).v) ∧ G w w' := by
  go_enter Tryd.func37, Tryd.ntmps37
  go_wp2_with (first | (go_at_call 14; refine (bool_any _ _).mono ?_; rintro e w1 ⟨rfl, hg1⟩; (try simp only [R.v, V]); have A1 := hid ((At.alloc _ _ _ _).mono hg1); obtain ⟨l1, c10, c11, c12, f1⟩ := A1.out; have H1 := hid hg1; clear hg1))
  all_goals first
    | (exfalso; omega)
    | (apply post2; exact Tryd.results37; rfl; rfl; (first | exact At.alloc _ _ _ _ | exact At.set (Hid.out (by assumption)) _ _ _ | exact (At.set (Hid.out (by assumption)) _ _ _).more _ | exact (At.alloc _ _ _ _).more _ | exact ((At.alloc _ _ _ _).more _).more _); refine And.intro ?eq ?gg; case gg => (repeat first | exact G.refl _ | refine G.then ?_ (by assumption) | refine G.alloc ?_ _ | refine G.set ?_ (by simp) _)
       case eq => (first | rfl | (simp_all [orderR, boolR, noR, one, V, R.v]; all_goals first | rfl | (unfold wrap64; omega) | omega | (rw [if_pos (by omega)]; simp) | (rw [if_neg (by omega)]; simp))))

theorem both_any (g : ByteArray) (a b : Bool) (w : World) : Calls Tryd.prog 32 #[.string g, .bool a, .bool b] w fun e w' => e = .returned ((bothR g a b).v) ∧ G w w' := by
  go_enter Tryd.func32, Tryd.ntmps32
  go_wp2_with (first | (go_at_call 14; refine (bool_any _ _).mono ?_; rintro e w1 ⟨rfl, hg1⟩; (try simp only [R.v, V]); have A1 := hid ((At.alloc _ _ _ _).mono hg1); obtain ⟨l1, c10, c11, c12, f1⟩ := A1.out; have H1 := hid hg1; clear hg1))
  all_goals first
    | (exfalso; omega)
    | (apply post2; exact Tryd.results32; rfl; rfl; (first | exact At.alloc _ _ _ _ | exact At.set (Hid.out (by assumption)) _ _ _ | exact (At.set (Hid.out (by assumption)) _ _ _).more _ | exact (At.alloc _ _ _ _).more _ | exact ((At.alloc _ _ _ _).more _).more _); refine And.intro ?eq ?gg; case gg => (repeat first | exact G.refl _ | refine G.then ?_ (by assumption) | refine G.alloc ?_ _ | refine G.set ?_ (by simp) _)
       case eq => (first | rfl | (simp_all [bothR, boolR, noR, one, V, R.v]; all_goals first | rfl | (unfold wrap64; omega) | omega | (rw [if_pos (by omega)]; simp) | (rw [if_neg (by omega)]; simp))))

theorem texts_any (g a b : ByteArray) (w : World) (ha : a.size ≤ 60) (hb : b.size ≤ 60) : Calls Tryd.prog 33 #[.string g, .string a, .string b] w fun e w' => e = .returned ((textR g a b).v) ∧ G w w' := by
  have hw0 : wrap64 ((a.size : Int) + (b.size : Int)) = ((a.size + b.size : Nat) : Int) := by unfold wrap64; omega
  have hw1 : wrap64 ((a.size : Int) + (b.size : Int)) ≤ 120 := by omega
  have hw2 : 0 ≤ wrap64 ((a.size : Int) + (b.size : Int)) := by omega
  have HW := hid hw0
  go_enter Tryd.func33, Tryd.ntmps33
  go_wp2_with (first | (go_at_call 21; refine (text_any _ _).mono ?_; rintro e w1 ⟨rfl, hg1⟩; (try simp only [R.v, V]); have A1 := hid ((At.alloc _ _ _ _).mono hg1); obtain ⟨l1, c10, c11, c12, f1⟩ := A1.out; have H1 := hid hg1; clear hg1))
  all_goals first
    | (exfalso; omega)
    | (apply post2; exact Tryd.results33; rfl; rfl; (first | exact At.alloc _ _ _ _ | exact At.set (Hid.out (by assumption)) _ _ _ | exact (At.set (Hid.out (by assumption)) _ _ _).more _ | exact (At.alloc _ _ _ _).more _ | exact ((At.alloc _ _ _ _).more _).more _); refine And.intro ?eq ?gg; case gg => (repeat first | exact G.refl _ | refine G.then ?_ (by assumption) | refine G.alloc ?_ _ | refine G.set ?_ (by simp) _)
       case eq => (first | rfl | (simp_all [textR, noR, V, R.v]; all_goals first | rfl | (unfold wrap64; omega) | omega | (rw [if_pos (by omega)]; simp) | (rw [if_neg (by omega)]; simp))))

set_option maxHeartbeats 2000000 in
theorem numbers_any (g : ByteArray) (a b : Int) (w : World) : Calls Tryd.prog 31 #[.string g, .int .i64 a, .int .i64 b] w fun e w' => e = .returned ((numR g a b).v) ∧ G w w' := by
  go_enter Tryd.func31, Tryd.ntmps31
  by_cases hb : b = 0 <;>
  go_wp2_with (first | (go_at_call 11; refine (int_any _ _).mono ?_; rintro e w1 ⟨rfl, hg1⟩; (try simp only [R.v, V]); have A1 := hid ((At.alloc _ _ _ _).mono hg1); obtain ⟨l1, c10, c11, c12, f1⟩ := A1.out; have H1 := hid hg1; clear hg1) | (go_at_call 37; refine (order_any _ _ _ _).mono ?_; rintro e w1 ⟨rfl, hg1⟩; (try simp only [R.v, V]); have A1 := hid ((At.alloc _ _ _ _).mono hg1); obtain ⟨l1, c10, c11, c12, f1⟩ := A1.out; have H1 := hid hg1; clear hg1))
  all_goals first
    | (exfalso; omega)
    | (apply post2; exact Tryd.results31; rfl; rfl; (first | exact At.alloc _ _ _ _ | exact At.set (Hid.out (by assumption)) _ _ _ | exact (At.set (Hid.out (by assumption)) _ _ _).more _ | exact (At.alloc _ _ _ _).more _ | exact ((At.alloc _ _ _ _).more _).more _); refine And.intro ?eq ?gg; case gg => (repeat first | exact G.refl _ | refine G.then ?_ (by assumption) | refine G.alloc ?_ _ | refine G.set ?_ (by simp) _)
       case eq => (first | rfl | (simp_all [numR, V, R.v]; all_goals first | rfl | (unfold wrap64; omega) | omega | (rw [if_pos (by omega)]; simp) | (rw [if_neg (by omega)]; simp))))

set_option maxHeartbeats 2000000 in
theorem ints_any (g : ByteArray) (a b : Int) (w : World) : Calls Tryd.prog 34 #[.string g, .int .i64 a, .int .i64 b] w fun e w' => e = .returned ((numR g a b).v) ∧ G w w' := by
  go_enter Tryd.func34, Tryd.ntmps34
  by_cases hb : b = 0 <;>
  go_wp2_with (first | (go_at_call 19; refine (rint_any _ _).mono ?_; rintro e w1 ⟨rfl, hg1⟩; (try simp only [R.v, V]); have A1 := hid ((At.alloc _ _ _ _).mono hg1); obtain ⟨l1, c10, c11, c12, f1⟩ := A1.out; have H1 := hid hg1; clear hg1) | (go_at_call 20; refine (rbool_any _ _).mono ?_; rintro e w1 ⟨rfl, hg1⟩; (try simp only [R.v, V]); have A1 := hid ((At.alloc _ _ _ _).mono hg1); obtain ⟨l1, c10, c11, c12, f1⟩ := A1.out; have H1 := hid hg1; clear hg1))
  all_goals first
    | (exfalso; omega)
    | (apply post2; exact Tryd.results34; rfl; rfl; (first | exact At.alloc _ _ _ _ | exact At.set (Hid.out (by assumption)) _ _ _ | exact (At.set (Hid.out (by assumption)) _ _ _).more _ | exact (At.alloc _ _ _ _).more _ | exact ((At.alloc _ _ _ _).more _).more _); refine And.intro ?eq ?gg; case gg => (repeat first | exact G.refl _ | refine G.then ?_ (by assumption) | refine G.alloc ?_ _ | refine G.set ?_ (by simp) _)
       case eq => (first | rfl | (simp_all [numR, orderR, boolR, noR, one, V, R.v]; all_goals first | rfl | (unfold wrap64; omega) | omega | (rw [if_pos (by omega)]; simp) | (rw [if_neg (by omega)]; simp))))

end Go.Proofs.YtlmmpcoakemooaaDoor
