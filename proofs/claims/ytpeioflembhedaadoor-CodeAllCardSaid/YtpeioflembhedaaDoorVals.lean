/-
  An instruction of the program as the model has it; the variables that hold one; what a function hands back out of its variable. No conditions.
-/
import Derived.Test.YtpeioflembhedaaDoorMap
import Derived.Deep.Cut
import Derived.Laws.ResultCell
namespace Go.Proofs.YtpeioflembhedaaDoor
open Go.RowKit

/-- An instruction: its kind, its two numbers, its text. -/
def V (o a b : Int) (s : ByteArray) : Value := .agg #[.int .i64 o, .int .i64 a, .int .i64 b, .string s]
abbrev E : ByteArray := ⟨#[]⟩

theorem G.set {a w : World} (h : G a w) {p : Addr} (hp : a.heap.size ≤ p.block) (u : Value) : G a (w.setCell p u) := Below.setCell h hp u
theorem G.then {a b c : World} (h : G a b) (k : Hid (G b c)) : G a c := h.trans k.out

/-- The cells from f on in block k hold an instruction; they are no memory that strings share. -/
structure At (w : World) (k f : Nat) (o a b : Int) (s : ByteArray) : Prop where
  lt : k < w.heap.size
  c0 : w.cell? ⟨k, f, none⟩ = some (.int .i64 o)
  c1 : w.cell? ⟨k, f + 1, none⟩ = some (.int .i64 a)
  c2 : w.cell? ⟨k, f + 2, none⟩ = some (.int .i64 b)
  c3 : w.cell? ⟨k, f + 3, none⟩ = some (.string s)
  fr : ∀ i : Nat, w.frozen? ⟨k, i, none⟩ = false
theorem At.mono {w w' : World} {k f : Nat} {o a b : Int} {s : ByteArray} (h : At w k f o a b s) (hg : G w w') : At w' k f o a b s :=
  ⟨Nat.lt_of_lt_of_le h.lt hg.size, hg.cell h.c0, hg.cell h.c1, hg.cell h.c2, hg.cell h.c3, fun i => (Below.frozen hg h.lt).trans (h.fr i)⟩
theorem At.alloc (w : World) (o a b : Int) (s : ByteArray) : At (w.alloc (.cells #[.int .i64 o, .int .i64 a, .int .i64 b, .string s] 23)) w.heap.size 0 o a b s := by
  refine ⟨by simp, ?_, ?_, ?_, ?_, fun i => ?_⟩ <;> simp [go_sem]
theorem At.more {w : World} {k f : Nat} {o a b : Int} {s : ByteArray} (h : At w k f o a b s) (x : Obj) : At (w.alloc x) k f o a b s := h.mono ((G.refl w).alloc x)
theorem At.new2 (w : World) (x : Obj) (o a b : Int) (s : ByteArray) : At ((w.alloc x).alloc (.cells #[.int .i64 o, .int .i64 a, .int .i64 b, .string s] 23)) (w.heap.size + 1) 0 o a b s := by
  have h := At.alloc (w.alloc x) o a b s
  simpa using h
theorem At.after {w w1 : World} {o a b : Int} {s : ByteArray} (h : G (w.alloc (.cells #[.int .i64 o, .int .i64 a, .int .i64 b, .string s] 23)) w1) : At w1 w.heap.size 0 o a b s := (At.alloc _ _ _ _ _).mono h
theorem At.after2 {w w1 : World} {x : Obj} {o a b : Int} {s : ByteArray} (h : G ((w.alloc x).alloc (.cells #[.int .i64 o, .int .i64 a, .int .i64 b, .string s] 23)) w1) : At w1 (w.heap.size + 1) 0 o a b s := (At.new2 _ _ _ _ _ _).mono h
theorem At.load {w : World} {k : Nat} {o a b : Int} {s : ByteArray} (h : At w k 0 o a b s) : (loadVar 23 ⟨k, 0, none⟩).run Tryd.prog w = .ok (V o a b s) w := by
  obtain ⟨l, c0, c1, c2, c3, f⟩ := h
  simp at c1 c2 c3
  simp [go_sem, c0, c1, c2, c3, V]

/-- May a number be: nought, or had and no more than 2^30. -/
def numR (had : Bool) (n : Int) : Bool := decide (n = 0) || (had && decide (0 < n) && decide (n ≤ 1073741824))
theorem number_any (had : Bool) (n : Int) (w : World) : Calls Tryd.prog 23 #[.bool had, .int .i64 n] w fun e w' => e = .returned (.bool (numR had n)) ∧ w = w' := by
  unfold numR
  go_enter Tryd.func23, Tryd.ntmps23
  cases had
  · go_wp2
    all_goals (go_ret; refine ⟨?_, rfl⟩; simp_all)
  · rcases (show n = 0 ∨ n < 0 ∨ (0 < n ∧ n ≤ 1073741824) ∨ (0 < n ∧ 1073741824 < n) by omega) with rfl | h | ⟨h, k⟩ | ⟨h, k⟩
    all_goals (
      go_wp2
      all_goals first
        | (exfalso; omega)
        | (go_ret
           refine ⟨?_, rfl⟩
           first
             | rfl
             | (simp_all; done)
             | (have k1 : ¬ n = 0 := by omega
                have k2 : ¬ (0 : Int) < n := by omega
                simp [k1, k2]; done)
             | (have k1 : ¬ n = 0 := by omega
                have k2 : ¬ n ≤ 1073741824 := by omega
                simp [k1, k2]; done)
             | (have k1 : ¬ n = 0 := by omega
                simp [k1, h, k]; done)
             | (trace_state; simp_all; omega)))

/-- Which numbers and texts a kind has. -/
def hasA (o : Int) : Bool := decide (shapeR o = 1) || decide (shapeR o = 3)
def hasB (o : Int) : Bool := decide (shapeR o = 3)
def hasS (o : Int) : Bool := decide (shapeR o = 4)
theorem shapes4 (o : Int) : shapeR o = 0 ∨ shapeR o = 1 ∨ shapeR o = 3 ∨ shapeR o = 4 := by
  unfold shapeR
  split
  · exact .inr (.inl rfl)
  · split
    · exact .inr (.inr (.inl rfl))
    · split
      · exact .inr (.inr (.inr rfl))
      · exact .inl rfl
theorem shape_to {o k : Int} (h : shapeR o = k) (h0 : -9223372036854775808 ≤ o) (h1 : o ≤ 9223372036854775807) (w : World) : Calls Tryd.prog 22 #[.int .i64 o] w fun e w' => e = .returned (.int .i64 k) ∧ G w w' := by
  subst h
  exact shape_any o h0 h1 w
def mayR (o a b : Int) (s : ByteArray) : Bool :=
  decide (1 ≤ o) && decide (o ≤ 23) && (decide (o = 2) || numR (hasA o) a) && numR (hasB o) b && (s.toList == [] || (hasS o && decide (s.size ≤ 40)))
end Go.Proofs.YtpeioflembhedaaDoor
