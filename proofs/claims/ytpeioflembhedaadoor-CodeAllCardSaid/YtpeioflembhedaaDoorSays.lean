/-
  What each operation of a region is to yield: a known value, or a row of one text of the call's own; and the single operations' laws. No conditions.
-/
import Derived.Test.YtpeioflembhedaaDoorVals
import Derived.Laws.AppendOwn
import Derived.BigCall
namespace Go.Proofs.YtpeioflembhedaaDoor
open Go.RowKit

theorem G.turned {w w' : World} (h : G w w') : w.grownBy w' none := ⟨h.os, h.tape, h.output, h.size, fun k hk _ => h.block k hk⟩
theorem own_on {w w' : World} {B n : Nat} {v : Value} {xs : List Value} (h : w.ownsRow B 9 1 v n xs) (k : G w w') : w'.ownsRow B 9 1 v n xs := h.kept k.turned (by cases v.ownBlock <;> simp)

/-- A known value · a row of one text in memory behind a bound. -/
inductive Say where
  | is (v : Value)
  | own (B : Nat) (s : ByteArray)
def post : Say → Post
  | .is v => fun u _ => u = v
  | .own B s => fun u w => w.ownsRow B 9 1 u 1 [.string s]
theorem post_mono (s : Say) {v : Value} {w w' : World} (hg : G w w') (h : post s v w) : post s v w' := by
  match s, h with
  | .is _, h => exact h
  | .own _ _, h => exact own_on h hg

/-- The statements of a region's operations, in their order. -/
def says (l : List Say) (i : Nat) : Post := post (l.getD i (.is undef))
theorem says_mono (l : List Say) : ∀ i v w w', G w w' → says l i v w → says l i v w' := fun _ _ _ _ hg h => post_mono _ hg h

/-- All of a list's operations, one behind the other. -/
def allSteps (S : Nat → Oper → Prop) : Nat → List Oper → Prop
  | _, [] => True
  | k, o :: l => S k o ∧ allSteps S (k + 1) l
theorem allSteps_get {S : Nat → Oper → Prop} : ∀ (l : List Oper) (k : Nat), allSteps S k l → ∀ (i : Nat) (o : Oper), l[i]? = some o → S (k + i) o
  | [], _, _, i, o, h => by simp at h
  | x :: l, k, hs, 0, o, h => by simp at h; subst h; exact hs.1
  | x :: l, k, hs, i + 1, o, h => by
    have := allSteps_get l (k + 1) hs.2 i o (by simpa using h)
    rwa [show k + 1 + i = k + (i + 1) by omega] at this
theorem allSteps_take {S : Nat → Oper → Prop} {ops : List Oper} {m : Nat} (h : allSteps S 0 (ops.take m)) : ∀ (i : Nat) (o : Oper), i < m → ops.toArray[i]? = some o → S i o := by
  intro i o hi ho
  have := allSteps_get _ _ h i o (by rw [List.getElem?_take, if_pos hi]; simpa using ho)
  simpa using this

section
variable {P : Program} {ops : Array Oper} {m : Nat} {a a0 : Act} {w : World} {Φ : Nat → Post}

theorem slot_in {t : Tmp} {j : Nat} (h : slotIs ops m Φ a0 t a w) (hw : writer ops m t = some j) : Φ j (a.eval (.tmp t)) w := by
  unfold slotIs at h; rw [hw] at h; exact h
theorem slot_out {t : Tmp} (h : slotIs ops m Φ a0 t a w) (hw : writer ops m t = none) : a.eval (.tmp t) = a0.eval (.tmp t) := by
  unfold slotIs at h; rw [hw] at h; exact h

theorem wanted_none {o : Oper} {f : Nat → Option Bool} (h : o.guard = none) : Region.wanted o f = true := by unfold Region.wanted; rw [h]
theorem yielded_of {t : Tmp} {j : Nat} {b : Bool} (hj : (ops[j]?).bind (·.dst) = some t) (h : a.eval (.tmp t) = .bool b) : yielded ops a.tmps j = some b := by
  unfold yielded
  rw [hj]
  simp only [Act.eval, Array.getD_eq_getD_getElem?] at h
  cases ht : a.tmps[t]? with
  | none => rw [ht] at h; simp [undef] at h
  | some v => rw [ht] at h; simp at h; subst h; simp [ht]
theorem wanted_yes {o : Oper} {t : Tmp} {j : Nat} {b : Bool} (hg : o.guard = some (j, b)) (hj : (ops[j]?).bind (·.dst) = some t) (h : a.eval (.tmp t) = .bool b) :
    Region.wanted o (yielded ops a.tmps) = true := by
  unfold Region.wanted
  rw [hg]
  simp only [yielded_of hj h]
  simp
theorem wanted_no {o : Oper} {t : Tmp} {j : Nat} {b : Bool} (hg : o.guard = some (j, b)) (hj : (ops[j]?).bind (·.dst) = some t) (h : a.eval (.tmp t) = .bool !b) :
    Region.wanted o (yielded ops a.tmps) = false := by
  unfold Region.wanted
  rw [hg]
  simp only [yielded_of hj h]
  cases b <;> simp

theorem grow_run {o : Oper} {v : Value} {Ψ : Post} (h : (execOp a.eval o).run P w = .ok (.value v) w) (hv : Ψ v w) : growAt P o a w Ψ := by
  unfold growAt
  rw [h]
  exact ⟨G.refl w, hv⟩
theorem grow_move {o : Oper} {x : Operand} {Ψ : Post} (h : o.op = .move x) (hv : Ψ (a.eval x) w) : growAt P o a w Ψ :=
  grow_run (by unfold execOp; rw [h]; rfl) hv
theorem grow_assign {o : Oper} {x : Operand} {Ψ : Post} (h : o.op = .assign x) (hv : Ψ (a.eval x) w) : growAt P o a w Ψ :=
  grow_run (by unfold execOp; rw [h]; rfl) hv
theorem grow_pick {o : Oper} {c x y : Operand} {b : Bool} {Ψ : Post} (h : o.op = .pick c x y) (hc : a.eval c = .bool b) (hv : Ψ (if b then a.eval x else a.eval y) w) : growAt P o a w Ψ :=
  grow_run (by unfold execOp; rw [h]; simp only [hc]; rfl) hv
theorem grow_call {dst : Option Tmp} {f : FuncId} {xs : Array Operand} {ats : Array TypeId} {ty : TypeId} {pos : String} {after : Array Edge} {guard : Option (Nat × Bool)} {Ψ : Post} (hcall : ∀ args w, (callFunc f args).run P w = .ok (.enter f args) w)
    (args : Array Value) (hargs : xs.map a.eval = args) (hc : Calls P f args w (fun e w'' => ∃ v, e = .returned v ∧ G w w'' ∧ Ψ v w'')) :
    growAt P { dst, op := .call { callee := .value (.func f), args := xs, argTypes := ats }, type := ty, pos, after, guard } a w Ψ := by
  unfold growAt
  rw [execOp_call_go, hargs, hcall]
  simp only [growUpon]
  exact ⟨trivial, by simpa using hc⟩
theorem grow_not {o : Oper} {x : Operand} {t : TypeId} {b : Bool} {Ψ : Post} (h : o.op = .unOp .not t x) (hx : a.eval x = .bool b) (hv : Ψ (.bool !b) w) : growAt P o a w Ψ := by
  refine grow_run ?_ hv
  unfold execOp
  rw [h]
  simp only [hx]
  simp [go_sem]
theorem grow_eqbool {o : Oper} {x y : Operand} {t t2 : TypeId} {b d : Bool} {Ψ : Post} (h : o.op = .binOp .eql t x y t2) (ht : P.underlying t = some .bool) (hx : a.eval x = .bool b) (hy : a.eval y = .bool d)
    (hv : Ψ (.bool (b == d)) w) : growAt P o a w Ψ := by
  refine grow_run ?_ hv
  unfold execOp
  rw [h]
  simp only [hx, hy]
  simp [go_sem, run_eql_bool w t b d ht]
theorem grow_build1 {o : Oper} {x : Operand} {B : Nat} {s : ByteArray} {Ψ : Post} (h : o.op = .buildSlice 45 1 #[(0, x)]) (hx : a.eval x = .string s) (hB : B ≤ w.heap.size) (hv : ∀ v w', w'.ownsRow B 9 1 v 1 [.string s] → Ψ v w') : growAt Tryd.prog o a w Ψ := by
  have hrun : (execOp a.eval o).run Tryd.prog w = .ok (.value (.slice (some ⟨w.heap.size, 0, none⟩) 1 1)) (w.alloc (.cells #[.string s] 9)) := by
    have e1 : (#[(0, x)] : Array (Nat × Operand)).map (fun (i, y) => (i, a.eval y)) = #[(0, .string s)] := by simp [hx]
    unfold execOp
    rw [h]
    simp only [e1]
    simp [go_sem]
  unfold growAt
  rw [hrun]
  refine ⟨(G.refl w).alloc _, hv _ _ ⟨rfl, .inr ⟨w.heap.size, 1, #[.string s], rfl, hB, heap_alloc_new w _, by decide, by decide, rfl, rfl⟩⟩⟩
theorem grow_addr {o : Oper} {x : Operand} {k b : Nat} {Ψ : Post} (h : o.op = .fieldAddr 23 x k) (hk : k < 4) (hx : a.eval x = .pointer (some ⟨b, 0, none⟩)) (hv : Ψ (.pointer (some ⟨b, k, none⟩)) w) : growAt Tryd.prog o a w Ψ := by
  refine grow_run ?_ hv
  unfold execOp
  rw [h]
  simp only [hx]
  rcases (show k = 0 ∨ k = 1 ∨ k = 2 ∨ k = 3 by omega) with rfl | rfl | rfl | rfl <;> simp [go_sem]
theorem grow_load0 {o : Oper} {x : Operand} {b : Nat} {t n u : Int} {s : ByteArray} {Ψ : Post} (h : o.op = .load 3 x) (ha : At w b 0 t n u s) (hx : a.eval x = .pointer (some ⟨b, 0, none⟩)) (hv : Ψ (.int .i64 t) w) : growAt Tryd.prog o a w Ψ := by
  refine grow_run ?_ hv
  obtain ⟨l, c0, c1, c2, c3, f⟩ := ha
  simp at c1 c2 c3
  unfold execOp
  rw [h]
  simp only [hx]
  simp [go_sem, c0, c1, c2, c3]
theorem grow_load1 {o : Oper} {x : Operand} {b : Nat} {t n u : Int} {s : ByteArray} {Ψ : Post} (h : o.op = .load 3 x) (ha : At w b 0 t n u s) (hx : a.eval x = .pointer (some ⟨b, 1, none⟩)) (hv : Ψ (.int .i64 n) w) : growAt Tryd.prog o a w Ψ := by
  refine grow_run ?_ hv
  obtain ⟨l, c0, c1, c2, c3, f⟩ := ha
  simp at c1 c2 c3
  unfold execOp
  rw [h]
  simp only [hx]
  simp [go_sem, c0, c1, c2, c3]
theorem grow_load2 {o : Oper} {x : Operand} {b : Nat} {t n u : Int} {s : ByteArray} {Ψ : Post} (h : o.op = .load 3 x) (ha : At w b 0 t n u s) (hx : a.eval x = .pointer (some ⟨b, 2, none⟩)) (hv : Ψ (.int .i64 u) w) : growAt Tryd.prog o a w Ψ := by
  refine grow_run ?_ hv
  obtain ⟨l, c0, c1, c2, c3, f⟩ := ha
  simp at c1 c2 c3
  unfold execOp
  rw [h]
  simp only [hx]
  simp [go_sem, c0, c1, c2, c3]
theorem grow_load {o : Oper} {x : Operand} {b : Nat} {t n u : Int} {s : ByteArray} {Ψ : Post} (h : o.op = .load 23 x) (ha : At w b 0 t n u s) (hx : a.eval x = .pointer (some ⟨b, 0, none⟩)) (hv : Ψ (V t n u s) w) : growAt Tryd.prog o a w Ψ := by
  refine grow_run ?_ hv
  obtain ⟨l, c0, c1, c2, c3, f⟩ := ha
  simp at c1 c2 c3
  unfold execOp
  rw [h]
  simp only [hx]
  simp [go_sem, c0, c1, c2, c3, V]
theorem grow_eqtext {o : Oper} {x y : Operand} {m n : ByteArray} {Ψ : Post} (h : o.op = .binOp .eql 9 x y 9) (hx : a.eval x = .string m) (hy : a.eval y = .string n) (hv : Ψ (.bool (m.toList == n.toList)) w) : growAt Tryd.prog o a w Ψ := by
  refine grow_run ?_ hv
  unfold execOp
  rw [h]
  simp only [hx, hy]
  simp [go_sem, Tryd.underlying9]
def sameV (t n u : Int) (s : ByteArray) (t2 n2 u2 : Int) (s2 : ByteArray) : Bool := decide (t = t2) && decide (n = n2) && decide (u = u2) && s.toList == s2.toList
theorem grow_eqV {o : Oper} {x y : Operand} {t n u t2 n2 u2 : Int} {s s2 : ByteArray} {Ψ : Post} (h : o.op = .binOp .eql 23 x y 23) (hx : a.eval x = V t n u s) (hy : a.eval y = V t2 n2 u2 s2) (hv : Ψ (.bool (sameV t n u s t2 n2 u2 s2)) w) : growAt Tryd.prog o a w Ψ := by
  refine grow_run ?_ hv
  unfold execOp
  rw [h]
  simp only [hx, hy, V]
  by_cases h1 : t = t2 <;> by_cases h2 : n = n2 <;> by_cases h4 : u = u2 <;> by_cases h3 : s.toList = s2.toList <;> simp [go_sem, h1, h2, h3, h4, sameV]
end
end Go.Proofs.YtpeioflembhedaaDoor
