/-
  What each operation of a region is to yield, said in three ways: a known value, a row of bytes, a row and a truth; and the single operations' laws. No conditions.
-/
import Derived.Test.YtoodfngcfdhnfaaBase
import Derived.BigCall
namespace Go.Proofs.Ytoodfngcfdhnfaa
open Go.RowKit Go.Proofs.Ytoodfngcfdhnfaa.Crc

/-- A known value · a row of these bytes · a row of these bytes, and a truth, together. -/
abbrev Say := Value ⊕ (List Nat ⊕ (List Nat × Bool))
def Say.is (v : Value) : Say := .inl v
def Say.row (ns : List Nat) : Say := .inr (.inl ns)
def Say.two (ns : List Nat) (b : Bool) : Say := .inr (.inr (ns, b))

def IsRow (ns : List Nat) (v : Value) (w : World) : Prop := ∃ p c, v = .slice p ns.length c ∧ c ≤ maxLen ∧ RowAt w p c ns
theorem IsRow.mono {ns : List Nat} {v : Value} {w w' : World} (h : IsRow ns v w) (hg : G w w') : IsRow ns v w' :=
  let ⟨p, c, e, hc, hr⟩ := h; ⟨p, c, e, hc, hr.mono hg⟩

def post : Say → Post
  | .inl v => fun u _ => u = v
  | .inr (.inl ns) => IsRow ns
  | .inr (.inr (ns, b)) => fun u w => ∃ v, u = .tuple #[v, .bool b] ∧ IsRow ns v w

theorem post_mono (s : Say) {v : Value} {w w' : World} (hg : G w w') (h : post s v w) : post s v w' := by
  match s, h with
  | .inl _, h => exact h
  | .inr (.inl _), h => exact IsRow.mono h hg
  | .inr (.inr (_, _)), h => exact let ⟨v, e, hr⟩ := h; ⟨v, e, hr.mono hg⟩

/-- The statements of a region's operations, in their order. -/
def says (l : List Say) (i : Nat) : Post := post (l.getD i (.is undef))
theorem says_mono (l : List Say) : ∀ i v w w', G w w' → says l i v w → says l i v w' := fun _ _ _ _ hg h => post_mono _ hg h

/-- All of a list's operations, one behind the other. -/
def allSteps (S : Nat → Oper → Prop) : Nat → List Oper → Prop
  | _, [] => True
  | k, o :: l => S k o ∧ allSteps S (k + 1) l
theorem allSteps_get {S : Nat → Oper → Prop} : ∀ (l : List Oper) (k : Nat), allSteps S k l → ∀ (i : Nat) (o : Oper), l[i]? = some o → S (k + i) o
  | [], _, _, i, o, h => by simp at h
  | x :: l, k, hs, 0, o, h => by simp at h; subst h; exact hs.1
  | x :: l, k, hs, i + 1, o, h => by
    have := allSteps_get l (k + 1) hs.2 i o (by simpa using h)
    rwa [show k + 1 + i = k + (i + 1) by omega] at this
theorem allSteps_take {S : Nat → Oper → Prop} {ops : List Oper} {m : Nat} (h : allSteps S 0 (ops.take m)) : ∀ (i : Nat) (o : Oper), i < m → ops.toArray[i]? = some o → S i o := by
  intro i o hi ho
  have := allSteps_get _ _ h i o (by rw [List.getElem?_take, if_pos hi]; simpa using ho)
  simpa using this

section
variable {P : Program} {ops : Array Oper} {m : Nat} {a a0 : Act} {w : World} {Φ : Nat → Post}

theorem slot_in {t : Tmp} {j : Nat} (h : slotIs ops m Φ a0 t a w) (hw : writer ops m t = some j) : Φ j (a.eval (.tmp t)) w := by
  unfold slotIs at h; rw [hw] at h; exact h
theorem slot_out {t : Tmp} (h : slotIs ops m Φ a0 t a w) (hw : writer ops m t = none) : a.eval (.tmp t) = a0.eval (.tmp t) := by
  unfold slotIs at h; rw [hw] at h; exact h

theorem wanted_none {o : Oper} {f : Nat → Option Bool} (h : o.guard = none) : Region.wanted o f = true := by unfold Region.wanted; rw [h]
theorem yielded_of {t : Tmp} {j : Nat} {b : Bool} (hj : (ops[j]?).bind (·.dst) = some t) (h : a.eval (.tmp t) = .bool b) : yielded ops a.tmps j = some b := by
  unfold yielded
  rw [hj]
  simp only [Act.eval, Array.getD_eq_getD_getElem?] at h
  cases ht : a.tmps[t]? with
  | none => rw [ht] at h; simp [undef] at h
  | some v => rw [ht] at h; simp at h; subst h; simp [ht]
theorem wanted_yes {o : Oper} {t : Tmp} {j : Nat} {b : Bool} (hg : o.guard = some (j, b)) (hj : (ops[j]?).bind (·.dst) = some t) (h : a.eval (.tmp t) = .bool b) :
    Region.wanted o (yielded ops a.tmps) = true := by
  unfold Region.wanted
  rw [hg]
  simp only [yielded_of hj h]
  simp
theorem wanted_no {o : Oper} {t : Tmp} {j : Nat} {b : Bool} (hg : o.guard = some (j, b)) (hj : (ops[j]?).bind (·.dst) = some t) (h : a.eval (.tmp t) = .bool !b) :
    Region.wanted o (yielded ops a.tmps) = false := by
  unfold Region.wanted
  rw [hg]
  simp only [yielded_of hj h]
  cases b <;> simp

theorem grow_run {o : Oper} {v : Value} {Ψ : Post} (h : (execOp a.eval o).run P w = .ok (.value v) w) (hv : Ψ v w) : growAt P o a w Ψ := by
  unfold growAt
  rw [h]
  exact ⟨G.refl w, hv⟩
theorem grow_move {o : Oper} {x : Operand} {Ψ : Post} (h : o.op = .move x) (hv : Ψ (a.eval x) w) : growAt P o a w Ψ :=
  grow_run (by unfold execOp; rw [h]; rfl) hv
theorem grow_assign {o : Oper} {x : Operand} {Ψ : Post} (h : o.op = .assign x) (hv : Ψ (a.eval x) w) : growAt P o a w Ψ :=
  grow_run (by unfold execOp; rw [h]; rfl) hv
theorem grow_pick {o : Oper} {c x y : Operand} {b : Bool} {Ψ : Post} (h : o.op = .pick c x y) (hc : a.eval c = .bool b) (hv : Ψ (if b then a.eval x else a.eval y) w) : growAt P o a w Ψ :=
  grow_run (by unfold execOp; rw [h]; simp only [hc]; rfl) hv
theorem grow_call {dst : Option Tmp} {f : FuncId} {xs : Array Operand} {ats : Array TypeId} {ty : TypeId} {pos : String} {after : Array Edge} {guard : Option (Nat × Bool)} {Ψ : Post} (hcall : ∀ args w, (callFunc f args).run P w = .ok (.enter f args) w)
    (args : Array Value) (hargs : xs.map a.eval = args) (hc : Calls P f args w (fun e w'' => ∃ v, e = .returned v ∧ G w w'' ∧ Ψ v w'')) :
    growAt P { dst, op := .call { callee := .value (.func f), args := xs, argTypes := ats }, type := ty, pos, after, guard } a w Ψ := by
  unfold growAt
  rw [execOp_call_go, hargs, hcall]
  simp only [growUpon]
  exact ⟨trivial, by simpa using hc⟩
theorem grow_convert {o : Oper} {x : Operand} {src dst e : TypeId} {ns : List Nat} {Ψ : Post} (h : o.op = .convert src dst x) (hs : P.underlying src = some (.slice e)) (he : P.underlying e = some (.int .u8)) (hd : P.underlying dst = some .string)
    (hx : IsRow ns (a.eval x) w) (hv : Ψ (.string (str ns)) w) : growAt P o a w Ψ := by
  obtain ⟨p, c, e1, _, hr⟩ := hx
  refine grow_run (v := .string (str ns)) ?_ hv
  unfold execOp
  rw [h]
  simp only [e1, Sem.run_bind, hr.convert src e dst hs he hd, Result.andThen_ok, Sem.run_pure]
theorem grow_eqstr {o : Oper} {x y : Operand} {t t2 : TypeId} {xs ys : List Nat} {Ψ : Post} (h : o.op = .binOp .eql t x y t2) (bx : Bytes xs) (bys : Bytes ys) (hx : a.eval x = .string (str xs)) (hy : a.eval y = .string (str ys))
    (hv : Ψ (.bool (decide (xs = ys))) w) : growAt P o a w Ψ := by
  refine grow_run ?_ hv
  have h3 := str_eq bx bys
  unfold execOp
  rw [h]
  simp only [hx, hy]
  simp [go_sem, h3]
theorem grow_nestr {o : Oper} {x y : Operand} {t t2 : TypeId} {xs ys : List Nat} {Ψ : Post} (h : o.op = .binOp .neq t x y t2) (bx : Bytes xs) (bys : Bytes ys) (hx : a.eval x = .string (str xs)) (hy : a.eval y = .string (str ys))
    (hv : Ψ (.bool (!decide (xs = ys))) w) : growAt P o a w Ψ := by
  refine grow_run ?_ hv
  have h3 := str_eq bx bys
  unfold execOp
  rw [h]
  simp only [hx, hy]
  simp [go_sem, h3]
theorem grow_not {o : Oper} {x : Operand} {t : TypeId} {b : Bool} {Ψ : Post} (h : o.op = .unOp .not t x) (hx : a.eval x = .bool b) (hv : Ψ (.bool !b) w) : growAt P o a w Ψ := by
  refine grow_run ?_ hv
  unfold execOp
  rw [h]
  simp only [hx]
  simp [go_sem]
theorem grow_equ32 {o : Oper} {x y : Operand} {t t2 : TypeId} {m n : Nat} {Ψ : Post} (h : o.op = .binOp .eql t x y t2) (ht : P.underlying t = some (.int .u32)) (hx : a.eval x = .int .u32 (m : Int)) (hy : a.eval y = .int .u32 (n : Int))
    (hv : Ψ (.bool (decide (m = n))) w) : growAt P o a w Ψ := by
  refine grow_run ?_ hv
  have e : ((m : Int) == (n : Int)) = decide (m = n) := by
    by_cases hmn : m = n
    · simp [hmn]
    · simp [hmn]; omega
  unfold execOp
  rw [h]
  simp only [hx, hy]
  simp [go_sem, e]
theorem grow_eqbool {o : Oper} {x y : Operand} {t t2 : TypeId} {b d : Bool} {Ψ : Post} (h : o.op = .binOp .eql t x y t2) (ht : P.underlying t = some .bool) (hx : a.eval x = .bool b) (hy : a.eval y = .bool d)
    (hv : Ψ (.bool (b == d)) w) : growAt P o a w Ψ := by
  refine grow_run ?_ hv
  unfold execOp
  rw [h]
  simp only [hx, hy]
  simp [go_sem, run_eql_bool w t b d ht]
end
end Go.Proofs.Ytoodfngcfdhnfaa
