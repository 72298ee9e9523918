/-
  What ValueMay calls, as it calls it. No conditions.
-/
import Derived.Test.YtlmmpcoakemooaaDoorShown
import Derived.Test.YtlmmpcoakemooaaDoorMay
import Derived.Test.YtlmmpcoakemooaaDoorSigns
import Derived.Test.YtlmmpcoakemooaaDoorSaysB
namespace Go.Proofs.YtlmmpcoakemooaaDoor
open Go.RowKit

theorem short_to {s c : ByteArray} (h : cut60 s = c) (t n : Int) (w : World) : Calls Tryd.prog 15 #[V t n s] w fun e w' => e = .returned (V t n c) ∧ G w w' := by
  subst h
  exact short_any t n s w
theorem may_to {t n : Int} {s : ByteArray} {b : Bool} (h : mayB t n s = b) (w : World) : Calls Tryd.prog 17 #[V t n s] w fun e w' => e = .returned (.bool b) ∧ G w w' := by
  subst h
  exact may_any t n s w
theorem bin_to {g : ByteArray} {t1 n1 t2 n2 : Int} {s1 s2 : ByteArray} {p q e : Int} {s : ByteArray} (h : binR g t1 n1 s1 t2 n2 s2 = ⟨p, q, s, e⟩) (ha : s1.size ≤ 60) (hb : s2.size ≤ 60) (w : World) :
    Calls Tryd.prog 12 #[.string g, V t1 n1 s1, V t2 n2 s2] w fun x w' => x = .returned (.tuple #[V p q s, .int .i64 e]) ∧ G w w' := by
  have k := bin_any g t1 n1 s1 t2 n2 s2 w ha hb
  rw [h] at k
  exact k
namespace Bx
theorem wanted_un {ops : Array Oper} {a : Act} {o : Oper} {t : Tmp} {j : Nat} {b : Bool} (hg : o.guard = some (j, b)) (hj : (ops[j]?).bind (·.dst) = some t) (h : a.eval (.tmp t) = undef) :
    Region.wanted o (yielded ops a.tmps) = false := by
  have hy : yielded ops a.tmps j = none := by
    unfold yielded
    rw [hj]
    simp only [Act.eval, Array.getD_eq_getD_getElem?] at h
    cases ht : a.tmps[t]? with
    | none => simp [ht]
    | some v =>
      rw [ht] at h
      simp at h
      subst h
      simp [ht, undef]
  unfold Region.wanted
  rw [hg]
  simp only [hy]
  rfl
end Bx
end Go.Proofs.YtlmmpcoakemooaaDoor
