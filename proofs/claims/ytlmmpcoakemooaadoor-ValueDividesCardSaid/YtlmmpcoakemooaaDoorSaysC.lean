/-
  More single operations' laws: unequal, less. No conditions.
-/
import Derived.Test.YtlmmpcoakemooaaDoorSaysB
namespace Go.Proofs.YtlmmpcoakemooaaDoor.Bx
open Go.RowKit
variable {a : Act} {w : World}
theorem grow_neint {o : Oper} {x y : Operand} {m n : Int} {Ψ : Post} (h : o.op = .binOp .neq 3 x y 3) (hx : a.eval x = .int .i64 m) (hy : a.eval y = .int .i64 n) (hv : Ψ (.bool (m != n)) w) : growAt Tryd.prog o a w Ψ := by
  refine grow_run ?_ hv
  unfold execOp
  rw [h]
  simp only [hx, hy]
  simp [go_sem, Tryd.underlying3]
theorem grow_neV {o : Oper} {x y : Operand} {t n t2 n2 : Int} {s s2 : ByteArray} {Ψ : Post} (h : o.op = .binOp .neq 24 x y 24) (hx : a.eval x = V t n s) (hy : a.eval y = V t2 n2 s2) (hv : Ψ (.bool (!sameV t n s t2 n2 s2)) w) : growAt Tryd.prog o a w Ψ := by
  refine grow_run ?_ hv
  unfold execOp
  rw [h]
  simp only [hx, hy, V]
  by_cases h1 : t = t2 <;> by_cases h2 : n = n2 <;> by_cases h3 : s.toList = s2.toList <;> simp [go_sem, h1, h2, h3, sameV]
theorem grow_lt {o : Oper} {x y : Operand} {m n : Int} {Ψ : Post} (h : o.op = .binOp .lss 3 x y 3) (hx : a.eval x = .int .i64 m) (hy : a.eval y = .int .i64 n) (hv : Ψ (.bool (decide (m < n))) w) : growAt Tryd.prog o a w Ψ := by
  refine grow_run ?_ hv
  unfold execOp
  rw [h]
  simp only [hx, hy]
  simp [go_sem, Tryd.underlying3]
end Go.Proofs.YtlmmpcoakemooaaDoor.Bx
