/-
  Single free operations of a region: moves, lengths, comparisons, addresses, loads. No conditions.
-/
import Derived.Test.YtpeioflembhedaaDoorPutS
namespace Go.Proofs.YtpeioflembhedaaDoor
open Go.RowKit
section
variable {ops : Array Oper} {a : Act} {w : World} {o : Oper}
theorem pure_assign {x : Operand} {c : Value} (hw : Region.wanted o (yielded ops a.tmps) = true) (h : o.op = .assign x) (hv : a.eval x = c) : pureAt Tryd.prog ops o a w c :=
  pure_run hw (by unfold execOp; rw [h]; subst hv; rfl)
theorem pure_pick {c x y : Operand} {b : Bool} {v : Value} (hw : Region.wanted o (yielded ops a.tmps) = true) (h : o.op = .pick c x y) (hc : a.eval c = .bool b) (hv : (if b then a.eval x else a.eval y) = v) : pureAt Tryd.prog ops o a w v :=
  pure_run hw (by unfold execOp; rw [h]; simp only [hc]; subst hv; rfl)
theorem pure_skip (hw : Region.wanted o (yielded ops a.tmps) = false) : pureAt Tryd.prog ops o a w undef := .inr ⟨hw, rfl⟩
theorem pure_len {T : TypeId} {x : Operand} {p : Option Addr} {n c : Nat} (hT : T = 34 ∨ T = 25 ∨ T = 26) (hw : Region.wanted o (yielded ops a.tmps) = true) (h : o.op = .call { callee := .builtin .len, args := #[x], argTypes := #[T] }) (hx : a.eval x = .slice p n c) : pureAt Tryd.prog ops o a w (.int .i64 n) := by
  refine pure_run hw ?_
  unfold execOp
  rw [h]
  simp only [resolve, invoke, builtin, List.map_toArray, List.map_cons, List.map_nil, hx]
  rcases hT with rfl | rfl | rfl
  · simp [go_sem, Tryd.underlying34]
  · simp [go_sem, Tryd.underlying25]
  · simp [go_sem, Tryd.underlying26]
theorem pure_eqint {x y : Operand} {m n : Int} (hw : Region.wanted o (yielded ops a.tmps) = true) (h : o.op = .binOp .eql 3 x y 3) (hx : a.eval x = .int .i64 m) (hy : a.eval y = .int .i64 n) : pureAt Tryd.prog ops o a w (.bool (decide (m = n))) := by
  refine pure_run hw ?_
  unfold execOp
  rw [h]
  simp only [hx, hy]
  by_cases e : m = n <;> simp [go_sem, Tryd.underlying3, e]
theorem pure_neint {x y : Operand} {m n : Int} (hw : Region.wanted o (yielded ops a.tmps) = true) (h : o.op = .binOp .neq 3 x y 3) (hx : a.eval x = .int .i64 m) (hy : a.eval y = .int .i64 n) : pureAt Tryd.prog ops o a w (.bool (!decide (m = n))) := by
  refine pure_run hw ?_
  unfold execOp
  rw [h]
  simp only [hx, hy]
  by_cases e : m = n <;> simp [go_sem, Tryd.underlying3, e]
theorem pure_lsint {x y : Operand} {m n : Int} (hw : Region.wanted o (yielded ops a.tmps) = true) (h : o.op = .binOp .lss 3 x y 3) (hx : a.eval x = .int .i64 m) (hy : a.eval y = .int .i64 n) : pureAt Tryd.prog ops o a w (.bool (decide (m < n))) := by
  refine pure_run hw ?_
  unfold execOp
  rw [h]
  simp only [hx, hy]
  by_cases e : m < n <;> simp [go_sem, Tryd.underlying3, e]
theorem pure_gtint {x y : Operand} {m n : Int} (hw : Region.wanted o (yielded ops a.tmps) = true) (h : o.op = .binOp .gtr 3 x y 3) (hx : a.eval x = .int .i64 m) (hy : a.eval y = .int .i64 n) : pureAt Tryd.prog ops o a w (.bool (decide (n < m))) := by
  refine pure_run hw ?_
  unfold execOp
  rw [h]
  simp only [hx, hy]
  by_cases e : n < m <;> simp [go_sem, Tryd.underlying3, e]
theorem pure_index0 {x : Operand} {b n c : Nat} (hw : Region.wanted o (yielded ops a.tmps) = true) (h : o.op = .indexAddr 34 x (.const (.int .i64 0))) (hx : a.eval x = .slice (some ⟨b, 0, none⟩) n c) (hn : 0 < n) : pureAt Tryd.prog ops o a w (.pointer (some ⟨b, 0, none⟩)) := by
  refine pure_run hw ?_
  unfold execOp
  rw [h]
  have e0 : a.eval (.const (.int .i64 0)) = .int .i64 0 := rfl
  simp only [hx, e0]
  have e : (0 : Int) < (n : Int) := by omega
  simp [go_sem, Tryd.underlying34, Tryd.underlying5, Tryd.sizeOf5, e, hn]
theorem pure_load5 {x : Operand} {b k : Nat} {c : Int} (hw : Region.wanted o (yielded ops a.tmps) = true) (h : o.op = .load 5 x) (hx : a.eval x = .pointer (some ⟨b, k, none⟩)) (hc : w.cell? ⟨b, k, none⟩ = some (.int .u8 c)) : pureAt Tryd.prog ops o a w (.int .u8 c) := by
  refine pure_run hw ?_
  unfold execOp
  rw [h]
  simp only [hx]
  simp [go_sem, hc]
theorem pure_load3 {x : Operand} {b k : Nat} {c : Int} (hw : Region.wanted o (yielded ops a.tmps) = true) (h : o.op = .load 3 x) (hx : a.eval x = .pointer (some ⟨b, k, none⟩)) (hc : w.cell? ⟨b, k, none⟩ = some (.int .i64 c)) : pureAt Tryd.prog ops o a w (.int .i64 c) := by
  refine pure_run hw ?_
  unfold execOp
  rw [h]
  simp only [hx]
  simp [go_sem, hc]
theorem pure_int {x : Operand} {c : Int} (hw : Region.wanted o (yielded ops a.tmps) = true) (h : o.op = .convert 5 3 x) (hx : a.eval x = .int .u8 c) (h0 : 0 ≤ c) (h1 : c ≤ 255) : pureAt Tryd.prog ops o a w (.int .i64 c) := by
  refine pure_run hw ?_
  unfold execOp
  rw [h]
  simp only [hx]
  have e : IntKind.i64.wrap c = c := by
    simp [IntKind.wrap, IntKind.bits, IntKind.signed]
    omega
  simp [go_sem, Tryd.underlying3, Tryd.underlying5, e]
theorem pure_addr28 {x : Operand} {k b : Nat} (hw : Region.wanted o (yielded ops a.tmps) = true) (h : o.op = .fieldAddr 28 x k) (hk : k < 2) (hx : a.eval x = .pointer (some ⟨b, 0, none⟩)) : pureAt Tryd.prog ops o a w (.pointer (some ⟨b, k, none⟩)) := by
  refine pure_run hw ?_
  unfold execOp
  rw [h]
  simp only [hx]
  rcases (show k = 0 ∨ k = 1 by omega) with rfl | rfl <;> simp [go_sem]
theorem pure_load26 {x : Operand} {b k : Nat} {v : Value} (hw : Region.wanted o (yielded ops a.tmps) = true) (h : o.op = .load 26 x) (hx : a.eval x = .pointer (some ⟨b, k, none⟩)) (hc : w.cell? ⟨b, k, none⟩ = some v) : pureAt Tryd.prog ops o a w v := by
  refine pure_run hw ?_
  unfold execOp
  rw [h]
  simp only [hx]
  simp [go_sem, hc]
theorem pure_load25 {x : Operand} {b k : Nat} {v : Value} (hw : Region.wanted o (yielded ops a.tmps) = true) (h : o.op = .load 25 x) (hx : a.eval x = .pointer (some ⟨b, k, none⟩)) (hc : w.cell? ⟨b, k, none⟩ = some v) : pureAt Tryd.prog ops o a w v := by
  refine pure_run hw ?_
  unfold execOp
  rw [h]
  simp only [hx]
  simp [go_sem, hc]
end
end Go.Proofs.YtpeioflembhedaaDoor
