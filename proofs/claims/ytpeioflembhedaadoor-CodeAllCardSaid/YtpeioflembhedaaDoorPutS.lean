/-
  Put's region for a text: its length's byte and its bytes behind the row. No conditions.
-/
import Derived.Test.YtpeioflembhedaaDoorPutN
import Derived.Lib.AppendStr
namespace Go.Proofs.YtpeioflembhedaaDoor
open Go.RowKit

section
variable {ops : Array Oper} {a : Act} {w : World}
theorem eff_build_byte {o : Oper} {x : Operand} {c : Int} {Φ : Post} (h : o.op = .buildSlice 34 1 #[(0, x)]) (hx : a.eval x = .int .u8 c) (hv : Φ (.slice (some ⟨w.heap.size, 0, none⟩) 1 1) (w.alloc (.cells #[.int .u8 c] 5))) : effAt Tryd.prog o a w Φ := by
  refine eff_run (v := .slice (some ⟨w.heap.size, 0, none⟩) 1 1) (w' := w.alloc (.cells #[.int .u8 c] 5)) ?_ hv
  have e1 : (#[(0, x)] : Array (Nat × Operand)).map (fun (i, y) => (i, a.eval y)) = #[(0, .int .u8 c)] := by simp [hx]
  unfold execOp
  rw [h]
  simp only [e1]
  simp [go_sem]
theorem eff_append_str {o : Oper} (sl x : Operand) (ho : o.op = .call { callee := .builtin .append, args := #[sl, x], argTypes := #[34, 9] })
    (base : Nat) (i : TypeInfo) (hi : Tryd.prog.info? 5 = some i) (hz : i.zero = some (.int .u8 0)) (hsize : i.size = 1) (hby : i.bytes = 1)
    (v : Value) (n : Nat) (xs : List Value) (hs : a.eval sl = v) (hown : w.ownsRow base 5 1 v n xs) (s : ByteArray) (hx : a.eval x = .string s)
    (h63 : n + s.size ≤ maxLen) (hbytes : n + s.size ≤ 140737488355328) (hbase : base ≤ w.heap.size) {Φ : Post}
    (h : ∀ v' w', w'.ownsRow base 5 1 v' (n + s.size) (xs ++ bys s.data.toList) → w.grownBy w' v.ownBlock → Φ v' w') : effAt Tryd.prog o a w Φ := by
  intro K Q hK
  obtain ⟨v', w', hr, h2, h3, _⟩ := Lib.run_append_own_string (P := Tryd.prog) w base 34 9 o.type 5 i Tryd.underlying34 Tryd.underlying9 hi hz hsize hby v n xs hown s h63 hbytes hbase
  unfold Oper.wp execOp
  simp only [ho, resolve, invoke, builtin, Sem.run_bind, Sem.run_pure, Result.andThen_ok, List.map_toArray, List.map_cons, List.map_nil, hs, hx, hr]
  exact hK _ _ (h v' w' h2 h3)
theorem pure_addr {o : Oper} {x : Operand} {k b : Nat} (hw : Region.wanted o (yielded ops a.tmps) = true) (h : o.op = .fieldAddr 23 x k) (hk : k < 4) (hx : a.eval x = .pointer (some ⟨b, 0, none⟩)) : pureAt Tryd.prog ops o a w (.pointer (some ⟨b, k, none⟩)) := by
  refine pure_run hw ?_
  unfold execOp
  rw [h]
  simp only [hx]
  rcases (show k = 0 ∨ k = 1 ∨ k = 2 ∨ k = 3 by omega) with rfl | rfl | rfl | rfl <;> simp [go_sem]
theorem pure_load9 {o : Oper} {x : Operand} {b : Nat} {t n u : Int} {s : ByteArray} (hw : Region.wanted o (yielded ops a.tmps) = true) (h : o.op = .load 9 x) (ha : At w b 0 t n u s) (hx : a.eval x = .pointer (some ⟨b, 3, none⟩)) : pureAt Tryd.prog ops o a w (.string s) := by
  refine pure_run hw ?_
  obtain ⟨l, c0, c1, c2, c3, f⟩ := ha
  simp at c1 c2 c3
  unfold execOp
  rw [h]
  simp only [hx]
  simp [go_sem, c0, c1, c2, c3]
theorem pure_len9 {o : Oper} {x : Operand} {s : ByteArray} (hw : Region.wanted o (yielded ops a.tmps) = true) (h : o.op = .call { callee := .builtin .len, args := #[x], argTypes := #[9] }) (hx : a.eval x = .string s) : pureAt Tryd.prog ops o a w (.int .i64 s.size) := by
  refine pure_run hw ?_
  unfold execOp
  rw [h]
  simp only [resolve, invoke, builtin, List.map_toArray, List.map_cons, List.map_nil, hx]
  simp [go_sem, Tryd.underlying9]
theorem pure_byte {o : Oper} {x : Operand} {c : Int} (hw : Region.wanted o (yielded ops a.tmps) = true) (h : o.op = .convert 3 5 x) (hx : a.eval x = .int .i64 c) (h0 : 0 ≤ c) (h1 : c ≤ 255) : pureAt Tryd.prog ops o a w (.int .u8 c) := by
  refine pure_run hw ?_
  unfold execOp
  rw [h]
  simp only [hx]
  have e : IntKind.u8.wrap c = c := by
    simp [IntKind.wrap, IntKind.bits, IntKind.signed]
    omega
  simp [go_sem, Tryd.underlying3, Tryd.underlying5, e]
end
end Go.Proofs.YtpeioflembhedaaDoor
