/-
  The laws of the single integer operations that a burst needs, and the plain law of one turned bit. No conditions.
-/
import Derived.Test.YtoodfngcfdhnfaaSay2
namespace Go.Proofs.Ytoodfngcfdhnfaa
open Go.RowKit Go.Proofs.Ytoodfngcfdhnfaa.Crc
variable {a : Act} {w : World} {o : Oper} {x y : Operand} {t2 : TypeId} {m n : Nat} {Ψ : Post}

theorem grow_addi (h : o.op = .binOp .add 3 x y t2) (hx : a.eval x = .int .i64 (m : Int)) (hy : a.eval y = .int .i64 (n : Int)) (hb : m + n ≤ 4611686018427387904) (hv : Ψ (.int .i64 ((m + n : Nat) : Int)) w) : growAt Try.prog o a w Ψ := by
  refine grow_run ?_ hv
  have e : IntKind.i64.wrap ((m : Int) + (n : Int)) = (m : Int) + (n : Int) := IntWalk.i64_in _ (by omega)
  unfold execOp
  rw [h]
  simp only [hx, hy]
  simp [go_sem, e]
theorem grow_quo8 (h : o.op = .binOp .quo 3 x (.const (.int .i64 8)) t2) (hx : a.eval x = .int .i64 (m : Int)) (hb : m ≤ 4611686018427387904) (hv : Ψ (.int .i64 ((m / 8 : Nat) : Int)) w) : growAt Try.prog o a w Ψ := by
  refine grow_run ?_ hv
  unfold execOp
  rw [h]
  simp only [hx, show a.eval (.const (.int .i64 8)) = .int .i64 8 from rfl]
  simp [go_sem]
  exact IntWalk.i64_in _ (by omega)
theorem grow_rem8 (h : o.op = .binOp .rem 3 x (.const (.int .i64 8)) t2) (hx : a.eval x = .int .i64 (m : Int)) (hb : m ≤ 4611686018427387904) (hv : Ψ (.int .i64 ((m % 8 : Nat) : Int)) w) : growAt Try.prog o a w Ψ := by
  refine grow_run ?_ hv
  have e0 : (m : Int).tmod 8 = ((m % 8 : Nat) : Int) := by rw [Int.tmod_eq_emod_of_nonneg (by omega)]; omega
  unfold execOp
  rw [h]
  simp only [hx, show a.eval (.const (.int .i64 8)) = .int .i64 8 from rfl]
  simp [go_sem, e0]
theorem grow_shl1 (h : o.op = .binOp .shl 5 (.const (.int .u8 1)) y t2) (hy : a.eval y = .int .i64 (n : Int)) (hb : n < 8) (hv : Ψ (.int .u8 ((2 ^ n : Nat) : Int)) w) : growAt Try.prog o a w Ψ := by
  refine grow_run ?_ hv
  unfold execOp
  rw [h]
  simp only [hy, show a.eval (.const (.int .u8 1)) = .int .u8 1 from rfl]
  rcases (show n = 0 ∨ n = 1 ∨ n = 2 ∨ n = 3 ∨ n = 4 ∨ n = 5 ∨ n = 6 ∨ n = 7 by omega) with rfl | rfl | rfl | rfl | rfl | rfl | rfl | rfl <;> simp [go_sem] <;> rfl

theorem two_xor (k x y : Nat) : 2 ^ k * (x ^^^ y) = 2 ^ k * x ^^^ 2 ^ k * y := by
  apply Nat.eq_of_testBit_eq
  intro j
  rw [Nat.testBit_xor, Nat.testBit_two_pow_mul, Nat.testBit_two_pow_mul, Nat.testBit_two_pow_mul, Nat.testBit_xor]
  by_cases hj : k ≤ j <;> simp [hj]
theorem flip_val {xs p : List Nat} {K i W : Nat} (hb : Bytes xs) (hm : K + i < 8 * xs.length) (hv : val xs = val p ^^^ 2 ^ K * W) :
    val (xs.set ((K + i) / 8) (xs.getD ((K + i) / 8) 0 ^^^ 2 ^ ((K + i) % 8))) = val p ^^^ 2 ^ K * (W ^^^ 2 ^ i) := by
  rw [val_flip xs _ hm hb, hv, two_xor, ← Nat.pow_add, Nat.xor_assoc]
theorem flip_bytes {xs : List Nat} {j k : Nat} (hb : Bytes xs) (hk : k < 8) : Bytes (xs.set j (xs.getD j 0 ^^^ 2 ^ k)) := by
  intro b h
  rcases List.mem_or_eq_of_mem_set h with h1 | h1
  · exact hb b h1
  · rw [h1]
    refine Nat.xor_lt_two_pow (n := 8) ?_ (Nat.pow_lt_pow_right (a := 2) (by decide) hk)
    by_cases hj : j < xs.length
    · rw [List.getD_eq_getElem?_getD, List.getElem?_eq_getElem hj]; exact hb _ (List.getElem_mem hj)
    · simp [List.getD, hj]
/-- What is taken of a row that is a check's with a burst: nothing, if a bit was turned. -/
theorem burst_seen {b xs : List Nat} {K W : Nat} (hb : Bytes b) (hx : Bytes xs) (hl : xs.length = b.length + 4) (hW : W < 4294967296) (hK : K ≤ 8 * (b.length + 4)) (hv : val xs = val (put b) ^^^ 2 ^ K * W) (hne : ¬ xs = put b) : okB xs = false := by
  cases h : okB xs with
  | false => rfl
  | true =>
    exfalso
    have h1 := h
    unfold okB at h1
    simp only [Bool.and_eq_true, decide_eq_true_eq] at h1
    have hm : xs = put (xs.take (xs.length - 4)) := by
      unfold put
      rw [h1.2, List.take_append_drop]
    have hW0 := burst (m := xs.take (xs.length - 4)) hb (bytes_take hx _) hW (by rw [List.length_take]; omega) hK (by rw [← hm]; exact hv)
    rw [hW0] at hv
    exact hne (val_inj _ _ (by rw [put_length]; exact hl) hx (put_bytes hb) (by simpa using hv))
end Go.Proofs.Ytoodfngcfdhnfaa
