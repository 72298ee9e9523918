/-
  Division as Go has it, modulo 2^64: plain laws. No conditions; no program is named here.
-/
import Derived.RowKit
namespace Go.Proofs.YtlmmpcoakemooaaDoor.Dv
open Go.RowKit

theorem wrap64_mod (n : Int) : ∃ k : Int, wrap64 n = n + 18446744073709551616 * k := ⟨-((n + 9223372036854775808) / 18446744073709551616), by unfold wrap64; omega⟩
theorem wrap64_add (n k : Int) : wrap64 (n + 18446744073709551616 * k) = wrap64 n := by
  unfold wrap64
  omega
theorem wrap64_sum_l (a b : Int) : wrap64 (wrap64 a + b) = wrap64 (a + b) := by
  obtain ⟨k, h⟩ := wrap64_mod a
  rw [h, show a + 18446744073709551616 * k + b = (a + b) + 18446744073709551616 * k by omega, wrap64_add]
theorem wrap64_mul_l (a b : Int) : wrap64 (wrap64 a * b) = wrap64 (a * b) := by
  obtain ⟨k, h⟩ := wrap64_mod a
  rw [h, Int.add_mul, show 18446744073709551616 * k * b = 18446744073709551616 * (k * b) by rw [Int.mul_assoc], wrap64_add]
theorem wrap64_id {a : Int} (h : -9223372036854775808 ≤ a ∧ a ≤ 9223372036854775807) : wrap64 a = a := by unfold wrap64; omega

theorem back {a : Int} (b : Int) (h : -9223372036854775808 ≤ a ∧ a ≤ 9223372036854775807) : wrap64 (wrap64 (a + b) - b) = a := by
  rw [Int.sub_eq_add_neg, wrap64_sum_l, show a + b + -b = a by omega, wrap64_id h]
theorem none (a : Int) : wrap64 (a - a) = 0 := by rw [Int.sub_self]; unfold wrap64; omega
theorem neg (a : Int) : wrap64 (a + wrap64 (-a)) = 0 := by
  rw [Int.add_comm, wrap64_sum_l, show -a + a = 0 by omega]; unfold wrap64; omega
theorem whole {a : Int} (b : Int) (h : -9223372036854775808 ≤ a ∧ a ≤ 9223372036854775807) : wrap64 (wrap64 (wrap64 (a.tdiv b) * b) + a.tmod b) = a := by
  rw [wrap64_sum_l]
  obtain ⟨k, hk⟩ := wrap64_mod (a.tdiv b)
  rw [hk, Int.add_mul, show a.tdiv b * b + 18446744073709551616 * k * b + a.tmod b = (b * a.tdiv b + a.tmod b) + 18446744073709551616 * (k * b) by
    rw [Int.mul_assoc, Int.mul_comm b]; omega, wrap64_add, Int.mul_tdiv_add_tmod, wrap64_id h]
theorem rest (a b : Int) : a.tmod b = 0 ∨ (a.tmod b < 0 ↔ a < 0) := by
  rcases Int.lt_or_le a 0 with h | h
  · have h1 : 0 ≤ (-a).tmod b := Int.tmod_nonneg b (by omega)
    rw [Int.neg_tmod] at h1
    omega
  · have h1 : 0 ≤ a.tmod b := Int.tmod_nonneg b h
    omega
end Go.Proofs.YtlmmpcoakemooaaDoor.Dv
