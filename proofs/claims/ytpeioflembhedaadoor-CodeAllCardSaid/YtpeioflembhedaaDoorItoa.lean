/-
  A number's decimal numeral tells the number, and is the word of no other. No conditions.
-/
import Derived.Lib.ItoaNum
namespace Go.Proofs.YtpeioflembhedaaDoor
open Go.Lib

/-- What a row of digits is worth. -/
def worth (l : List UInt8) : Nat := l.foldl (fun n c => n * 10 + (c.toNat - 48)) 0
theorem worth_more (l : List UInt8) (c : UInt8) : worth (l ++ [c]) = worth l * 10 + (c.toNat - 48) := by simp [worth, List.foldl_append]
theorem digit_nat {d : Nat} (h : d < 10) : (UInt8.ofNat (48 + d)).toNat = 48 + d := by
  simp
  omega
theorem worth_dec (u : Nat) : worth (decDigits u) = u := by
  induction u using Nat.strongRecOn with
  | _ u ih =>
    by_cases h : u < 10
    · rw [decDigits, dif_pos h]
      have h2 := worth_more [] (UInt8.ofNat (48 + u))
      rw [List.nil_append] at h2
      rw [h2, digit_nat h]
      simp [worth]
    · rw [decDigits, dif_neg h, worth_more, ih (u / 10) (by omega), digit_nat (Nat.mod_lt _ (by decide))]
      omega
theorem dec_digit (u : Nat) : ∀ c ∈ decDigits u, 48 ≤ c.toNat ∧ c.toNat ≤ 57 := by
  induction u using Nat.strongRecOn with
  | _ u ih =>
    intro c hc
    by_cases h : u < 10
    · rw [decDigits, dif_pos h] at hc
      simp only [List.mem_singleton] at hc
      subst hc
      rw [digit_nat h]
      omega
    · rw [decDigits, dif_neg h] at hc
      rcases List.mem_append.1 hc with hc | hc
      · exact ih (u / 10) (by omega) c hc
      · simp only [List.mem_singleton] at hc
        subst hc
        rw [digit_nat (Nat.mod_lt _ (by decide))]
        have := Nat.mod_lt u (show 0 < 10 by decide)
        omega
theorem dec_inj {u v : Nat} (h : decDigits u = decDigits v) : u = v := by rw [← worth_dec u, h, worth_dec]
theorem dec_no_minus (u : Nat) (l : List UInt8) : decDigits u ≠ 45 :: l := by
  intro h
  have := dec_digit u 45 (by rw [h]; exact List.mem_cons_self)
  simp at this
theorem itoa_inj {a b : Int} (h : itoa a = itoa b) : a = b := by
  unfold itoa at h
  split at h <;> split at h
  · have := dec_inj (List.cons.inj h).2
    omega
  · exact absurd h.symm (dec_no_minus _ _)
  · exact absurd h (dec_no_minus _ _)
  · have := dec_inj h
    omega
theorem itoa_iff (a b : Int) : (itoa a = itoa b) ↔ a = b := ⟨itoa_inj, fun h => by rw [h]⟩
/-- As strings. -/
theorem itoaS_iff (a b : Int) : ((⟨(itoa a).toArray⟩ : ByteArray) = ⟨(itoa b).toArray⟩) ↔ a = b := by
  rw [← itoa_iff]
  constructor
  · intro h
    have h2 := congrArg (fun x => x.data.toList) h
    simpa using h2
  · intro h
    rw [h]
end Go.Proofs.YtpeioflembhedaaDoor
