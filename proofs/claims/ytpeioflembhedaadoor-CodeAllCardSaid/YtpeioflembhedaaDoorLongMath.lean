/-
  How many bytes an instruction takes, told by its line. No conditions but that it may be.
-/
import Derived.Test.YtpeioflembhedaaDoorLines
import Derived.Test.YtpeioflembhedaaDoorPut
namespace Go.Proofs.YtpeioflembhedaaDoor
open Go.RowKit

def blanks (l : List UInt8) : Nat := l.count 32
theorem blanks_snoc (s : ByteArray) (j : Nat) (h : j < s.size) : blanks (s.data.toList.take (j + 1)) = blanks (s.data.toList.take j) + if s[j] = 32 then 1 else 0 := by
  unfold blanks
  have e : s.data.toList.take (j + 1) = s.data.toList.take j ++ [s[j]] := by
    rw [List.take_succ_eq_append_getElem (by simpa using h)]; rfl
  rw [e, List.count_append]
  by_cases hc : s[j] = 32 <;> simp [hc, List.count_cons]
theorem blanks_no {l : List UInt8} (h : ∀ c ∈ l, c ≠ 32) : blanks l = 0 := by
  unfold blanks
  rw [List.count_eq_zero]
  intro hc
  exact h 32 hc rfl
theorem name_blank (o : Int) : ∀ c ∈ (nameR o).data.toList, c ≠ 32 := by
  by_cases h : 1 ≤ o ∧ o ≤ 23
  · obtain ⟨k, hk, _, e⟩ := name_in h.1 h.2
    rw [e]
    exact names_ok k hk
  · unfold nameR
    rw [if_neg h]
    intro c hc
    cases hc
theorem shape4 (o : Int) : shapeR o = 4 ↔ (o = 4 ∨ o = 7) := by
  unfold shapeR
  constructor
  · intro h
    split at h
    · cases h
    · split at h
      · cases h
      · split at h
        · assumption
        · cases h
  · rintro (rfl | rfl) <;> simp
theorem ins_len_text (x : I) (h : x.1 = 4 ∨ x.1 = 7) : (insR x).length = 2 + x.2.2.2.size := by
  have hs := (shape4 x.1).2 h
  simp [insR, hasA, hasB, hasS, hs]
  omega
theorem ins_len (x : I) (h : ¬ (x.1 = 4 ∨ x.1 = 7)) : (insR x).length = 1 + 8 * blanks (lineR x.1 x.2.1 x.2.2.1 x.2.2.2).data.toList := by
  have hs : shapeR x.1 ≠ 4 := fun e => h ((shape4 x.1).1 e)
  rw [line_split]
  have hb := blanks_no (name_blank x.1)
  have ha := blanks_no (itoa_blank x.2.1)
  have hc := blanks_no (itoa_blank x.2.2.1)
  unfold blanks at *
  rw [List.count_append, hb]
  unfold tailR
  rcases shapes4 x.1 with e | e | e | e
  · simp [insR, hasA, hasB, hasS, e]
  · simp [insR, hasA, hasB, hasS, e, ha, eight_len]
  · simp [insR, hasA, hasB, hasS, e, ha, hc, eight_len, List.count_append]
  · exact absurd e hs
theorem line_size (o a b : Int) (tx : ByteArray) (a0 : -9223372036854775808 ≤ a) (a1 : a ≤ 9223372036854775807) (c0 : -9223372036854775808 ≤ b) (c1 : b ≤ 9223372036854775807) (hx : tx.size ≤ 60) : (lineR o a b tx).size ≤ 200 := by
  have l1 := name_len o
  have l2 := Lib.itoa_length_le a a0 a1
  have l3 := Lib.itoa_length_le b c0 c1
  have e := congrArg List.length (line_split o a b tx)
  have e0 : (lineR o a b tx).data.toList.length = (lineR o a b tx).size := by simp
  rw [List.length_append, e0] at e
  have : (tailR o a b tx).length ≤ 100 := by
    unfold tailR
    rcases shapes4 o with h | h | h | h <;> simp [h] <;> omega
  omega
theorem add_off (g j : Nat) : (⟨g, 0, none⟩ : Addr).add j = ⟨g, j, none⟩ := by
  unfold Addr.add
  by_cases h : j = 0 <;> simp [h]
/-- A row of the call's own reads as the instructions that it holds. -/
theorem rows_own {w : World} {B n c g : Nat} {ys : List I} (h : w.ownsRow B 23 4 (.slice (some ⟨g, 0, none⟩) n c) n (flatI ys)) : Row w (some ⟨g, 0, none⟩) ys := by
  intro k x hx
  refine ⟨g, 0, rfl, ?_⟩
  have hc := @World.ownsRow.cells _ _ _ _ _ _ _ h g rfl
  obtain ⟨h0, h1, h2, h3⟩ := flatI_get ys k x hx
  have a0 := hc _ _ h0
  have a1 := hc _ _ h1
  have a2 := hc _ _ h2
  have a3 := hc _ _ h3
  rw [add_off] at a0 a1 a2 a3
  rw [show 0 + k * 4 = k * 4 by omega]
  exact ⟨a0, a1, a2, a3⟩
/-- A row of the call's own, as a slice. -/
theorem own_slice {w : World} {B : Nat} {v : Value} {ys : List I} (h : w.ownsRow B 23 4 v ys.length (flatI ys)) : ∃ p c, v = .slice p ys.length c ∧ Row w p ys ∧ ys.length ≤ c ∧ ∀ a, p = some a → B ≤ a.block := by
  rcases own_form h with ⟨rfl, hn⟩ | ⟨g, c, rfl, hb, hg, hc⟩
  · refine ⟨none, 0, by rw [hn], ?_, by omega, fun a h => by cases h⟩
    intro k x hx
    have : ys = [] := List.eq_nil_of_length_eq_zero hn
    rw [this] at hx
    cases hx
  · exact ⟨some ⟨g, 0, none⟩, c, rfl, rows_own h, hc, fun a h => by cases h; exact hb⟩
theorem turn_cell {X : Nat → Prop} {w w' : World} {a : Addr} {v : Value} (h : w.cell? a = some v) (hg : Turn X w w') (hx : ¬ X a.block) : w'.cell? a = some v :=
  (World.cell?_of_block (hg.block a.block (World.block_lt_of_cell? w a h) hx)).trans h
theorem Row.turn {X : Nat → Prop} {w w' : World} {p : Option Addr} {ys : List I} (h : Row w p ys) (hg : Turn X w w') (hx : ∀ a, p = some a → ¬ X a.block) : Row w' p ys := by
  intro k y hy
  obtain ⟨bk, off, rfl, c0, c1, c2, c3⟩ := h k y hy
  have hn : ¬ X bk := hx _ rfl
  exact ⟨bk, off, rfl, turn_cell c0 hg hn, turn_cell c1 hg hn, turn_cell c2 hg hn, turn_cell c3 hg hn⟩
end Go.Proofs.YtpeioflembhedaaDoor
