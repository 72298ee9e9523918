/-
  ValueTexts: whatever the two values, the statement's function returns true, and writes nothing that was there, where the table of the powers of ten stands as laid. No conditions.
-/
import Derived.Test.YtlmmpcoakemooaaDoorTextsA
import Derived.Test.YtlmmpcoakemooaaDoorTextsB
import Derived.Test.YtlmmpcoakemooaaDoorItoa
namespace Go.Proofs.YtlmmpcoakemooaaDoor.Bx
open Go.RowKit

theorem nil_of {s : ByteArray} (h : (s.toList == []) = true) : s = E := by
  have h2 : s.toList = [] := by simpa using h
  rw [ByteArray.toList_eq] at h2
  cases s with
  | mk d => simp at h2; subst h2; rfl
theorem may_range {t n : Int} {s : ByteArray} (h : mayB t n s = true) : t = 1 ∨ t = 2 ∨ t = 3 ∨ t = 4 := by
  unfold mayB at h
  by_cases h3 : t = 3
  · exact .inr (.inr (.inl h3))
  · by_cases h2 : t = 2
    · exact .inr (.inl h2)
    · by_cases h4 : t = 4
      · exact .inr (.inr (.inr h4))
      · by_cases h1 : t = 1
        · exact .inl h1
        · simp [h1, h2, h3, h4] at h
theorem words_tell {t n1 n2 : Int} {c1 c2 : ByteArray} (m1 : mayB t n1 c1 = true) (m2 : mayB t n2 c2 = true) (n4 : t ≠ 4) :
    ((wordR t n1 c1).toList == (wordR t n2 c2).toList) = sameV t n1 c1 t n2 c2 ∧ ((quotedR t n1 c1).toList == (quotedR t n2 c2).toList) = sameV t n1 c1 t n2 c2 := by
  rcases may_range m1 with rfl | rfl | rfl | rfl
  · have e1 : c1 = E := nil_of (by simpa [mayB] using m1)
    have e2 : c2 = E := nil_of (by simpa [mayB] using m2)
    subst e1 e2
    have k : ((wordR 1 n1 E).toList == (wordR 1 n2 E).toList) = sameV 1 n1 E 1 n2 E := by
      rw [Bool.eq_iff_iff]
      simp only [wordR, if_true, ByteArray.toList_eq, beq_iff_eq, sameV]
      simp [itoa_iff]
    exact ⟨k, by simpa [quotedR] using k⟩
  · have e1 : c1 = E := nil_of (by simp [mayB] at m1; simpa using m1.2)
    have e2 : c2 = E := nil_of (by simp [mayB] at m2; simpa using m2.2)
    subst e1 e2
    have r1 : n1 = 0 ∨ n1 = 1 := by simp [mayB] at m1; omega
    have r2 : n2 = 0 ∨ n2 = 1 := by simp [mayB] at m2; omega
    rcases r1 with rfl | rfl <;> rcases r2 with rfl | rfl <;> simp [quotedR, wordR, boolS, sameV, go_sem]
  · have e1 : n1 = 0 := by simp [mayB] at m1; exact m1.1
    have e2 : n2 = 0 := by simp [mayB] at m2; exact m2.1
    subst e1 e2
    constructor
    · simp [wordR, sameV]
    · rw [Bool.eq_iff_iff]
      simp only [quotedR, if_true, ByteArray.toList_eq, beq_iff_eq, sameV, Joins.data_append]
      simp
  · exact absurd rfl n4

theorem texts_law (t1 n1 t2 n2 : Int) (s1 s2 : ByteArray) (w : World) (b0 : -9223372036854775808 ≤ n1) (b1 : n1 ≤ 9223372036854775807) (b2 : -9223372036854775808 ≤ n2) (b3 : n2 ≤ 9223372036854775807) (ht : Tab w) :
    Calls Tryd.prog 9 #[V t1 n1 s1, V t2 n2 s2] w fun e w' => e = .returned (.bool true) ∧ G w w' := by
  obtain ⟨c1, e1⟩ : ∃ c, cut60 s1 = c := ⟨_, rfl⟩
  obtain ⟨c2, e2⟩ : ∃ c, cut60 s2 = c := ⟨_, rfl⟩
  have z1 : c1.size ≤ 60 := e1 ▸ cut60_size s1
  have z2 : c2.size ≤ 60 := e2 ▸ cut60_size s2
  have hu : ∀ x : Bool, (one x == 1) = x := by intro x; cases x <;> simp [one]
  have hs : ∀ x : Bool, one (!decide (one (!x) = 1)) = one x := by intro x; cases x <;> simp [one]
  have hE : ∀ t : Int, (t = 1 ∨ t = 2 ∨ t = 3 ∨ t = 4) → binR ⟨#[61, 61]⟩ t n1 c1 t n2 c2 = ⟨2, one (sameV t n1 c1 t n2 c2), E, 0⟩ := by
    intro t h
    rcases h with rfl | rfl | rfl | rfl <;> simp [binR, boolR, sameV, go_sem]
  have hN : ∀ t : Int, (t = 1 ∨ t = 2 ∨ t = 3 ∨ t = 4) → binR ⟨#[33, 61]⟩ t n1 c1 t n2 c2 = ⟨2, one (!(sameV t n1 c1 t n2 c2)), E, 0⟩ := by
    intro t h
    rcases h with rfl | rfl | rfl | rfl <;> simp [binR, boolR, sameV, go_sem]
  by_cases hv : (40 : Int) < (c1.size : Int) + (c2.size : Int)
  · have hR : binR ⟨#[43]⟩ 3 0 c1 3 0 c2 = ⟨0, 0, E, 6⟩ := by simp [binR, textR, go_sem, hv]
    cases m1 : mayB t1 n1 c1 with
    | false => exact texts_no1_long t1 n1 t2 n2 s1 s2 c1 c2 w e1 e2 z1 z2 hR hv m1
    | true =>
      cases m2 : mayB t2 n2 c2 with
      | false => exact texts_no2_long t1 n1 t2 n2 s1 s2 c1 c2 w e1 e2 z1 z2 hR hv m1 m2
      | true =>
        by_cases hne : t1 = t2
        · subst hne
          have hr := may_range m1
          by_cases n4 : t1 = 4
          · subst n4
            exact texts_list_long n1 n2 s1 s2 c1 c2 w _ _ _ e1 e2 z1 z2 hR hv m1 m2 (hE 4 hr) (hN 4 hr) (hs _) (hu _) rfl
          · have k := words_tell m1 m2 n4
            exact texts_all_long t1 n1 n2 s1 s2 c1 c2 w _ _ _ e1 e2 z1 z2 hR hv m1 m2 (hE t1 hr) (hN t1 hr) (hs _) (hu _) rfl n4 k.1 k.2 b0 b1 b2 b3 ht
        · exact texts_no3_long t1 n1 t2 n2 s1 s2 c1 c2 w e1 e2 z1 z2 hR hv m1 m2 hne
  · have hR : binR ⟨#[43]⟩ 3 0 c1 3 0 c2 = ⟨3, 0, c1 ++ c2, 0⟩ := by simp [binR, textR, go_sem, hv]
    have hv := Int.not_lt.1 hv
    cases m1 : mayB t1 n1 c1 with
    | false => exact texts_no1_short t1 n1 t2 n2 s1 s2 c1 c2 w e1 e2 z1 z2 hR hv m1
    | true =>
      cases m2 : mayB t2 n2 c2 with
      | false => exact texts_no2_short t1 n1 t2 n2 s1 s2 c1 c2 w e1 e2 z1 z2 hR hv m1 m2
      | true =>
        by_cases hne : t1 = t2
        · subst hne
          have hr := may_range m1
          by_cases n4 : t1 = 4
          · subst n4
            exact texts_list_short n1 n2 s1 s2 c1 c2 w _ _ _ e1 e2 z1 z2 hR hv m1 m2 (hE 4 hr) (hN 4 hr) (hs _) (hu _) rfl
          · have k := words_tell m1 m2 n4
            exact texts_all_short t1 n1 n2 s1 s2 c1 c2 w _ _ _ e1 e2 z1 z2 hR hv m1 m2 (hE t1 hr) (hN t1 hr) (hs _) (hu _) rfl n4 k.1 k.2 b0 b1 b2 b3 ht
        · exact texts_no3_short t1 n1 t2 n2 s1 s2 c1 c2 w e1 e2 z1 z2 hR hv m1 m2 hne
end Go.Proofs.YtlmmpcoakemooaaDoor.Bx
