/-
  Two instructions that may be have the same line just if they are the same. No conditions.
-/
import Derived.Test.YtpeioflembhedaaDoorLineAny
import Derived.Test.YtpeioflembhedaaDoorItoa
namespace Go.Proofs.YtpeioflembhedaaDoor
open Go.RowKit

/-- What stands behind a name. -/
def tailR (o a b : Int) (tx : ByteArray) : List UInt8 :=
  if shapeR o = 0 then [] else if shapeR o = 1 then 32 :: Lib.itoa a else if shapeR o = 3 then 32 :: (Lib.itoa a ++ 32 :: Lib.itoa b) else 32 :: tx.data.toList
theorem line_split (o a b : Int) (tx : ByteArray) : (lineR o a b tx).data.toList = (nameR o).data.toList ++ tailR o a b tx := by
  unfold lineR wordsR tailR itoaS
  rcases shapes4 o with hs | hs | hs | hs <;> simp [hs, Lib.join, List.intercalate, List.intersperse]

/-- Behind a word without a blank stands nothing, or a blank. -/
def Cut (t : List UInt8) : Prop := t = [] ∨ ∃ r, t = 32 :: r
theorem cut_tail (o a b : Int) (tx : ByteArray) : Cut (tailR o a b tx) := by
  unfold tailR
  rcases shapes4 o with hs | hs | hs | hs <;> simp [hs, Cut]
theorem word_eq : ∀ (u v t r : List UInt8), (∀ c ∈ u, c ≠ 32) → (∀ c ∈ v, c ≠ 32) → Cut t → Cut r → u ++ t = v ++ r → u = v ∧ t = r
  | [], [], t, r, _, _, _, _, h => ⟨rfl, by simpa using h⟩
  | [], c :: v, t, r, _, hv, ht, _, h => by
    rcases ht with rfl | ⟨x, rfl⟩
    · simp at h
    · simp at h
      exact absurd h.1.symm (hv c (by simp))
  | c :: u, [], t, r, hu, _, _, hr, h => by
    rcases hr with rfl | ⟨x, rfl⟩
    · simp at h
    · simp at h
      exact absurd h.1 (hu c (by simp))
  | c :: u, d :: v, t, r, hu, hv, ht, hr, h => by
    simp at h
    obtain ⟨e, k⟩ := h
    obtain ⟨e1, e2⟩ := word_eq u v t r (fun x hx => hu x (by simp [hx])) (fun x hx => hv x (by simp [hx])) ht hr k
    exact ⟨by rw [e, e1], e2⟩
theorem itoa_blank (n : Int) : ∀ c ∈ Lib.itoa n, c ≠ 32 := by
  intro c hc h
  subst h
  unfold Lib.itoa at hc
  split at hc
  · rcases List.mem_cons.1 hc with hc | hc
    · simp at hc
    · have := dec_digit _ _ hc
      simp at this
  · have := dec_digit _ _ hc
    simp at this
theorem names_ok : ∀ k, k < 23 → ∀ c ∈ (namesL.getD k E).data.toList, c ≠ 32 := by decide
theorem names_unlike : ∀ k, k < 23 → ∀ j, j < 23 → (namesL.getD k E).data.toList = (namesL.getD j E).data.toList → k = j := by decide
theorem name_in {o : Int} (h1 : 1 ≤ o) (h2 : o ≤ 23) : ∃ k : Nat, k < 23 ∧ o = (k : Int) + 1 ∧ nameR o = namesL.getD k E := by
  refine ⟨(o - 1).toNat, by omega, by omega, ?_⟩
  unfold nameR
  rw [if_pos ⟨h1, h2⟩]
theorem num_no {n : Int} (h : numR false n = true) : n = 0 := by simpa [numR] using h
theorem nil_of {s : ByteArray} (h : (s.toList == []) = true) : s = E := by
  have h2 : s.toList = [] := by simpa using h
  rw [ByteArray.toList_eq] at h2
  cases s with
  | mk d => simp at h2; subst h2; rfl
theorem bytes_eq {x y : ByteArray} (h : x.data.toList = y.data.toList) : x = y := by
  cases x with
  | mk d =>
    cases y with
    | mk e => simp at h; rw [h]

theorem lines_tell {o a b o2 a2 b2 : Int} {s s2 : ByteArray} (m1 : mayR o a b s = true) (m2 : mayR o2 a2 b2 s2 = true) (h : lineR o a b s = lineR o2 a2 b2 s2) : o = o2 ∧ a = a2 ∧ b = b2 ∧ s = s2 := by
  unfold mayR at m1 m2
  simp only [Bool.and_eq_true, decide_eq_true_eq] at m1 m2
  obtain ⟨⟨⟨⟨p1, p2⟩, p3⟩, p4⟩, p5⟩ := m1
  obtain ⟨⟨⟨⟨q1, q2⟩, q3⟩, q4⟩, q5⟩ := m2
  obtain ⟨k, hk, rfl, n1⟩ := name_in p1 p2
  obtain ⟨j, hj, rfl, n2⟩ := name_in q1 q2
  have e := congrArg (fun x => x.data.toList) h
  simp only [line_split, n1, n2] at e
  obtain ⟨e1, e2⟩ := word_eq _ _ _ _ (names_ok k hk) (names_ok j hj) (cut_tail _ _ _ _) (cut_tail _ _ _ _) e
  obtain rfl := names_unlike k hk j hj e1
  refine ⟨rfl, ?_⟩
  unfold tailR at e2
  rcases shapes4 ((k : Int) + 1) with hs | hs | hs | hs
  · have ho2 : ¬ ((k : Int) + 1 = 2) := by intro h; rw [h] at hs; simp [shapeR] at hs
    simp [hasA, hasB, hasS, hs, ho2] at p3 p4 p5 q3 q4 q5
    exact ⟨by rw [num_no p3, num_no q3], by rw [num_no p4, num_no q4], (nil_of (s := s) (by simpa using p5)).trans (nil_of (s := s2) (by simpa using q5)).symm⟩
  · simp [hs] at e2
    simp [hasB, hasS, hs] at p4 p5 q4 q5
    exact ⟨itoa_inj e2, by rw [num_no p4, num_no q4], (nil_of (s := s) (by simpa using p5)).trans (nil_of (s := s2) (by simpa using q5)).symm⟩
  · simp [hs] at e2
    simp [hasS, hs] at p5 q5
    obtain ⟨e3, e4⟩ := word_eq _ _ _ _ (itoa_blank a) (itoa_blank a2) (.inr ⟨_, rfl⟩) (.inr ⟨_, rfl⟩) e2
    simp at e4
    exact ⟨itoa_inj e3, itoa_inj e4, (nil_of (s := s) (by simpa using p5)).trans (nil_of (s := s2) (by simpa using q5)).symm⟩
  · have ho2 : ¬ ((k : Int) + 1 = 2) := by intro h; rw [h] at hs; simp [shapeR] at hs
    simp [hs] at e2
    simp [hasA, hasB, hs, ho2] at p3 p4 q3 q4
    exact ⟨by rw [num_no p3, num_no q3], by rw [num_no p4, num_no q4], bytes_eq (by simpa using e2)⟩
end Go.Proofs.YtpeioflembhedaaDoor
