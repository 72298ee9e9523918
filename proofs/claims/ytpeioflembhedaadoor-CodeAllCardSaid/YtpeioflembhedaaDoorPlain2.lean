/-
  Plain laws: code that is cut is too short; bytes that are code are those that it is laid down as. No conditions.
-/
import Derived.Test.YtpeioflembhedaaDoorPlain
namespace Go.Proofs.YtpeioflembhedaaDoor
open Go.RowKit

theorem two_ne : (2 : Int) ≠ 0 := by decide
theorem trip {A B : Type} {r : A × B × Int} (h : r.2.2 = 2) : ∃ v l', r = (v, l', 2) := ⟨r.1, r.2.1, by rw [← h]⟩
theorem take_len {l : List UInt8} {n : Nat} (h : n < l.length) : (l.take n).length = n := by
  rw [List.length_take]
  omega
theorem ents_cut : ∀ (es : List Int) (at' : Nat), at' < 8 * es.length → (∀ n ∈ es, EntOk n) → (entsT es.length (((es.map eightR).flatten).take at') 0).2.2 = 2
  | [], at', h, _ => by simp at h
  | n :: es, at', h, he => by
    have hn := he n (by simp)
    have hl := eight_len n
    simp only [List.length_cons, List.map_cons, List.flatten_cons]
    by_cases h8 : at' < 8
    · have e1 : (eightR n ++ (es.map eightR).flatten).take at' = (eightR n).take at' := List.take_append_of_le_length (by omega)
      have hlen : ((eightR n).take at').length = at' := take_len (by omega)
      rw [e1]
      simp only [entsT, if_true, numb_short _ (show ((eightR n).take at').length < 8 by omega), entsT_bad _ _ _ two_ne]
    · have e1 : (eightR n ++ (es.map eightR).flatten).take at' = eightR n ++ ((es.map eightR).flatten).take (at' - 8) := by
        rw [List.take_append, hl, List.take_of_length_le (by omega)]
      have ih := ents_cut es (at' - 8) (by simp at h; omega) fun m hm => he m (by simp [hm])
      rw [e1]
      simp only [entsT, if_true, numb_good n _ hn.1 hn.2, ih]
theorem nots {o : Int} (hA : hasA o = true) : hasS o = false := by
  rcases shapes4 o with e | e | e | e <;> simp [hasA, hasS, e] at hA ⊢
theorem notb {o : Int} (hA : hasA o = false) : hasB o = false := by
  rcases shapes4 o with e | e | e | e <;> simp [hasA, hasB, e] at hA ⊢
theorem ins_cut (x : I) (hm : mayI x = true) (hx : InsOk x) (at' : Nat) (h : at' < (insR x).length) : (insT ((insR x).take at') 0).2.2 = 2 := by
  obtain ⟨⟨m1, m2⟩, fa, fb, fs, hs⟩ := may_facts hm
  obtain ⟨o, a, b, s⟩ := x
  simp only at m1 m2 fa fb fs hs
  have hin : (decide (1 ≤ o) && decide (o ≤ 23)) = true := by simp [m1, m2]
  have hz : hasA 0 = false ∧ hasB 0 = false ∧ hasS 0 = false := by decide
  cases at' with
  | zero =>
    unfold insT
    simp only [List.take_zero, show oneR [] 0 = (0, [], 2) from rfl, hz.1, hz.2.1, hz.2.2, Bool.false_eq_true, if_false, ask_bad two_ne]
  | succ k =>
    have hla := eight_len a
    have hlb := eight_len b
    unfold insR at h ⊢
    simp only [List.append_assoc, List.cons_append, List.nil_append, List.take_succ_cons, List.length_cons] at h ⊢
    unfold insT
    simp only [one_good, op_byte o m1 m2, hin, ask_true]
    cases hA : hasA o with
    | true =>
      have hS := nots hA
      rw [hA, hS] at h
      simp only [hS, if_true, Bool.false_eq_true, if_false, List.append_nil] at h ⊢
      by_cases h8 : k < 8
      · have e1 : (eightR a ++ (if hasB o = true then eightR b else [])).take k = (eightR a).take k := List.take_append_of_le_length (by omega)
        have hlen : ((eightR a).take k).length = k := take_len (by omega)
        rw [e1, numb_short _ (show ((eightR a).take k).length < 8 by omega)]
        cases hB : hasB o with
        | true => simp only [if_true, numb_bad _ _ two_ne, ask_bad two_ne]
        | false => simp only [Bool.false_eq_true, if_false, ask_bad two_ne]
      · have e1 : (eightR a ++ (if hasB o = true then eightR b else [])).take k = eightR a ++ (if hasB o = true then eightR b else []).take (k - 8) := by
          rw [List.take_append, hla, List.take_of_length_le (by omega)]
        rw [e1, numb_good a _ hx.a.1 hx.a.2]
        cases hB : hasB o with
        | true =>
          rw [hB] at h
          simp only [if_true, List.length_append, hla, hlb] at h ⊢
          have hlen : ((eightR b).take (k - 8)).length = k - 8 := take_len (by omega)
          rw [numb_short _ (show ((eightR b).take (k - 8)).length < 8 by omega)]
          simp only [ask_bad two_ne]
        | false =>
          rw [hB] at h
          simp only [Bool.false_eq_true, if_false, List.append_nil, hla] at h
          omega
    | false =>
      have hB := notb hA
      rw [hA, hB] at h
      simp only [hB, Bool.false_eq_true, if_false, List.nil_append] at h ⊢
      cases hS : hasS o with
      | false =>
        rw [hS] at h
        simp at h
      | true =>
        rw [hS] at h
        simp only [if_true, List.length_cons] at h ⊢
        have hsz : s.data.toList.length = s.size := by simp
        cases k with
        | zero =>
          simp only [List.take_zero, show oneR [] 0 = (0, [], 2) from rfl, ask_bad two_ne, text_bad _ _ _ two_ne]
        | succ j =>
          have hb : ((UInt8.ofNat (s.size % 256)).toNat : Int) = s.size := by rw [ofNat_toNat' _ (by omega)]; omega
          have h40 : decide ((s.size : Int) ≤ 40) = true := by simp; omega
          have hlen : (s.data.toList.take j).length = j := take_len (by omega)
          simp only [List.take_succ_cons, one_good, hb, h40, ask_true, Int.toNat_natCast, text_short s.size _ (show (s.data.toList.take j).length < s.size by omega), ask_bad two_ne]
theorem inss_cut : ∀ (xs : List I) (at' : Nat), at' < ((xs.map insR).flatten).length → (∀ x ∈ xs, mayI x = true ∧ InsOk x) → (inssT xs.length (((xs.map insR).flatten).take at') 0).2.2 = 2
  | [], at', h, _ => by simp at h
  | x :: xs, at', h, he => by
    have hx := he x (by simp)
    simp only [List.length_cons, List.map_cons, List.flatten_cons, List.length_append] at h ⊢
    by_cases h8 : at' < (insR x).length
    · have e1 : (insR x ++ (xs.map insR).flatten).take at' = (insR x).take at' := List.take_append_of_le_length (by omega)
      obtain ⟨v, l', hc⟩ := trip (ins_cut x hx.1 hx.2 at' h8)
      rw [e1]
      simp only [inssT, if_true, hc, inssT_bad _ _ _ two_ne]
    · have e1 : (insR x ++ (xs.map insR).flatten).take at' = insR x ++ ((xs.map insR).flatten).take (at' - (insR x).length) := by
        rw [List.take_append, List.take_of_length_le (by omega)]
      have ih := inss_cut xs (at' - (insR x).length) (by omega) fun m hm => he m (by simp [hm])
      rw [e1]
      simp only [inssT, if_true, ins_good x _ hx.1 hx.2, ih]
/-- Code that was laid down and cut is too short. -/
theorem take_cut (es : List Int) (xs : List I) (at' : Nat) (h : putE es xs = 0) (hx : ∀ x ∈ xs, InsOk x) (he : ∀ n ∈ es, EntOk n) (ha : at' < (codeR es xs).length) : (takeR ((codeR es xs).take at')).2 = 2 := by
  obtain ⟨k1, k2, k3, k4⟩ := put_facts h
  have hb : ((UInt8.ofNat (es.length % 256)).toNat : Int) = es.length := by rw [ofNat_toNat' _ (by omega)]; omega
  have h6 : decide ((es.length : Int) ≤ 6) = true := by simp; omega
  cases at' with
  | zero =>
    unfold takeR
    simp only [List.take_zero, show oneR [] 0 = (0, [], 2) from rfl, ask_bad two_ne, entsT_bad _ _ _ two_ne, numb_bad _ _ two_ne, inssT_bad _ _ _ two_ne, if_neg two_ne]
  | succ k =>
    have hle := eights_len es
    have hl8 := eight_len xs.length
    unfold codeR at ha ⊢
    simp only [List.append_assoc, List.cons_append, List.nil_append, List.take_succ_cons, List.length_cons, List.length_append] at ha ⊢
    unfold takeR
    simp only [one_good, hb, h6, ask_true, Int.toNat_natCast]
    by_cases c1 : k < 8 * es.length
    · have e1 : ((es.map eightR).flatten ++ (eightR xs.length ++ (xs.map insR).flatten)).take k = ((es.map eightR).flatten).take k := List.take_append_of_le_length (by omega)
      obtain ⟨v, l', hc⟩ := trip (ents_cut es k c1 he)
      rw [e1]
      simp only [hc, numb_bad _ _ two_ne, ask_bad two_ne, inssT_bad _ _ _ two_ne, if_neg two_ne]
    · have e1 : ((es.map eightR).flatten ++ (eightR xs.length ++ (xs.map insR).flatten)).take k = (es.map eightR).flatten ++ (eightR xs.length ++ (xs.map insR).flatten).take (k - 8 * es.length) := by
        rw [List.take_append, hle, List.take_of_length_le (by omega)]
      rw [e1]
      simp only [ents_good es _ he]
      by_cases c2 : k - 8 * es.length < 8
      · have e2 : (eightR xs.length ++ (xs.map insR).flatten).take (k - 8 * es.length) = (eightR xs.length).take (k - 8 * es.length) := List.take_append_of_le_length (by omega)
        have hlen : ((eightR xs.length).take (k - 8 * es.length)).length = k - 8 * es.length := take_len (by omega)
        rw [e2, numb_short _ (show ((eightR xs.length).take (k - 8 * es.length)).length < 8 by omega)]
        simp only [ask_bad two_ne, inssT_bad _ _ _ two_ne, if_neg two_ne]
      · have e2 : (eightR xs.length ++ (xs.map insR).flatten).take (k - 8 * es.length) = eightR xs.length ++ ((xs.map insR).flatten).take (k - 8 * es.length - 8) := by
          rw [List.take_append, hl8, List.take_of_length_le (by omega)]
        have hin : (decide (0 ≤ (xs.length : Int)) && decide ((xs.length : Int) ≤ 1200) && !es.any (entOver xs.length)) = true := by
          have e : es.any (entOver xs.length) = false := k3
          rw [e]
          simp
          omega
        obtain ⟨v, l', hc⟩ := trip (inss_cut xs (k - 8 * es.length - 8) (by omega) fun x hx' => ⟨k4 x hx', hx x hx'⟩)
        rw [e2]
        simp only [numb_good (xs.length : Int) _ (by omega) (by omega), hin, ask_true, Int.toNat_natCast, hc, ask_bad two_ne, if_neg two_ne]
end Go.Proofs.YtpeioflembhedaaDoor
