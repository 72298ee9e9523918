/-
  A plain law: bytes that are code are those that it is laid down as. No conditions.
-/
import Derived.Test.YtpeioflembhedaaDoorPlain2
namespace Go.Proofs.YtpeioflembhedaaDoor
open Go.RowKit

theorem one_inv {l l' : List UInt8} {e v : Int} (h : oneR l e = (v, l', 0)) : e = 0 ∧ ∃ b, l = b :: l' ∧ v = (b.toNat : Int) := by
  by_cases he : e = 0
  · subst he
    cases l with
    | nil => simp [oneR] at h
    | cons b r =>
      rw [one_good] at h
      simp only [Prod.mk.injEq] at h
      exact ⟨rfl, b, by rw [h.2.1], h.1.symm⟩
  · rw [one_bad _ _ he] at h
    simp only [Prod.mk.injEq] at h
    exact absurd h.2.2 he
theorem numb_inv {l l' : List UInt8} {e v : Int} (h : numbR l e = (v, l', 0)) : e = 0 ∧ l = eightR v ++ l' ∧ EntOk v := by
  have hb := numb_bd l e
  by_cases he : e = 0
  · subst he
    by_cases h8 : l.length < 8
    · rw [numb_short _ h8] at h
      simp at h
    · rw [h] at hb
      unfold numbR at h
      rw [if_pos rfl, if_pos (by omega)] at h
      simp only [Prod.mk.injEq] at h
      obtain ⟨h1, h2, _⟩ := h
      refine ⟨rfl, ?_, hb⟩
      rw [← h1, eight_big _ (by rw [List.length_take]; omega), ← h2, List.take_append_drop]
  · rw [numb_bad _ _ he] at h
    simp only [Prod.mk.injEq] at h
    exact absurd h.2.2 he
theorem text_inv {n : Nat} {l l' : List UInt8} {e : Int} {s : ByteArray} (h : textR n l e = (s, l', 0)) : e = 0 ∧ l = s.data.toList ++ l' ∧ s.size = n := by
  unfold textR at h
  split at h
  · rename_i h1
    obtain ⟨h2, rfl⟩ := ask_zero two_ne h1
    have hn : n ≤ l.length := by simpa using h2
    simp only [Prod.mk.injEq] at h
    obtain ⟨rfl, rfl, _⟩ := h
    refine ⟨rfl, by simp, ?_⟩
    simp [ByteArray.size]
    omega
  · rename_i h1
    simp only [Prod.mk.injEq] at h
    exact absurd h.2.2 h1
theorem three_ne : (3 : Int) ≠ 0 := by decide
theorem ins_inv {l l' : List UInt8} {e : Int} {x : I} (h : insT l e = (x, l', 0)) : e = 0 ∧ mayI x = true ∧ InsOk x ∧ l = insR x ++ l' := by
  unfold insT at h
  rcases h0 : oneR l e with ⟨o, l1, e1⟩
  have hob := one_bd l e
  rw [h0] at h hob
  simp only at h hob
  rcases hA : (if hasA o then numbR l1 (askR (decide (1 ≤ o) && decide (o ≤ 23)) 3 e1) else (0, l1, askR (decide (1 ≤ o) && decide (o ≤ 23)) 3 e1)) with ⟨a, l2, e2⟩
  rw [hA] at h
  simp only at h
  rcases hB : (if hasB o then numbR l2 e2 else (0, l2, e2)) with ⟨b, l3, e3⟩
  rw [hB] at h
  simp only at h
  rcases hN : (if hasS o then oneR l3 e3 else (0, l3, e3)) with ⟨n, l4, e4⟩
  rw [hN] at h
  simp only at h
  rcases hS : (if hasS o then textR n.toNat l4 (askR (decide (n ≤ 40)) 3 e4) else (E, l4, e4)) with ⟨s, l5, e5⟩
  rw [hS] at h
  simp only [Prod.mk.injEq] at h
  obtain ⟨rfl, rfl, h5⟩ := h
  obtain ⟨hm, rfl⟩ := ask_zero three_ne h5
  -- the text
  have tS : e4 = 0 ∧ l4 = (if hasS o then s.data.toList else []) ++ l5 ∧ s.size ≤ 255 ∧ (hasS o = true → (s.size : Int) = n ∨ (n < 0 ∧ s.size = 0)) ∧ (hasS o = false → s = E) := by
    cases hs : hasS o with
    | true =>
      rw [hs, if_pos rfl] at hS
      obtain ⟨he, hl, hsz⟩ := text_inv hS
      obtain ⟨h40, rfl⟩ := ask_zero three_ne he
      have : n ≤ 40 := by simpa using h40
      refine ⟨rfl, by simpa using hl, by omega, (fun _ => by omega), (fun h => by cases h)⟩
    | false =>
      rw [hs, if_neg (by decide)] at hS
      simp only [Prod.mk.injEq] at hS
      obtain ⟨rfl, rfl, rfl⟩ := hS
      exact ⟨rfl, by simp, by decide, (fun h => by cases h), fun _ => rfl⟩
  obtain ⟨rfl, hl4, hsz, hsn, hsE⟩ := tS
  have tN : e3 = 0 ∧ l3 = (if hasS o then UInt8.ofNat (s.size % 256) :: s.data.toList else []) ++ l5 := by
    cases hs : hasS o with
    | true =>
      rw [hs, if_pos rfl] at hN
      rw [hs, if_pos rfl] at hl4
      obtain ⟨rfl, c, hl, hc⟩ := one_inv hN
      refine ⟨rfl, ?_⟩
      have hsz2 : s.size = c.toNat := by
        rcases hsn hs with h | h
        · omega
        · omega
      rw [hl, hl4, if_pos rfl, hsz2, Nat.mod_eq_of_lt c.toNat_lt]
      simp
    | false =>
      rw [hs, if_neg (by decide)] at hN hl4
      simp only [Prod.mk.injEq] at hN
      obtain ⟨_, rfl, rfl⟩ := hN
      exact ⟨rfl, by simpa using hl4⟩
  obtain ⟨rfl, hl3⟩ := tN
  have tB : e2 = 0 ∧ l2 = (if hasB o then eightR b else []) ++ l3 ∧ EntOk b := by
    cases hs : hasB o with
    | true =>
      rw [hs, if_pos rfl] at hB
      obtain ⟨rfl, hl, hbd⟩ := numb_inv hB
      exact ⟨rfl, by simpa using hl, hbd⟩
    | false =>
      rw [hs, if_neg (by decide)] at hB
      simp only [Prod.mk.injEq] at hB
      obtain ⟨rfl, rfl, rfl⟩ := hB
      exact ⟨rfl, by simp, by decide, by decide⟩
  obtain ⟨rfl, hl2, hbb⟩ := tB
  have tA : askR (decide (1 ≤ o) && decide (o ≤ 23)) 3 e1 = 0 ∧ l1 = (if hasA o then eightR a else []) ++ l2 ∧ EntOk a := by
    cases hs : hasA o with
    | true =>
      rw [hs, if_pos rfl] at hA
      obtain ⟨h1, hl, hbd⟩ := numb_inv hA
      exact ⟨h1, by simpa using hl, hbd⟩
    | false =>
      rw [hs, if_neg (by decide)] at hA
      simp only [Prod.mk.injEq] at hA
      obtain ⟨rfl, rfl, h1⟩ := hA
      exact ⟨h1, by simp, by decide, by decide⟩
  obtain ⟨h1, hl1, haa⟩ := tA
  obtain ⟨hin, rfl⟩ := ask_zero three_ne h1
  obtain ⟨rfl, c, hl, hc⟩ := one_inv h0
  refine ⟨rfl, hm, ⟨⟨by omega, by omega⟩, haa, hbb, by show s.size ≤ 1000; omega⟩, ?_⟩
  have hop : UInt8.ofNat (o % 256).toNat = c := by
    have hclt := c.toNat_lt
    refine u8_ext ?_
    rw [ofNat_toNat' _ (by omega), hc]
    omega
  rw [hl, hl1, hl2, hl3]
  unfold insR
  simp only [hop]
  cases hasA o <;> cases hasB o <;> cases hasS o <;> simp
theorem ents_inv : ∀ (n : Nat) {l l' : List UInt8} {e : Int} {es : List Int}, entsT n l e = (es, l', 0) → e = 0 ∧ es.length = n ∧ (∀ m ∈ es, EntOk m) ∧ l = (es.map eightR).flatten ++ l'
  | 0, l, l', e, es, h => by
    simp only [entsT, Prod.mk.injEq] at h
    obtain ⟨rfl, rfl, rfl⟩ := h
    exact ⟨rfl, rfl, (fun m hm => by cases hm), by simp⟩
  | n + 1, l, l', e, es, h => by
    by_cases he : e = 0
    · subst he
      simp only [entsT, if_true] at h
      rcases h1 : numbR l 0 with ⟨v, l1, e1⟩
      rw [h1] at h
      simp only at h
      rcases h2 : entsT n l1 e1 with ⟨fs, l2, e2⟩
      rw [h2] at h
      simp only [Prod.mk.injEq] at h
      obtain ⟨rfl, rfl, rfl⟩ := h
      obtain ⟨rfl, hn, hok, hl⟩ := ents_inv n h2
      obtain ⟨_, hl1, hv⟩ := numb_inv h1
      refine ⟨rfl, by simp [hn], fun m hm => ?_, by rw [hl1, hl]; simp⟩
      rcases List.mem_cons.1 hm with rfl | hm
      · exact hv
      · exact hok m hm
    · rw [entsT_bad _ _ _ he] at h
      simp only [Prod.mk.injEq] at h
      exact absurd h.2.2 he
theorem inss_inv : ∀ (n : Nat) {l l' : List UInt8} {e : Int} {xs : List I}, inssT n l e = (xs, l', 0) → e = 0 ∧ xs.length = n ∧ (∀ x ∈ xs, mayI x = true ∧ InsOk x) ∧ l = (xs.map insR).flatten ++ l'
  | 0, l, l', e, xs, h => by
    simp only [inssT, Prod.mk.injEq] at h
    obtain ⟨rfl, rfl, rfl⟩ := h
    exact ⟨rfl, rfl, (fun m hm => by cases hm), by simp⟩
  | n + 1, l, l', e, xs, h => by
    by_cases he : e = 0
    · subst he
      simp only [inssT, if_true] at h
      rcases h1 : insT l 0 with ⟨v, l1, e1⟩
      rw [h1] at h
      simp only at h
      rcases h2 : inssT n l1 e1 with ⟨fs, l2, e2⟩
      rw [h2] at h
      simp only [Prod.mk.injEq] at h
      obtain ⟨rfl, rfl, rfl⟩ := h
      obtain ⟨rfl, hn, hok, hl⟩ := inss_inv n h2
      obtain ⟨_, hm, hv, hl1⟩ := ins_inv h1
      refine ⟨rfl, by simp [hn], fun m hmm => ?_, by rw [hl1, hl]; simp⟩
      rcases List.mem_cons.1 hmm with rfl | hmm
      · exact ⟨hm, hv⟩
      · exact hok m hmm
    · rw [inssT_bad _ _ _ he] at h
      simp only [Prod.mk.injEq] at h
      exact absurd h.2.2 he
/-- Bytes that are code are those that it is laid down as. -/
theorem take_inv {l : List UInt8} (h : (takeR l).2 = 0) : putE (takeR l).1.1 (takeR l).1.2 = 0 ∧ codeR (takeR l).1.1 (takeR l).1.2 = l ∧ (∀ x ∈ (takeR l).1.2, InsOk x) ∧ ∀ n ∈ (takeR l).1.1, EntOk n := by
  have hb := one_bd l 0
  rcases h0 : oneR l 0 with ⟨m, l1, e1⟩
  rw [h0] at hb
  simp only at hb
  rcases h1 : entsT m.toNat l1 (askR (decide (m ≤ 6)) 3 e1) with ⟨es, l2, e2⟩
  rcases h2 : numbR l2 e2 with ⟨k, l3, e3⟩
  rcases h3 : inssT k.toNat l3 (askR (decide (0 ≤ k) && decide (k ≤ 1200) && !es.any (entOver k)) 3 e3) with ⟨xs, l4, e4⟩
  have e : takeR l = if askR (decide (l4.length = 0)) 3 e4 = 0 then ((es, xs), 0) else (([], []), askR (decide (l4.length = 0)) 3 e4) := by
    unfold takeR
    simp only [h0, h1, h2, h3]
  rw [e] at h ⊢
  by_cases hz : askR (decide (l4.length = 0)) 3 e4 = 0
  · rw [if_pos hz]
    simp only
    obtain ⟨hl4, rfl⟩ := ask_zero three_ne hz
    have hl4 : l4 = [] := List.eq_nil_of_length_eq_zero (by simpa using hl4)
    subst hl4
    obtain ⟨h3e, hxl, hxs, hl3⟩ := inss_inv _ h3
    obtain ⟨hok, rfl⟩ := ask_zero three_ne h3e
    obtain ⟨rfl, hl2, hk⟩ := numb_inv h2
    obtain ⟨h1e, hel, hes, hl1⟩ := ents_inv _ h1
    obtain ⟨h6, rfl⟩ := ask_zero three_ne h1e
    obtain ⟨_, c, hl, hc⟩ := one_inv h0
    simp only [Bool.and_eq_true, decide_eq_true_eq, Bool.not_eq_true'] at hok h6
    obtain ⟨⟨hk0, hk1⟩, hov⟩ := hok
    have hkx : (xs.length : Int) = k := by omega
    have hem : (es.length : Int) = m := by omega
    have hov2 : es.any (entBad xs.length) = false := by
      have e : entBad xs.length = entOver k := by
        funext n
        unfold entBad entOver
        rw [hkx]
      rw [e]
      exact hov
    have hmay : (xs.any fun x => !mayI x) = false := by
      rw [List.any_eq_false]
      intro x hx
      simp [(hxs x hx).1]
    refine ⟨?_, ?_, fun x hx => (hxs x hx).2, hes⟩
    · unfold putE
      rw [if_neg (by omega), hov2, hmay]
      rfl
    · unfold codeR
      have hcb : UInt8.ofNat (es.length % 256) = c := by
        have := c.toNat_lt
        refine u8_ext ?_
        rw [ofNat_toNat' _ (by omega)]
        omega
      rw [hl, hl1, hl2, hl3, hcb, hkx]
      simp
  · rw [if_neg hz] at h
    exact absurd h hz
theorem take_bad {l : List UInt8} (h : (takeR l).2 ≠ 0) : (takeR l).1 = ([], []) := by
  unfold takeR at h ⊢
  simp only at h ⊢
  split
  · rename_i hz
    rw [if_pos hz] at h
    exact absurd rfl h
  · rfl
end Go.Proofs.YtpeioflembhedaaDoor
