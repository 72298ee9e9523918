/-
  ValueMay: whatever the two values and the sign, the statement's function returns true, and writes nothing that was there. No conditions.
-/
import Derived.Test.YtlmmpcoakemooaaDoorMayA
import Derived.Test.YtlmmpcoakemooaaDoorMayB
import Derived.Test.YtlmmpcoakemooaaDoorMayD
import Derived.Test.YtlmmpcoakemooaaDoorMayE
namespace Go.Proofs.YtlmmpcoakemooaaDoor.Bx
open Go.RowKit

theorem toList_nil {s : ByteArray} (h : (s.toList == []) = true) : s = E := by
  have h2 : s.toList = [] := by simpa using h
  rw [ByteArray.toList_eq] at h2
  cases s with
  | mk d => simp at h2; subst h2; rfl

/-- How Bin may end, for values that may be. -/
def Ends (S : ByteArray) (t1 n1 : Int) (c1 : ByteArray) (t2 n2 : Int) (c2 : ByteArray) (r : R) : Prop :=
  r = ⟨0, 0, E, 0⟩ ∨
  (r = ⟨0, 0, E, 1⟩ ∧ (S.toList == [47]) = true ∧ t2 = 1 ∧ n2 = 0) ∨
  (r = ⟨0, 0, E, 1⟩ ∧ (S.toList == [47]) = false ∧ (S.toList == [37]) = true ∧ t2 = 1 ∧ n2 = 0) ∨
  (r = ⟨0, 0, E, 6⟩ ∧ (S.toList == [43]) = true ∧ (40 : Int) < (c1.size : Int) + (c2.size : Int)) ∨
  (∃ q s, r = ⟨2, q, s, 0⟩ ∧ mayB 2 q s = true ∧ t2 = t1 ∧ ((S.toList == [60]) = true ∨ ((S.toList == [60]) = false ∧ (S.toList == [60, 61]) = true) ∨ ((S.toList == [60]) = false ∧ (S.toList == [60, 61]) = false ∧ (S.toList == [61, 61]) = true)
    ∨ ((S.toList == [60]) = false ∧ (S.toList == [60, 61]) = false ∧ (S.toList == [61, 61]) = false ∧ (S.toList == [33, 61]) = true))) ∨
  (∃ q s, r = ⟨t1, q, s, 0⟩ ∧ mayB t1 q s = true ∧ t2 = t1 ∧ t1 ≠ 0 ∧ (S.toList == [60]) = false ∧ (S.toList == [60, 61]) = false ∧ (S.toList == [61, 61]) = false ∧ (S.toList == [33, 61]) = false)

theorem may_bool (b : Bool) : mayB 2 (one b) E = true := by
  cases b <;> simp [mayB, one, go_sem]
theorem may_int (n : Int) : mayB 1 n E = true := by
  simp [mayB, go_sem]

theorem ends_all (k : Nat) (hk : k < 13) (t1 n1 : Int) (c1 : ByteArray) (t2 n2 : Int) (c2 : ByteArray) (m1 : mayB t1 n1 c1 = true) (m2 : mayB t2 n2 c2 = true) :
    Ends (signOf k) t1 n1 c1 t2 n2 c2 (binR (signOf k) t1 n1 c1 t2 n2 c2) := by
  by_cases ht : t1 = t2 ∧ 1 ≤ t1 ∧ t1 ≤ 4
  · obtain ⟨rfl, h1, h4⟩ := ht
    rcases (show k = 0 ∨ k = 1 ∨ k = 2 ∨ k = 3 ∨ k = 4 ∨ k = 5 ∨ k = 6 ∨ k = 7 ∨ k = 8 ∨ k = 9 ∨ k = 10 ∨ k = 11 ∨ k = 12 by omega) with rfl | rfl | rfl | rfl | rfl | rfl | rfl | rfl | rfl | rfl | rfl | rfl | rfl
    all_goals
      rcases (show t1 = 1 ∨ t1 = 2 ∨ t1 = 3 ∨ t1 = 4 by omega) with rfl | rfl | rfl | rfl
    all_goals first
      | (refine .inl ?_; simp [binR, numR, orderR, bothR, textR, noR, signOf, go_sem]; done)
      | (refine .inr (.inr (.inr (.inr (.inl ⟨_, _, by simp [binR, numR, orderR, bothR, textR, boolR, noR, signOf, go_sem]; rfl, may_bool _, rfl, ?_⟩)))); simp [signOf, go_sem]; done)
      | (refine .inr (.inr (.inr (.inr (.inr ⟨_, _, by simp [binR, numR, orderR, bothR, textR, boolR, noR, signOf, go_sem]; rfl, may_int _, rfl, by decide, ?_⟩)))); simp [signOf, go_sem]; done)
      | (refine .inr (.inr (.inr (.inr (.inr ⟨_, _, by simp [binR, numR, orderR, bothR, textR, boolR, noR, signOf, go_sem]; rfl, may_bool _, rfl, by decide, ?_⟩)))); simp [signOf, go_sem]; done)
      | skip
    · have hn1 : n1 = 0 := by simp [mayB] at m1; exact m1.1
      by_cases hl : (40 : Int) < (c1.size : Int) + (c2.size : Int)
      · refine .inr (.inr (.inr (.inl ⟨?_, by simp [signOf, go_sem], hl⟩)))
        simp [binR, textR, signOf, go_sem, hl]
      · refine .inr (.inr (.inr (.inr (.inr ⟨0, c1 ++ c2, ?_, ?_, rfl, by decide, ?_⟩))))
        · simp [binR, textR, signOf, go_sem, hl]
        · simp [mayB]
          omega
        · simp [signOf, go_sem]
    · by_cases hb : n2 = 0
      · refine .inr (.inl ⟨?_, by simp [signOf, go_sem], rfl, hb⟩)
        simp [binR, numR, signOf, go_sem, hb]
      · refine .inr (.inr (.inr (.inr (.inr ⟨wrap64 (n1.tdiv n2), E, ?_, may_int _, rfl, by decide, ?_⟩))))
        · simp [binR, numR, signOf, go_sem, hb]
        · simp [signOf, go_sem]
    · by_cases hb : n2 = 0
      · refine .inr (.inr (.inl ⟨?_, by simp [signOf, go_sem], by simp [signOf, go_sem], rfl, hb⟩))
        simp [binR, numR, signOf, go_sem, hb]
      · refine .inr (.inr (.inr (.inr (.inr ⟨n1.tmod n2, E, ?_, may_int _, rfl, by decide, ?_⟩))))
        · simp [binR, numR, signOf, go_sem, hb]
        · simp [signOf, go_sem]
  · refine .inl ?_
    unfold binR
    rw [if_neg ht]
    rfl

theorem may_law (t1 n1 t2 n2 : Int) (s1 s2 : ByteArray) (z : Int) (w : World) (h0 : 0 ≤ z) (h1 : z ≤ 255) :
    Calls Tryd.prog 7 #[V t1 n1 s1, V t2 n2 s2, .int .u8 z] w fun e w' => e = .returned (.bool true) ∧ G w w' := by
  obtain ⟨k, hk, hz⟩ : ∃ k : Nat, k < 13 ∧ z.tmod 13 = k := by
    refine ⟨(z.tmod 13).toNat, ?_, ?_⟩
    · have := Int.tmod_lt_of_pos z (show (0 : Int) < 13 by decide)
      omega
    · have := Int.tmod_nonneg 13 h0
      omega
  obtain ⟨c1, e1⟩ : ∃ c, cut60 s1 = c := ⟨_, rfl⟩
  obtain ⟨c2, e2⟩ : ∃ c, cut60 s2 = c := ⟨_, rfl⟩
  have z1 : c1.size ≤ 60 := e1 ▸ cut60_size s1
  have z2 : c2.size ≤ 60 := e2 ▸ cut60_size s2
  cases m1 : mayB t1 n1 c1 with
  | false => exact may_no1 t1 n1 t2 n2 s1 s2 c1 c2 z k w _ e1 e2 hz h0 h1 hk rfl m1
  | true =>
    cases m2 : mayB t2 n2 c2 with
    | false => exact may_no2 t1 n1 t2 n2 s1 s2 c1 c2 z k w _ e1 e2 hz h0 h1 hk rfl m1 m2
    | true =>
      have key := ends_all k hk t1 n1 c1 t2 n2 c2 m1 m2
      rcases key with hr | ⟨hr, o1, rfl, rfl⟩ | ⟨hr, o1, o2, rfl, rfl⟩ | ⟨hr, o1, hv⟩ | ⟨q, s, hr, m3, rfl, o1 | ⟨o1, o2⟩ | ⟨o1, o2, o3⟩ | ⟨o1, o2, o3, o4⟩⟩ | ⟨q, s, hr, m3, rfl, np, o1, o2, o3, o4⟩
      · exact may_none t1 n1 t2 n2 s1 s2 c1 c2 z k w _ e1 e2 hz h0 h1 hk rfl m1 m2 z1 z2 hr
      · have hc : c2 = E := toList_nil (by simpa [mayB] using m2)
        subst hc
        exact may_slash t1 n1 s1 s2 c1 z k w _ e1 e2 hz h0 h1 hk rfl m1 m2 z1 z2 hr o1
      · have hc : c2 = E := toList_nil (by simpa [mayB] using m2)
        subst hc
        exact may_rem t1 n1 s1 s2 c1 z k w _ e1 e2 hz h0 h1 hk rfl m1 m2 z1 z2 hr o1 o2
      · exact may_long t1 n1 t2 n2 s1 s2 c1 c2 z k w _ e1 e2 hz h0 h1 hk rfl m1 m2 z1 z2 hr o1 hv
      · exact may_good0 _ n1 n2 s1 s2 c1 c2 z k w _ q s e1 e2 hz h0 h1 hk rfl m1 m2 z1 z2 hr m3 o1
      · exact may_good1 _ n1 n2 s1 s2 c1 c2 z k w _ q s e1 e2 hz h0 h1 hk rfl m1 m2 z1 z2 hr m3 o1 o2
      · exact may_good2 _ n1 n2 s1 s2 c1 c2 z k w _ q s e1 e2 hz h0 h1 hk rfl m1 m2 z1 z2 hr m3 o1 o2 o3
      · exact may_good3 _ n1 n2 s1 s2 c1 c2 z k w _ q s e1 e2 hz h0 h1 hk rfl m1 m2 z1 z2 hr m3 o1 o2 o3 o4
      · exact may_good4 _ n1 n2 s1 s2 c1 c2 z k w _ q s e1 e2 hz h0 h1 hk rfl m1 m2 z1 z2 hr m3 o1 o2 o3 o4 np
end Go.Proofs.YtlmmpcoakemooaaDoor.Bx
