/-
  A region that draws its order, as in Grow; but one operation may come behind the one that stores. No conditions; no program is named here.
-/
import Derived.Test.YtlmmpcoakemooaaDoorGrow
import Derived.Tactics
namespace Go.Proofs.YtlmmpcoakemooaaDoor
open Go.RowKit
section
variable {P : Program} {ops : Array Oper} {Q : Exit → Act → World → Prop}

/-- As 'growB', but one operation of the first m, number k, may come behind number m. -/
def growC (ops : Array Oper) (m k n : Nat) : Bool :=
  ((List.range ops.size).all fun i => match ops[i]? with
    | none => true
    | some o =>
      (o.after.all fun e => !Region.binds .any e || e.on < i) &&
      (!(i < m) || (match o.dst with
        | none => false
        | some d => d < n && writer ops m d == some i)) &&
      (!(i < m) || ((o.looksAt ops).all fun t => match writer ops m t with
        | none => true
        | some j => waits ops i j))) &&
  (decide (m + 1 < ops.size) && decide (k < m) && waits ops (m + 1) k && ((List.range m).all fun j => j == k || (List.range (m + 1)).any fun p => j < p && p != k && waits ops p j) &&
    ((List.range ops.size).all fun j => !(m < j) || waits ops j (j - 1)))

theorem growC_spec {m k n : Nat} (h : growC ops m k n = true) :
    (∀ i o, ops[i]? = some o → (∀ e ∈ o.after, Region.binds .any e = true → e.on < i) ∧ (i < m → ∃ d, o.dst = some d ∧ d < n ∧ writer ops m d = some i) ∧
      (i < m → ∀ d, o.dst = some d → d < n ∧ writer ops m d = some i) ∧
      (i < m → ∀ t ∈ o.looksAt ops, ∀ j, writer ops m t = some j → ∃ e ∈ o.after, Region.binds .any e = true ∧ e.on = j)) ∧
    (m + 1 < ops.size ∧ k < m ∧ ∃ o, ops[m + 1]? = some o ∧ ∃ e ∈ o.after, Region.binds .any e = true ∧ e.on = k) ∧ (∀ j, j < m → j ≠ k → ∃ p o, p ≤ m ∧ p ≠ k ∧ ops[p]? = some o ∧ j < p ∧ ∃ e ∈ o.after, Region.binds .any e = true ∧ e.on = j) ∧
    (∀ j, m < j → j < ops.size → ∃ o, ops[j]? = some o ∧ ∃ e ∈ o.after, Region.binds .any e = true ∧ e.on = j - 1) := by
  simp only [growC, Bool.and_eq_true, Bool.or_eq_true, beq_iff_eq, List.all_eq_true, List.mem_range, decide_eq_true_eq] at h
  obtain ⟨h1, ⟨⟨⟨hm, hk⟩, hw⟩, h2⟩, h3⟩ := h
  refine ⟨fun i o ho => ?_, ⟨hm, hk, waits_spec hw⟩, fun j hj hne => ?_, fun j hj hjs => ?_⟩
  · have hi : i < ops.size := (Array.getElem?_eq_some_iff.1 ho).1
    have h3 := h1 i hi
    simp only [ho, Bool.and_eq_true, Bool.or_eq_true, Array.all_eq_true_iff_forall_mem, List.all_eq_true] at h3
    obtain ⟨⟨h4, h5⟩, h6⟩ := h3
    refine ⟨fun e he hb => ?_, fun him => ?_, fun him d hd => ?_, fun him t ht j hj => ?_⟩
    · have := h4 e he
      simp [hb] at this
      exact this
    · cases hd : o.dst with
      | none => simp [hd, him] at h5
      | some d => simp [hd, him] at h5; exact ⟨d, rfl, h5.1, h5.2⟩
    · simp [hd, him] at h5; exact h5
    · have h7 := (h6.resolve_left (by simp [him])) t ht
      simp only [hj] at h7
      obtain ⟨o', ho', r⟩ := waits_spec h7
      rw [ho] at ho'
      cases ho'
      exact r
  · rcases h2 j hj with h4 | h4
    · exact absurd h4 hne
    · simp only [List.any_eq_true, List.mem_range, Bool.and_eq_true, decide_eq_true_eq, bne_iff_ne] at h4
      obtain ⟨p, hp, ⟨hjp, hpk⟩, hw⟩ := h4
      obtain ⟨o, ho, r⟩ := waits_spec hw
      exact ⟨p, o, by omega, hpk, ho, hjp, r⟩
  · have h4 := h3 j hjs
    simp only [Bool.not_eq_true', decide_eq_false_iff_not] at h4
    rcases h4 with h4 | h4
    · exact absurd hj h4
    · exact waits_spec h4

theorem ready_nilC {listed : Array Bool} {m k0 n : Nat} (hB : growC ops m k0 n = true) (hl : listed.size = ops.size) (h : Region.ready .any ops listed = []) : ∀ i, i < ops.size → listed.getD i false = true := by
  obtain ⟨h1, _⟩ := growC_spec hB
  intro i
  induction i using Nat.strongRecOn with
  | _ i ih =>
    intro hi
    cases hg : listed.getD i false with
    | true => rfl
    | false =>
      exfalso
      have ho : ops[i]? = some ops[i] := Array.getElem?_eq_getElem hi
      have hr : i ∈ Region.ready .any ops listed := by
        rw [mem_ready]
        refine ⟨?_, ops[i], ho, fun e he hb => ?_⟩
        · have : listed[i]? = some (listed[i]'(by omega)) := Array.getElem?_eq_getElem (by omega)
          simp [this] at hg ⊢
          exact hg
        · have h2 := (h1 i _ ho).1 e he hb
          exact ih e.on h2 (by omega)
      rw [h] at hr
      cases hr

theorem GrowInv.putC {Φ : Nat → Post} {a0 a : Act} {w0 w w' : World} {listed : Array Bool} {m k0 n : Nat} {i d : Nat} {o : Oper} {v : Value} (hB : growC ops m k0 n = true) (hn : a0.tmps.size = n)
    (mono : ∀ i v w w', G w w' → Φ i v w → Φ i v w') (h : GrowInv ops m Φ a0 w0 listed a w) (him : i < m) (ho : ops[i]? = some o) (hd : o.dst = some d) (hr : i ∈ Region.ready .any ops listed)
    (hg : G w w') (hv : Φ i v w') : GrowInv ops m Φ a0 w0 (listed.setIfInBounds i true) (a.put o.dst v) w' := by
  obtain ⟨h1, _⟩ := growC_spec hB
  obtain ⟨_, _, hwr, _⟩ := h1 i o ho
  obtain ⟨hdn, hw⟩ := hwr him d hd
  obtain ⟨hun, o', ho', hall⟩ := mem_ready.1 hr
  rw [ho] at ho'
  cases ho'
  have hi : i < listed.size := by rw [h.lsize]; exact (Array.getElem?_eq_some_iff.1 ho).1
  rw [hd]
  refine ⟨h.grew.trans hg, h.defers, by simp [Act.put, h.size], fun t => ?_, fun j oj hj hlj e he hb => ?_, by simp [h.lsize]⟩
  · by_cases htd : d = t
    · subst htd
      rw [eval_put_same (by rw [h.size, hn]; exact hdn)]
      refine ⟨fun j hj _ => ?_, fun hno => ?_⟩
      · rw [hw] at hj; cases hj; exact hv
      · have := hno i hw
        simp [hi] at this
    · rw [eval_put_ne htd]
      have hne : ∀ j, writer ops m t = some j → i ≠ j := by
        intro j hj e
        subst e
        unfold writer at hj
        have := List.find?_some hj
        simp [ho, hd] at this
        exact htd this
      refine ⟨fun j hj hl => ?_, fun hno => ?_⟩
      · rw [getD_set_ne false (hne j hj)] at hl
        exact mono _ _ _ _ hg ((h.slots t).1 j hj hl)
      · exact (h.slots t).2 fun j hj => by rw [← getD_set_ne false (hne j hj)]; exact hno j hj
  · by_cases hij : i = j
    · subst hij
      rw [ho] at hj
      cases hj
      exact getD_set_true (hall e he hb)
    · rw [getD_set_ne false hij] at hlj
      exact getD_set_true (h.shut j oj hj hlj e he hb)

/-- The tail goes in its one order. -/
theorem wpAny_tailC {m k0 n : Nat} (hB : growC ops m k0 n = true) : ∀ (r k : Nat) (listed : Array Bool) (a : Act) (w : World), k + r = ops.size → m ≤ k → listed.size = ops.size →
    (∀ j, j < ops.size → listed.getD j false = decide (j < k)) → wpOps P ops Q (List.range' k r) a w → wpAny P .any ops Q r listed a w := by
  obtain ⟨_, _, _, h3⟩ := growC_spec hB
  intro r
  induction r with
  | zero =>
    intro k listed a w hk hm hl hd h
    refine ⟨?_, h⟩
    cases hr : Region.ready .any ops listed with
    | nil => rfl
    | cons x xs =>
      exfalso
      have hx : x ∈ Region.ready .any ops listed := by rw [hr]; simp
      obtain ⟨hun, ox, hox, _⟩ := mem_ready.1 hx
      have hxs : x < ops.size := (Array.getElem?_eq_some_iff.1 hox).1
      have h4 := hd x hxs
      rw [decide_eq_true (by omega)] at h4
      simp [hl, hxs] at h4 hun
      rw [h4] at hun
      cases hun
  | succ r ih =>
    intro k listed a w hk hm hl hd h
    have hks : k < ops.size := by omega
    refine ⟨fun hr => ?_, fun i hi => ?_⟩
    · exfalso
      have := ready_nilC hB hl hr k hks
      rw [hd k hks, decide_eq_false (by omega)] at this
      cases this
    · obtain ⟨hun, o, ho, hall⟩ := mem_ready.1 hi
      have his : i < ops.size := (Array.getElem?_eq_some_iff.1 ho).1
      have hik : k ≤ i := by
        rcases Nat.lt_or_ge i k with h' | h'
        · have h4 := hd i his
          rw [decide_eq_true h'] at h4
          simp [hl, his] at h4 hun
          rw [h4] at hun
          cases hun
        · exact h'
      have hie : i = k := by
        rcases Nat.lt_or_ge k i with h' | h'
        · exfalso
          obtain ⟨o', ho', e, he, hb, heq⟩ := h3 i (by omega) his
          rw [ho] at ho'
          cases ho'
          have h5 := hall e he hb
          rw [heq, hd (i - 1) (by omega), decide_eq_false (by omega)] at h5
          cases h5
        · omega
      subst hie
      rw [List.range'_succ, wpOps_cons] at h
      refine wpOp_mono (fun a' w' hq => ih (i + 1) _ a' w' (by omega) (by omega) (by simp [hl]) (fun j hj => ?_) hq) h
      by_cases hij : i = j
      · subst hij
        have : i < listed.size := by omega
        simp [this]
      · rw [getD_set_ne false hij, hd j hj]
        have : (j < i) ↔ (j < i + 1) := by omega
        simp only [this]


theorem wpAny_late {Φ : Nat → Post} {a0 : Act} {w0 : World} {m k0 n : Nat} (hB : growC ops m k0 n = true) (hn : a0.tmps.size = n) (mono : ∀ i v w w', G w w' → Φ i v w → Φ i v w')
    (step : ∀ i o, i < m → ops[i]? = some o → growStep P ops m Φ a0 w0 i o)
    (fin : ∀ a w, G w0 w → a.defers = a0.defers → a.tmps.size = a0.tmps.size → (∀ t, slotIs ops m Φ a0 t a w) →
      wpOps P ops Q (List.range' m (ops.size - m)) a w)
    (finK : ∀ a w, G w0 w → a.defers = a0.defers → a.tmps.size = a0.tmps.size → (∀ t, writer ops m t ≠ some k0 → slotIs ops m Φ a0 t a w) →
      wpOps P ops Q (m :: k0 :: List.range' (m + 1) (ops.size - (m + 1))) a w) :
    ∀ fuel listed a w, left listed = fuel → GrowInv ops m Φ a0 w0 listed a w → (∀ j, m ≤ j → j < ops.size → listed.getD j false = false) → wpAny P .any ops Q fuel listed a w := by
  obtain ⟨h1, ⟨hms, hkm, hwk⟩, h2, h3⟩ := growC_spec hB
  have full : ∀ (listed : Array Bool) a w, GrowInv ops m Φ a0 w0 listed a w → (∀ j, j < m → listed.getD j false = true) → wpOps P ops Q (List.range' m (ops.size - m)) a w := by
    intro listed a w h hall
    refine fin a w h.grew h.defers h.size fun t => ?_
    unfold slotIs
    cases hw : writer ops m t with
    | none => exact (h.slots t).2 fun j hj => by rw [hw] at hj; cases hj
    | some j => exact (h.slots t).1 j hw (hall j (List.mem_range.1 (List.mem_of_find?_eq_some hw)))
  have count : ∀ (r : Nat) (listed : Array Bool) (c : Nat), listed.size = ops.size → c + r = ops.size → (∀ j, j < ops.size → listed.getD j false = decide (j < c)) → left listed = r := by
    intro r listed c hs hc hd
    unfold left
    have e : listed.toList = List.replicate c true ++ List.replicate r false := by
      apply List.ext_getElem?
      intro i
      rw [List.getElem?_append]
      by_cases hic : i < c
      · have h4 := hd i (by omega)
        have hi : i < listed.size := by omega
        simp [hi, hic] at h4
        simp [hic, hi, h4]
      · by_cases his : i < ops.size
        · have h4 := hd i his
          have hi : i < listed.size := by omega
          simp [hi, hic] at h4
          have h6 : i - c < r := by omega
          simp [hic, hi, h4, h6]
        · have h5 : ¬ i < listed.size := by omega
          have h6 : ¬ i - c < r := by omega
          simp [hic, h5, h6]
    rw [e, List.countP_append]
    simp [List.countP_replicate]
  have done : ∀ (listed : Array Bool) a w fuel, left listed = fuel → GrowInv ops m Φ a0 w0 listed a w → (∀ j, j < m → listed.getD j false = true) → (∀ j, m ≤ j → j < ops.size → listed.getD j false = false) → wpAny P .any ops Q fuel listed a w := by
    intro listed a w fuel hf h hall hm
    have hd : ∀ j, j < ops.size → listed.getD j false = decide (j < m) := by
      intro j hj
      by_cases hjm : j < m
      · rw [hall j hjm, decide_eq_true hjm]
      · rw [hm j (by omega) hj, decide_eq_false hjm]
    rw [count (ops.size - m) listed m h.lsize (by omega) hd] at hf
    subst hf
    exact wpAny_tailC hB (ops.size - m) m listed a w (by omega) (Nat.le_refl _) h.lsize hd (full listed a w h hall)
  -- number m is behind, k0 is not
  have late : ∀ (fuel : Nat) (listed : Array Bool) a w, left listed = fuel → listed.size = ops.size → (∀ j, j < ops.size → listed.getD j false = (decide (j < m + 1) && decide (j ≠ k0))) → wpOps P ops Q (k0 :: List.range' (m + 1) (ops.size - (m + 1))) a w → wpAny P .any ops Q fuel listed a w := by
    intro fuel listed a w hl hs hd hw
    have hk0 : listed.getD k0 false = false := by rw [hd k0 (by omega)]; simp
    cases fuel with
    | zero => exact absurd (left_zero hl k0 (by omega)) (by rw [hk0]; simp)
    | succ fuel =>
      refine ⟨fun hr => absurd (ready_nilC hB hs hr k0 (by omega)) (by rw [hk0]; simp), fun i hi => ?_⟩
      obtain ⟨hun, o, ho, hall⟩ := mem_ready.1 hi
      have his : i < ops.size := (Array.getElem?_eq_some_iff.1 ho).1
      have hif : listed.getD i false = false := by
        have h9 : i < listed.size := by omega
        simp [h9] at hun ⊢
        exact hun
      have hik : i = k0 := by
        rcases Nat.lt_or_ge i (m + 1) with h' | h'
        · rw [hd i his] at hif
          simp [h'] at hif
          exact hif
        · exfalso
          by_cases hi1 : i = m + 1
          · subst hi1
            obtain ⟨o', ho', e, he, hb, heq⟩ := hwk
            rw [ho] at ho'
            cases ho'
            have h5 := hall e he hb
            rw [heq, hk0] at h5
            cases h5
          · obtain ⟨o', ho', e, he, hb, heq⟩ := h3 i (by omega) his
            rw [ho] at ho'
            cases ho'
            have h5 := hall e he hb
            rw [heq, hd (i - 1) (by omega), decide_eq_false (by omega)] at h5
            cases h5
      subst hik
      rw [wpOps_cons] at hw
      have hleft := left_set hun
      have hd2 : ∀ j, j < ops.size → (listed.setIfInBounds i true).getD j false = decide (j < m + 1) := by
        intro j hj
        by_cases hij : i = j
        · subst hij
          have : i < listed.size := by omega
          have h8 : i < m + 1 := by omega
          simp [this, h8]
        · rw [getD_set_ne false hij, hd j hj]
          have : j ≠ i := fun e => hij e.symm
          simp [this]
      have hf : fuel = ops.size - (m + 1) := by
        have := count (ops.size - (m + 1)) (listed.setIfInBounds i true) (m + 1) (by simp [hs]) (by omega) hd2
        omega
      subst hf
      exact wpOp_mono (fun a' w' hq => wpAny_tailC hB (ops.size - (m + 1)) (m + 1) _ a' w' (by omega) (by omega) (by simp [hs]) hd2 hq) hw
  intro fuel
  induction fuel with
  | zero =>
    intro listed a w hl h hm
    exact done listed a w 0 hl h (fun j hj => left_zero hl j (by rw [h.lsize]; omega)) hm
  | succ fuel ih =>
    intro listed a w hl h hm
    by_cases hall0 : ∀ j, j < m → listed.getD j false = true
    · exact done listed a w _ hl h hall0 hm
    refine ⟨fun hr => absurd (fun j hj => ready_nilC hB h.lsize hr j (by omega)) hall0, fun i hi => ?_⟩
    obtain ⟨hun, o, ho, hall⟩ := mem_ready.1 hi
    have his : i < ops.size := (Array.getElem?_eq_some_iff.1 ho).1
    have hleft := left_set hun
    by_cases him : i < m
    · obtain ⟨_, hd0, _, hlk⟩ := h1 i o ho
      obtain ⟨d, hd, _, _⟩ := hd0 him
      have hin : ∀ t ∈ o.looksAt ops, slotIs ops m Φ a0 t a w := by
        intro t ht
        unfold slotIs
        cases hw : writer ops m t with
        | none => exact (h.slots t).2 fun j hj => by rw [hw] at hj; cases hj
        | some j =>
          obtain ⟨e, he, hb, rfl⟩ := hlk him t ht j hw
          exact (h.slots t).1 _ hw (hall e he hb)
      have hm' : ∀ j, m ≤ j → j < ops.size → (listed.setIfInBounds i true).getD j false = false := fun j hj hjs => by
        rw [getD_set_ne false (by omega)]; exact hm j hj hjs
      unfold wpOp
      simp only [ho]
      rcases step i o him ho a w h.grew hin with ⟨hw, hg⟩ | ⟨hw, hu⟩
      · simp only [hw, if_true]
        refine .inl (wp_of_grow hg fun v w' hgw hv => ih _ _ _ (by omega) (h.putC hB hn mono him ho hd hi hgw hv) hm')
      · simp only [hw, Bool.false_eq_true, if_false]
        exact ih _ _ _ (by omega) (h.putC hB hn mono him ho hd hi (G.refl w) (hu w (G.refl w))) hm'
    · have hie : i = m := by
        rcases Nat.lt_or_ge m i with h' | h'
        · exfalso
          obtain ⟨o', ho', e, he, hb, heq⟩ := h3 i h' his
          rw [ho] at ho'
          cases ho'
          have h5 := hall e he hb
          rw [heq, hm (i - 1) (by omega) (by omega)] at h5
          cases h5
        · omega
      subst hie
      have hall' : ∀ c, ∀ j, j < i → j ≠ k0 → i ≤ j + c → listed.getD j false = true := by
        intro c
        induction c with
        | zero => intro j hj _ hk; omega
        | succ c ihc =>
          intro j hj hjk hk
          obtain ⟨p, op, hpm, hpk, hp, hjp, e, he, hb, rfl⟩ := h2 j hj hjk
          by_cases hpi : p = i
          · subst hpi
            rw [ho] at hp
            cases hp
            exact hall e he hb
          · exact h.shut p op hp (ihc p (by omega) hpk (by omega)) e he hb
      have hot : ∀ j, j < i → j ≠ k0 → listed.getD j false = true := fun j hj hjk => hall' i j hj hjk (by omega)
      have hkf : listed.getD k0 false = false := by
        cases hg : listed.getD k0 false with
        | false => rfl
        | true =>
          refine absurd (fun j hj => ?_) hall0
          by_cases hjk : j = k0
          · subst hjk; exact hg
          · exact hot j hj hjk
      have hw := finK a w h.grew h.defers h.size fun t ht => by
        unfold slotIs
        cases hw : writer ops i t with
        | none => exact (h.slots t).2 fun j hj => by rw [hw] at hj; cases hj
        | some j =>
          refine (h.slots t).1 j hw (hot j (List.mem_range.1 (List.mem_of_find?_eq_some hw)) fun e => ?_)
          subst e
          exact ht hw
      rw [wpOps_cons] at hw
      refine wpOp_mono (fun a' w' hq => late fuel _ a' w' (by omega) (by simp [h.lsize]) (fun j hj => ?_) hq) hw
      by_cases hij : i = j
      · subst hij
        have : i < listed.size := by rw [h.lsize]; omega
        have h8 : i ≠ k0 := by omega
        simp [this, h8]
      · rw [getD_set_ne false hij]
        by_cases hjk : j = k0
        · subst hjk
          rw [hkf]
          simp
        · by_cases hji : j < i
          · rw [hot j hji hjk]
            have : j < i + 1 := by omega
            simp [this, hjk]
          · rw [hm j (by omega) hj]
            have : ¬ j < i + 1 := by omega
            simp [this]

theorem wpOps_cons_list {i : Nat} {o : Oper} (ho : ops[i]? = some o) {is : List Nat} {l : List Oper} (h : wpOps P ops Q is = wpList P ops Q l) : wpOps P ops Q (i :: is) = wpList P ops Q (o :: l) := by
  funext a w
  rw [wpOps_cons]
  unfold wpOp
  simp only [ho, wpList, h]

/-- **THE REGION**, where operation k may come behind number m. -/
theorem wp_region_late {id : Nat} {a : Act} {w : World} (Φ : Nat → Post) (m k0 n : Nat) (hm : P.follows .mixedOrders = true) (hB : growC ops m k0 n = true) (hn : a.tmps.size = n)
    (mono : ∀ i v w w', G w w' → Φ i v w → Φ i v w')
    (step : ∀ i o, i < m → ops[i]? = some o → growStep P ops m Φ a w i o)
    (om ok : Oper) (hom : ops[m]? = some om) (hok : ops[k0]? = some ok)
    (fin : ∀ (s : Nat → Value) w' (l : List Oper), G w w' → (l = ops.toList.drop m ∧ (∀ t, slotIs ops m Φ a t ⟨((List.range n).map s).toArray, a.defers⟩ w') ∨
        l = om :: ok :: ops.toList.drop (m + 1) ∧ (∀ t, writer ops m t ≠ some k0 → slotIs ops m Φ a t ⟨((List.range n).map s).toArray, a.defers⟩ w')) →
      (∀ t, t < n → (⟨((List.range n).map s).toArray, a.defers⟩ : Act).eval (.tmp t) = s t) → wpList P ops Q l ⟨((List.range n).map s).toArray, a.defers⟩ w') :
    (Code.region id ops true).wp P Q a w := by
  refine wp_region_any hm ?_
  have hz : ∀ j, (Array.replicate ops.size false).getD j false = false := by
    intro j
    by_cases hj : j < ops.size <;> simp [hj]
  have act : ∀ a' : Act, a'.defers = a.defers → a'.tmps.size = a.tmps.size → a' = ⟨((List.range n).map fun t => a'.eval (.tmp t)).toArray, a.defers⟩ := by
    intro a' hd hs
    cases a' with
    | mk tmps defers =>
      simp only at hd hs
      subst hd
      congr 1
      apply Array.ext
      · simp [hs, hn]
      · intro i hi1 hi2
        simp [Act.eval, hi1]
  refine wpAny_late hB hn mono step (fun a' w' hG hd hs hslot => ?_) (fun a' w' hG hd hs hslot => ?_) ops.size _ a _ (by unfold left; rw [Array.toList_replicate, List.countP_replicate, if_pos (by rfl)])
    ⟨G.drawn w _, rfl, rfl, (fun t => ⟨(fun j _ hl => by rw [hz j] at hl; cases hl), fun _ => rfl⟩), (fun i o _ hl => by rw [hz i] at hl; cases hl), by simp⟩ (fun j _ _ => hz j)
  · have hf := fin (fun t => a'.eval (.tmp t)) w' (ops.toList.drop m) hG
    rw [← act a' hd hs] at hf
    have hf := hf (.inl ⟨rfl, hslot⟩) (fun t _ => rfl)
    have e := wpOps_eq_wpList (P := P) (ops := ops) (Q := Q) (ops.toList.drop m) m (fun j => by simp)
    have hl : (ops.toList.drop m).length = ops.size - m := by simp
    rw [hl] at e
    rw [e]
    exact hf
  · have hf := fin (fun t => a'.eval (.tmp t)) w' (om :: ok :: ops.toList.drop (m + 1)) hG
    rw [← act a' hd hs] at hf
    have hf := hf (.inr ⟨rfl, hslot⟩) (fun t _ => rfl)
    have e := wpOps_eq_wpList (P := P) (ops := ops) (Q := Q) (ops.toList.drop (m + 1)) (m + 1) (fun j => by simp)
    have hl : (ops.toList.drop (m + 1)).length = ops.size - (m + 1) := by simp
    rw [hl] at e
    rw [wpOps_cons_list hom (wpOps_cons_list hok e)]
    exact hf
end
end Go.Proofs.YtlmmpcoakemooaaDoor
