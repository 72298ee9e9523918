/-
  A region that draws its order, whose operations compute, read, or call functions that only make new memory: whatever the order, each operation's result is as its own statement says. No conditions; no program is named here.
-/
import Derived.Orders
import Derived.Below
import Derived.Tactics2
namespace Go.Proofs.YtpeioflembhedaaDoor
open Go.RowKit

/-- w' is w, and more: nothing that was there has turned. -/
def G (w w' : World) : Prop := Below w.heap.size w w'
theorem G.refl (w : World) : G w w := Below.refl _ _
theorem G.trans {a b c : World} (h : G a b) (k : G b c) : G a c := Below.trans h (Below.mono k h.size)
theorem G.drawn (w : World) (n : Nat) : G w { w with drawn := n } := ⟨rfl, rfl, rfl, Nat.le_refl _, fun _ _ => rfl⟩
theorem G.drew {a w : World} (h : G a w) : G a w.drew := Below.drew h
theorem G.alloc {a w : World} (h : G a w) (o : Obj) : G a (w.alloc o) := Below.alloc h h.size o
theorem G.cell {w w' : World} (h : G w w') {p : Addr} {v : Value} (hc : w.cell? p = some v) : w'.cell? p = some v :=
  (Below.cell h (World.block_lt_of_cell? w p hc)).trans hc
theorem G.grown {a w w' : World} {row : Option Nat} (h : G a w) (hg : w.grownBy w' row) (hr : ∀ k, row = some k → a.heap.size ≤ k) : G a w' :=
  Below.grown h hg h.size hr

abbrev Post := Value → World → Prop

/-- What an operation, carried out in the world w, is to yield. -/
def growUpon (P : Program) (w : World) (Φ : Post) : Result Next → Prop
  | .ok (.value v) w' => G w w' ∧ Φ v w'
  | .ok (.enter f args) w' => w' = w ∧ Calls P f args w (fun e w'' => ∃ v, e = .returned v ∧ G w w'' ∧ Φ v w'')
  | _ => False

def growAt (P : Program) (o : Oper) (a : Act) (w : World) (Φ : Post) : Prop := growUpon P w Φ ((execOp a.eval o).run P w)

theorem wp_of_grow {P : Program} {o : Oper} {a : Act} {w : World} {Φ : Post} {K : Act → World → Prop} {Q : Exit → Act → World → Prop}
    (h : growAt P o a w Φ) (hk : ∀ v w', G w w' → Φ v w' → K (a.put o.dst v) w') : o.wp P a w K Q := by
  unfold growAt at h
  unfold Oper.wp
  generalize (execOp a.eval o).run P w = r at *
  cases r with
  | ok n w' =>
    cases n <;> simp only [growUpon] at h <;> simp only [Oper.upon]
    case value v => exact hk _ _ h.1 h.2
    case enter f args =>
      obtain ⟨rfl, hc⟩ := h
      refine hc.mono fun e w'' he => ?_
      obtain ⟨v, rfl, h1, h2⟩ := he
      exact hk _ _ h1 h2
  | halt x w' => simp only [growUpon] at h

/-- Which of the first m operations writes the temporary t. -/
def writer (ops : Array Oper) (m : Nat) (t : Tmp) : Option Nat := (List.range m).find? fun j => ((ops[j]?).bind (·.dst)) == some t

/-- Operation p waits for operation j. -/
def waits (ops : Array Oper) (p j : Nat) : Bool := match ops[p]? with
  | none => false
  | some o => o.after.any fun e => Region.binds .any e && e.on == j
/-- The Bool over a region: edges go back; no two operations write one temporary; whoever looks at a temporary that the region writes waits for its writer; from number m on each waits for the one ahead of it, and number m for all. -/
def growB (ops : Array Oper) (m n : Nat) : Bool :=
  ((List.range ops.size).all fun i => match ops[i]? with
    | none => true
    | some o =>
      (o.after.all fun e => !Region.binds .any e || e.on < i) &&
      (!(i < m) || (match o.dst with
        | none => false
        | some d => d < n && writer ops m d == some i)) &&
      (!(i < m) || ((o.looksAt ops).all fun t => match writer ops m t with
        | none => true
        | some j => waits ops i j))) &&
  (decide (m ≤ ops.size) && ((List.range m).all fun j => m == ops.size || (List.range (m + 1)).any fun p => j < p && waits ops p j) &&
    ((List.range ops.size).all fun j => !(m < j) || waits ops j (j - 1)))

/-- What is known of a temporary at which an operation looks. -/
def slotIs (ops : Array Oper) (m : Nat) (Φ : Nat → Post) (a0 : Act) (t : Tmp) (a : Act) (w : World) : Prop :=
  match writer ops m t with
  | some j => Φ j (a.eval (.tmp t)) w
  | none => a.eval (.tmp t) = a0.eval (.tmp t)

/-- What is asked of operation number i. -/
def growStep (P : Program) (ops : Array Oper) (m : Nat) (Φ : Nat → Post) (a0 : Act) (w0 : World) (i : Nat) (o : Oper) : Prop :=
  ∀ a w, G w0 w → (∀ t ∈ o.looksAt ops, slotIs ops m Φ a0 t a w) →
    (Region.wanted o (yielded ops a.tmps) = true ∧ growAt P o a w (Φ i)) ∨ (Region.wanted o (yielded ops a.tmps) = false ∧ ∀ w', G w w' → Φ i undef w')

structure GrowInv (ops : Array Oper) (m : Nat) (Φ : Nat → Post) (a0 : Act) (w0 : World) (listed : Array Bool) (a : Act) (w : World) : Prop where
  grew : G w0 w
  defers : a.defers = a0.defers
  size : a.tmps.size = a0.tmps.size
  slots : ∀ t, (∀ j, writer ops m t = some j → listed.getD j false = true → Φ j (a.eval (.tmp t)) w) ∧
    ((∀ j, writer ops m t = some j → listed.getD j false = false) → a.eval (.tmp t) = a0.eval (.tmp t))
  shut : ∀ i o, ops[i]? = some o → listed.getD i false = true → ∀ e ∈ o.after, Region.binds .any e = true → listed.getD e.on false = true
  lsize : listed.size = ops.size

theorem eval_put_same {a : Act} {d : Nat} {v : Value} (h : d < a.tmps.size) : (a.put (some d) v).eval (.tmp d) = v := by
  simp [Act.eval, Act.put, h]
theorem eval_put_ne {a : Act} {d t : Nat} {v : Value} (h : d ≠ t) : (a.put (some d) v).eval (.tmp t) = a.eval (.tmp t) := by
  simp [Act.eval, Act.put, Array.getElem?_setIfInBounds_ne h]

section
variable {P : Program} {ops : Array Oper} {Q : Exit → Act → World → Prop}

theorem waits_spec {p j : Nat} (h : waits ops p j = true) : ∃ o, ops[p]? = some o ∧ ∃ e ∈ o.after, Region.binds .any e = true ∧ e.on = j := by
  unfold waits at h
  cases ho : ops[p]? with
  | none => rw [ho] at h; cases h
  | some o =>
    rw [ho] at h
    simp only at h
    rw [← Array.any_toList, List.any_eq_true] at h
    obtain ⟨e, he, hq⟩ := h
    simp at hq
    exact ⟨o, rfl, e, by simpa using he, hq.1, hq.2⟩

theorem growB_spec {m n : Nat} (h : growB ops m n = true) :
    (∀ i o, ops[i]? = some o → (∀ e ∈ o.after, Region.binds .any e = true → e.on < i) ∧ (i < m → ∃ d, o.dst = some d ∧ d < n ∧ writer ops m d = some i) ∧
      (i < m → ∀ d, o.dst = some d → d < n ∧ writer ops m d = some i) ∧
      (i < m → ∀ t ∈ o.looksAt ops, ∀ j, writer ops m t = some j → ∃ e ∈ o.after, Region.binds .any e = true ∧ e.on = j)) ∧
    m ≤ ops.size ∧ (m ≠ ops.size → ∀ j, j < m → ∃ p o, p ≤ m ∧ ops[p]? = some o ∧ j < p ∧ ∃ e ∈ o.after, Region.binds .any e = true ∧ e.on = j) ∧
    (∀ j, m < j → j < ops.size → ∃ o, ops[j]? = some o ∧ ∃ e ∈ o.after, Region.binds .any e = true ∧ e.on = j - 1) := by
  simp only [growB, Bool.and_eq_true, Bool.or_eq_true, beq_iff_eq, List.all_eq_true, List.mem_range, decide_eq_true_eq] at h
  obtain ⟨h1, ⟨hm, h2⟩, h3⟩ := h
  refine ⟨fun i o ho => ?_, hm, fun hne j hj => ?_, fun j hj hjs => ?_⟩
  · have hi : i < ops.size := (Array.getElem?_eq_some_iff.1 ho).1
    have h3 := h1 i hi
    simp only [ho, Bool.and_eq_true, Bool.or_eq_true, Array.all_eq_true_iff_forall_mem, List.all_eq_true] at h3
    obtain ⟨⟨h4, h5⟩, h6⟩ := h3
    refine ⟨fun e he hb => ?_, fun him => ?_, fun him d hd => ?_, fun him t ht j hj => ?_⟩
    · have := h4 e he
      simp [hb] at this
      exact this
    · cases hd : o.dst with
      | none => simp [hd, him] at h5
      | some d => simp [hd, him] at h5; exact ⟨d, rfl, h5.1, h5.2⟩
    · simp [hd, him] at h5; exact h5
    · have h7 := (h6.resolve_left (by simp [him])) t ht
      simp only [hj] at h7
      obtain ⟨o', ho', r⟩ := waits_spec h7
      rw [ho] at ho'
      cases ho'
      exact r
  · rcases h2 j hj with h4 | h4
    · exact absurd h4 hne
    · simp only [List.any_eq_true, List.mem_range, Bool.and_eq_true, decide_eq_true_eq] at h4
      obtain ⟨p, hp, hjp, hw⟩ := h4
      obtain ⟨o, ho, r⟩ := waits_spec hw
      exact ⟨p, o, by omega, ho, hjp, r⟩
  · have h4 := h3 j hjs
    simp only [Bool.not_eq_true', decide_eq_false_iff_not] at h4
    rcases h4 with h4 | h4
    · exact absurd hj h4
    · exact waits_spec h4

/-- How many are left. -/
def left (listed : Array Bool) : Nat := listed.toList.countP (· == false)

theorem left_set {listed : Array Bool} {i : Nat} (h : listed.getD i true = false) : left (listed.setIfInBounds i true) + 1 = left listed := by
  have hi : i < listed.size := by
    rcases Nat.lt_or_ge i listed.size with h' | h'
    · exact h'
    · simp [Array.getElem?_eq_none h'] at h
  have hv : listed.toList[i]'(by simpa using hi) = false := by
    have : listed[i]? = some listed[i] := Array.getElem?_eq_getElem hi
    simp [this] at h
    simpa using h
  unfold left
  rw [Array.toList_setIfInBounds, List.countP_set (by simpa using hi), hv]
  have hpos : 0 < listed.toList.countP (· == false) := List.countP_pos_iff.2 ⟨_, List.getElem_mem (by simpa using hi), by rw [hv]; rfl⟩
  rw [show (false == false) = true from rfl, show (true == false) = false from rfl, if_pos rfl, if_neg (by decide)]
  omega

theorem left_zero {listed : Array Bool} (h : left listed = 0) (i : Nat) (hi : i < listed.size) : listed.getD i false = true := by
  unfold left at h
  rw [List.countP_eq_zero] at h
  have := h (listed.toList[i]'(by simpa using hi)) (List.getElem_mem _)
  simp at this
  simp [hi, this]

theorem ready_nil {listed : Array Bool} {m n : Nat} (hB : growB ops m n = true) (hl : listed.size = ops.size) (h : Region.ready .any ops listed = []) : ∀ i, i < ops.size → listed.getD i false = true := by
  obtain ⟨h1, _⟩ := growB_spec hB
  intro i
  induction i using Nat.strongRecOn with
  | _ i ih =>
    intro hi
    cases hg : listed.getD i false with
    | true => rfl
    | false =>
      exfalso
      have ho : ops[i]? = some ops[i] := Array.getElem?_eq_getElem hi
      have hr : i ∈ Region.ready .any ops listed := by
        rw [mem_ready]
        refine ⟨?_, ops[i], ho, fun e he hb => ?_⟩
        · have : listed[i]? = some (listed[i]'(by omega)) := Array.getElem?_eq_getElem (by omega)
          simp [this] at hg ⊢
          exact hg
        · have h2 := (h1 i _ ho).1 e he hb
          exact ih e.on h2 (by omega)
      rw [h] at hr
      cases hr

theorem GrowInv.put {Φ : Nat → Post} {a0 a : Act} {w0 w w' : World} {listed : Array Bool} {m n : Nat} {i d : Nat} {o : Oper} {v : Value} (hB : growB ops m n = true) (hn : a0.tmps.size = n)
    (mono : ∀ i v w w', G w w' → Φ i v w → Φ i v w') (h : GrowInv ops m Φ a0 w0 listed a w) (him : i < m) (ho : ops[i]? = some o) (hd : o.dst = some d) (hr : i ∈ Region.ready .any ops listed)
    (hg : G w w') (hv : Φ i v w') : GrowInv ops m Φ a0 w0 (listed.setIfInBounds i true) (a.put o.dst v) w' := by
  obtain ⟨h1, _⟩ := growB_spec hB
  obtain ⟨_, _, hwr, _⟩ := h1 i o ho
  obtain ⟨hdn, hw⟩ := hwr him d hd
  obtain ⟨hun, o', ho', hall⟩ := mem_ready.1 hr
  rw [ho] at ho'
  cases ho'
  have hi : i < listed.size := by rw [h.lsize]; exact (Array.getElem?_eq_some_iff.1 ho).1
  rw [hd]
  refine ⟨h.grew.trans hg, h.defers, by simp [Act.put, h.size], fun t => ?_, fun j oj hj hlj e he hb => ?_, by simp [h.lsize]⟩
  · by_cases htd : d = t
    · subst htd
      rw [eval_put_same (by rw [h.size, hn]; exact hdn)]
      refine ⟨fun j hj _ => ?_, fun hno => ?_⟩
      · rw [hw] at hj; cases hj; exact hv
      · have := hno i hw
        simp [hi] at this
    · rw [eval_put_ne htd]
      have hne : ∀ j, writer ops m t = some j → i ≠ j := by
        intro j hj e
        subst e
        unfold writer at hj
        have := List.find?_some hj
        simp [ho, hd] at this
        exact htd this
      refine ⟨fun j hj hl => ?_, fun hno => ?_⟩
      · rw [getD_set_ne false (hne j hj)] at hl
        exact mono _ _ _ _ hg ((h.slots t).1 j hj hl)
      · exact (h.slots t).2 fun j hj => by rw [← getD_set_ne false (hne j hj)]; exact hno j hj
  · by_cases hij : i = j
    · subst hij
      rw [ho] at hj
      cases hj
      exact getD_set_true (hall e he hb)
    · rw [getD_set_ne false hij] at hlj
      exact getD_set_true (h.shut j oj hj hlj e he hb)

/-- The tail goes in its one order. -/
theorem wpAny_tail {m n : Nat} (hB : growB ops m n = true) : ∀ (r k : Nat) (listed : Array Bool) (a : Act) (w : World), k + r = ops.size → m ≤ k → listed.size = ops.size →
    (∀ j, j < ops.size → listed.getD j false = decide (j < k)) → wpOps P ops Q (List.range' k r) a w → wpAny P .any ops Q r listed a w := by
  obtain ⟨_, _, _, h3⟩ := growB_spec hB
  intro r
  induction r with
  | zero =>
    intro k listed a w hk hm hl hd h
    refine ⟨?_, h⟩
    cases hr : Region.ready .any ops listed with
    | nil => rfl
    | cons x xs =>
      exfalso
      have hx : x ∈ Region.ready .any ops listed := by rw [hr]; simp
      obtain ⟨hun, ox, hox, _⟩ := mem_ready.1 hx
      have hxs : x < ops.size := (Array.getElem?_eq_some_iff.1 hox).1
      have h4 := hd x hxs
      rw [decide_eq_true (by omega)] at h4
      simp [hl, hxs] at h4 hun
      rw [h4] at hun
      cases hun
  | succ r ih =>
    intro k listed a w hk hm hl hd h
    have hks : k < ops.size := by omega
    refine ⟨fun hr => ?_, fun i hi => ?_⟩
    · exfalso
      have := ready_nil hB hl hr k hks
      rw [hd k hks, decide_eq_false (by omega)] at this
      cases this
    · obtain ⟨hun, o, ho, hall⟩ := mem_ready.1 hi
      have his : i < ops.size := (Array.getElem?_eq_some_iff.1 ho).1
      have hik : k ≤ i := by
        rcases Nat.lt_or_ge i k with h' | h'
        · have h4 := hd i his
          rw [decide_eq_true h'] at h4
          simp [hl, his] at h4 hun
          rw [h4] at hun
          cases hun
        · exact h'
      have hie : i = k := by
        rcases Nat.lt_or_ge k i with h' | h'
        · exfalso
          obtain ⟨o', ho', e, he, hb, heq⟩ := h3 i (by omega) his
          rw [ho] at ho'
          cases ho'
          have h5 := hall e he hb
          rw [heq, hd (i - 1) (by omega), decide_eq_false (by omega)] at h5
          cases h5
        · omega
      subst hie
      rw [List.range'_succ, wpOps_cons] at h
      refine wpOp_mono (fun a' w' hq => ih (i + 1) _ a' w' (by omega) (by omega) (by simp [hl]) (fun j hj => ?_) hq) h
      by_cases hij : i = j
      · subst hij
        have : i < listed.size := by omega
        simp [this]
      · rw [getD_set_ne false hij, hd j hj]
        have : (j < i) ↔ (j < i + 1) := by omega
        simp only [this]

theorem wpAny_grow {Φ : Nat → Post} {a0 : Act} {w0 : World} {m n : Nat} (hB : growB ops m n = true) (hn : a0.tmps.size = n) (mono : ∀ i v w w', G w w' → Φ i v w → Φ i v w')
    (step : ∀ i o, i < m → ops[i]? = some o → growStep P ops m Φ a0 w0 i o)
    (fin : ∀ a w, G w0 w → a.defers = a0.defers → a.tmps.size = a0.tmps.size → (∀ t, slotIs ops m Φ a0 t a w) →
      wpOps P ops Q (List.range' m (ops.size - m)) a w) :
    ∀ fuel listed a w, left listed = fuel → GrowInv ops m Φ a0 w0 listed a w → (∀ j, m ≤ j → j < ops.size → listed.getD j false = false) → wpAny P .any ops Q fuel listed a w := by
  obtain ⟨h1, hms, h2, h3⟩ := growB_spec hB
  have full : ∀ (listed : Array Bool) a w, GrowInv ops m Φ a0 w0 listed a w → (∀ j, j < m → listed.getD j false = true) → (∀ j, m ≤ j → j < ops.size → listed.getD j false = false) → wpOps P ops Q (List.range' m (ops.size - m)) a w := by
    intro listed a w h hall hm
    refine fin a w h.grew h.defers h.size fun t => ?_
    unfold slotIs
    cases hw : writer ops m t with
    | none => exact (h.slots t).2 fun j hj => by rw [hw] at hj; cases hj
    | some j => exact (h.slots t).1 j hw (hall j (List.mem_range.1 (List.mem_of_find?_eq_some hw)))
  have done : ∀ (listed : Array Bool) a w fuel, left listed = fuel → GrowInv ops m Φ a0 w0 listed a w → (∀ j, j < m → listed.getD j false = true) → (∀ j, m ≤ j → j < ops.size → listed.getD j false = false) → wpAny P .any ops Q fuel listed a w := by
    intro listed a w fuel hf h hall hm
    have hleft : left listed = ops.size - m := by
      unfold left
      have e : listed.toList = List.replicate m true ++ List.replicate (ops.size - m) false := by
        apply List.ext_getElem?
        intro i
        have hs := h.lsize
        rw [List.getElem?_append]
        by_cases him : i < m
        · have h4 := hall i him
          have hi : i < listed.size := by omega
          simp [hi] at h4
          simp [him, hi, h4]
        · by_cases his : i < ops.size
          · have h4 := hm i (by omega) his
            have hi : i < listed.size := by omega
            simp [hi] at h4
            have h6 : i - m < ops.size - m := by omega
            simp [him, hi, h4, h6]
          · have h5 : ¬ i < listed.size := by omega
            have h6 : ¬ i - m < ops.size - m := by omega
            simp [him, h5, h6]
      rw [e, List.countP_append]
      simp [List.countP_replicate]
    rw [hleft] at hf
    subst hf
    refine wpAny_tail hB (ops.size - m) m listed a w (by omega) (Nat.le_refl _) h.lsize (fun j hj => ?_) (full listed a w h hall hm)
    by_cases hjm : j < m
    · rw [hall j hjm, decide_eq_true hjm]
    · rw [hm j (by omega) hj, decide_eq_false hjm]
  intro fuel
  induction fuel with
  | zero =>
    intro listed a w hl h hm
    exact done listed a w 0 hl h (fun j hj => left_zero hl j (by rw [h.lsize]; omega)) hm
  | succ fuel ih =>
    intro listed a w hl h hm
    by_cases hall0 : ∀ j, j < m → listed.getD j false = true
    · exact done listed a w _ hl h hall0 hm
    refine ⟨fun hr => absurd (fun j hj => ready_nil hB h.lsize hr j (by omega)) hall0, fun i hi => ?_⟩
    obtain ⟨hun, o, ho, hall⟩ := mem_ready.1 hi
    have his : i < ops.size := (Array.getElem?_eq_some_iff.1 ho).1
    have hleft := left_set hun
    by_cases him : i < m
    · obtain ⟨_, hd0, _, hlk⟩ := h1 i o ho
      obtain ⟨d, hd, _, _⟩ := hd0 him
      have hin : ∀ t ∈ o.looksAt ops, slotIs ops m Φ a0 t a w := by
        intro t ht
        unfold slotIs
        cases hw : writer ops m t with
        | none => exact (h.slots t).2 fun j hj => by rw [hw] at hj; cases hj
        | some j =>
          obtain ⟨e, he, hb, rfl⟩ := hlk him t ht j hw
          exact (h.slots t).1 _ hw (hall e he hb)
      have hm' : ∀ j, m ≤ j → j < ops.size → (listed.setIfInBounds i true).getD j false = false := fun j hj hjs => by
        rw [getD_set_ne false (by omega)]; exact hm j hj hjs
      unfold wpOp
      simp only [ho]
      rcases step i o him ho a w h.grew hin with ⟨hw, hg⟩ | ⟨hw, hu⟩
      · simp only [hw, if_true]
        refine .inl (wp_of_grow hg fun v w' hgw hv => ih _ _ _ (by omega) (h.put hB hn mono him ho hd hi hgw hv) hm')
      · simp only [hw, Bool.false_eq_true, if_false]
        exact ih _ _ _ (by omega) (h.put hB hn mono him ho hd hi (G.refl w) (hu w (G.refl w))) hm'
    · exfalso
      have hie : i = m := by
        rcases Nat.lt_or_ge m i with h' | h'
        · exfalso
          obtain ⟨o', ho', e, he, hb, heq⟩ := h3 i h' his
          rw [ho] at ho'
          cases ho'
          have h5 := hall e he hb
          rw [heq, hm (i - 1) (by omega) (by omega)] at h5
          cases h5
        · omega
      subst hie
      refine hall0 ?_
      have hall' : ∀ k, ∀ j, j < i → i ≤ j + k → listed.getD j false = true := by
        intro k
        induction k with
        | zero => intro j hj hk; omega
        | succ k ihk =>
          intro j hj hk
          obtain ⟨p, op, hpm, hp, hjp, e, he, hb, rfl⟩ := h2 (by omega) j hj
          by_cases hpi : p = i
          · subst hpi
            rw [ho] at hp
            cases hp
            exact hall e he hb
          · exact h.shut p op hp (ihk p (by omega) (by omega)) e he hb
      exact fun j hj => hall' i j hj (by omega)

/-- **THE REGION**: the first m operations by their own statements; the rest, if there is any, in its one order. -/
theorem wp_region_tail {id : Nat} {a : Act} {w : World} (Φ : Nat → Post) (m n : Nat) (hm : P.follows .mixedOrders = true) (hB : growB ops m n = true) (hn : a.tmps.size = n)
    (mono : ∀ i v w w', G w w' → Φ i v w → Φ i v w')
    (step : ∀ i o, i < m → ops[i]? = some o → growStep P ops m Φ a w i o)
    (fin : ∀ (s : Nat → Value) w', G w w' → (∀ t, slotIs ops m Φ a t ⟨((List.range n).map s).toArray, a.defers⟩ w') → (∀ t, t < n → (⟨((List.range n).map s).toArray, a.defers⟩ : Act).eval (.tmp t) = s t) → wpList P ops Q (ops.toList.drop m) ⟨((List.range n).map s).toArray, a.defers⟩ w') :
    (Code.region id ops true).wp P Q a w := by
  refine wp_region_any hm ?_
  have hz : ∀ j, (Array.replicate ops.size false).getD j false = false := by
    intro j
    by_cases hj : j < ops.size <;> simp [hj]
  refine wpAny_grow hB hn mono step (fun a' w' hG hd hs hslot => ?_) ops.size _ a _ (by unfold left; rw [Array.toList_replicate, List.countP_replicate, if_pos (by rfl)])
    ⟨G.drawn w _, rfl, rfl, (fun t => ⟨(fun j _ hl => by rw [hz j] at hl; cases hl), fun _ => rfl⟩), (fun i o _ hl => by rw [hz i] at hl; cases hl), by simp⟩ (fun j _ _ => hz j)
  have ha : a' = ⟨((List.range n).map fun t => a'.eval (.tmp t)).toArray, a.defers⟩ := by
    cases a' with
    | mk tmps defers =>
      simp only at hd hs
      subst hd
      congr 1
      apply Array.ext
      · simp [hs, hn]
      · intro i hi1 hi2
        simp [Act.eval, hi1]
  have hf := fin (fun t => a'.eval (.tmp t)) w' hG
  rw [← ha] at hf
  have hf := hf hslot (fun t _ => rfl)
  have e := wpOps_eq_wpList (P := P) (ops := ops) (Q := Q) (ops.toList.drop m) m (fun j => by simp)
  have hl : (ops.toList.drop m).length = ops.size - m := by simp
  rw [hl] at e
  rw [e]
  exact hf

/-- The same, where every operation goes by its own statement. -/
theorem wp_region_grows {id : Nat} {a : Act} {w : World} (Φ : Nat → Post) (n : Nat) (hm : P.follows .mixedOrders = true) (hB : growB ops ops.size n = true) (hn : a.tmps.size = n)
    (mono : ∀ i v w w', G w w' → Φ i v w → Φ i v w')
    (step : ∀ i o, i < ops.size → ops[i]? = some o → growStep P ops ops.size Φ a w i o)
    (fin : ∀ (s : Nat → Value) w', G w w' → (∀ t, slotIs ops ops.size Φ a t ⟨((List.range n).map s).toArray, a.defers⟩ w') → (∀ t, t < n → (⟨((List.range n).map s).toArray, a.defers⟩ : Act).eval (.tmp t) = s t) → Q .normal ⟨((List.range n).map s).toArray, a.defers⟩ w') :
    (Code.region id ops true).wp P Q a w := by
  refine wp_region_tail Φ ops.size n hm hB hn mono step fun s w' hG h1 h2 => ?_
  rw [show ops.toList.drop ops.size = [] from List.drop_eq_nil_of_le (by simp)]
  exact wpList_nil (fin s w' hG h1 h2)

/-- A region in the order of the text. -/
theorem wpOps_grow {Φ : Nat → Post} {a0 : Act} {w0 : World} {n : Nat} (hB : growB ops ops.size n = true) (hn : a0.tmps.size = n) (mono : ∀ i v w w', G w w' → Φ i v w → Φ i v w')
    (step : ∀ i o, i < ops.size → ops[i]? = some o → growStep P ops ops.size Φ a0 w0 i o)
    (fin : ∀ a w, G w0 w → a.defers = a0.defers → a.tmps.size = a0.tmps.size → (∀ t, slotIs ops ops.size Φ a0 t a w) → Q .normal a w) :
    ∀ r k listed a w, k + r = ops.size → (∀ j, j < ops.size → listed.getD j false = decide (j < k)) → GrowInv ops ops.size Φ a0 w0 listed a w → wpOps P ops Q (List.range' k r) a w := by
  obtain ⟨h1, _⟩ := growB_spec hB
  intro r
  induction r with
  | zero =>
    intro k listed a w hk hd h
    refine fin a w h.grew h.defers h.size fun t => ?_
    unfold slotIs
    cases hw : writer ops ops.size t with
    | none => exact (h.slots t).2 fun j hj => by rw [hw] at hj; cases hj
    | some j =>
      have hjs : j < ops.size := List.mem_range.1 (List.mem_of_find?_eq_some hw)
      exact (h.slots t).1 j hw (by rw [hd j hjs, decide_eq_true (by omega)])
  | succ r ih =>
    intro k listed a w hk hd h
    have hks : k < ops.size := by omega
    have ho : ops[k]? = some ops[k] := Array.getElem?_eq_getElem hks
    obtain ⟨hback, hd0, _, hlk⟩ := h1 k _ ho
    obtain ⟨d, hdst, _, _⟩ := hd0 hks
    have hall : ∀ e ∈ (ops[k]).after, Region.binds .any e = true → listed.getD e.on false = true := fun e he hb => by
      have := hback e he hb
      rw [hd _ (by omega), decide_eq_true this]
    have hun : listed.getD k true = false := by
      have h4 := hd k hks
      have hkl : k < listed.size := by rw [h.lsize]; exact hks
      rw [decide_eq_false (by omega)] at h4
      simp [hkl] at h4 ⊢
      exact h4
    have hi : k ∈ Region.ready .any ops listed := mem_ready.2 ⟨hun, _, ho, hall⟩
    have hin : ∀ t ∈ (ops[k]).looksAt ops, slotIs ops ops.size Φ a0 t a w := by
      intro t ht
      unfold slotIs
      cases hw : writer ops ops.size t with
      | none => exact (h.slots t).2 fun j hj => by rw [hw] at hj; cases hj
      | some j =>
        obtain ⟨e, he, hb, rfl⟩ := hlk hks t ht j hw
        exact (h.slots t).1 _ hw (hall e he hb)
    have hd' : ∀ j, j < ops.size → (listed.setIfInBounds k true).getD j false = decide (j < k + 1) := fun j hj => by
      by_cases hkj : k = j
      · subst hkj
        have : k < listed.size := by rw [h.lsize]; exact hks
        simp [this]
      · rw [getD_set_ne false hkj, hd j hj]
        have : (j < k) ↔ (j < k + 1) := by omega
        simp only [this]
    rw [List.range'_succ, wpOps_cons]
    unfold wpOp
    simp only [ho]
    rcases step k _ hks ho a w h.grew hin with ⟨hw, hg⟩ | ⟨hw, hu⟩
    · simp only [hw, if_true]
      exact .inl (wp_of_grow hg fun v w' hgw hv => ih (k + 1) _ _ _ (by omega) hd' (h.put hB hn mono hks ho hdst hi hgw hv))
    · simp only [hw, Bool.false_eq_true, if_false]
      exact ih (k + 1) _ _ _ (by omega) hd' (h.put hB hn mono hks ho hdst hi (G.refl w) (hu w (G.refl w)))

theorem wp_region_lines {id : Nat} {a : Act} {w : World} (Φ : Nat → Post) (n : Nat) (hB : growB ops ops.size n = true) (hn : a.tmps.size = n)
    (mono : ∀ i v w w', G w w' → Φ i v w → Φ i v w')
    (step : ∀ i o, i < ops.size → ops[i]? = some o → growStep P ops ops.size Φ a w i o)
    (fin : ∀ (s : Nat → Value) w', G w w' → (∀ t, slotIs ops ops.size Φ a t ⟨((List.range n).map s).toArray, a.defers⟩ w') → (∀ t, t < n → (⟨((List.range n).map s).toArray, a.defers⟩ : Act).eval (.tmp t) = s t) → Q .normal ⟨((List.range n).map s).toArray, a.defers⟩ w') :
    (Code.region id ops false).wp P Q a w := by
  refine wp_region ?_
  rw [List.range_eq_range']
  have hz : ∀ j, (Array.replicate ops.size false).getD j false = false := by
    intro j
    by_cases hj : j < ops.size <;> simp [hj]
  refine wpOps_grow hB hn mono step (fun a' w' hG hd hs h => ?_) ops.size 0 (Array.replicate ops.size false) a w (by omega) (fun j _ => by rw [hz j]; simp)
    ⟨G.refl w, rfl, rfl, (fun t => ⟨(fun j _ hl => by rw [hz j] at hl; cases hl), fun _ => rfl⟩), (fun i o _ hl => by rw [hz i] at hl; cases hl), by simp⟩
  have ha : a' = ⟨((List.range n).map fun t => a'.eval (.tmp t)).toArray, a.defers⟩ := by
    cases a' with
    | mk tmps defers =>
      simp only at hd hs
      subst hd
      congr 1
      apply Array.ext
      · simp [hs, hn]
      · intro i hi1 hi2
        simp [Act.eval, hi1]
  have hf := fin (fun t => a'.eval (.tmp t)) w' hG
  rw [← ha] at hf
  exact hf h (fun t _ => rfl)
end
end Go.Proofs.YtpeioflembhedaaDoor
