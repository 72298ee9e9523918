/-
  A region that draws its order, as in the text Flow, where operations of the chain may have results that are known ahead: free operations may look at those. No conditions; no program is named here.
-/
import Derived.Test.YtpeioflembhedaaDoorFlow
namespace Go.Proofs.YtpeioflembhedaaDoor
open Go.RowKit

/-- What an operation finds in a slot: what the region has put there, or, where what writes it comes behind, what was there. -/
def lk (old : Nat → Tmp → Bool) (a0 : Act) (s : Tmp → Value) (i : Nat) (t : Tmp) : Value := if old i t then a0.eval (.tmp t) else s t
/-- What is asked of a free operation at a world. -/
def FreeK (P : Program) (ops : Array Oper) (old : Nat → Tmp → Bool) (a0 : Act) (s : Tmp → Value) (C : Nat → Value) (w : World) (i : Nat) : Prop :=
  ∃ o, ops[i]? = some o ∧ ∀ a : Act, (∀ t ∈ o.looksAt ops, a.eval (.tmp t) = lk old a0 s i t) → pureAt P ops o a w (C i)
/-- The chain from its stage on: at each stage the free operations that may still come are as known. -/
def ChainK (P : Program) (ops : Array Oper) (old : Nat → Tmp → Bool) (a0 : Act) (det : List Nat) (s0 : Tmp → Value) (C : Nat → Value) (rd : Nat → List Nat) (fin : (Tmp → Value) → World → Prop) : Nat → List Nat → (Tmp → Value) → World → Prop
  | j, [], s, w => allOf (FreeK P ops old a0 s0 C w) (rd j) ∧ fin s w
  | j, e :: es, s, w => allOf (FreeK P ops old a0 s0 C w) (rd j) ∧ ∃ o, ops[e]? = some o ∧ ∀ a : Act, (∀ t ∈ o.looksAt ops, a.eval (.tmp t) = lk old a0 s e t) →
      Region.wanted o (yielded ops a.tmps) = true ∧ effAt P o a w fun v w' => (det.contains e = true → v = C e) ∧ ChainK P ops old a0 det s0 C rd fin (j + 1) es (setS s o.dst v) w'
theorem ChainK.reads {P : Program} {ops : Array Oper} {old : Nat → Tmp → Bool} {a0 : Act} {det : List Nat} {z : Tmp → Value} {C : Nat → Value} {rd : Nat → List Nat} {fin : (Tmp → Value) → World → Prop} {j : Nat} {es : List Nat} {s : Tmp → Value} {w : World} (h : ChainK P ops old a0 det z C rd fin j es s w) :
    allOf (FreeK P ops old a0 z C w) (rd j) := by
  cases es with
  | nil => exact h.1
  | cons e es => exact h.1

/-- The chain's next one, at each stage. -/
def flowBK (ops : Array Oper) (n : Nat) (free ch tl det : List Nat) (old : Nat → Tmp → Bool) (rd : Nat → List Nat) : Bool :=
  ((List.range ops.size).all fun i => match ops[i]? with
    | none => true
    | some o =>
      (o.after.all fun e => !Region.binds .any e || e.on < i) &&
      (match o.dst with
        | none => !free.contains i
        | some d => d < n && writer ops ops.size d == some i) &&
      ((o.looksAt ops).all fun t => (match writer ops ops.size t with
        | none => !old i t
        | some j => if old i t then tw ops ops.size j i && !(j == i) else waits ops i j) && (!free.contains i || old i t || ch.all fun e => det.contains e || dstOf ops e != some t)) &&
      (free.contains i != ch.contains i)) &&
  ((List.range ch.length).all fun j => (List.range j).all fun k => tw ops ops.size (ch.getD j 0) (ch.getD k 0) && !(ch.getD j 0 == ch.getD k 0)) &&
  (det.all fun i => ch.contains i) && (free.all fun i => decide (i < ops.size)) && (ch.all fun i => decide (i < ops.size)) &&
  ((List.range (ch.length + 1)).all fun j => free.all fun i => tl.contains i || (rd j).contains i || (decide (0 < j) && tw ops ops.size (ch.getD (j - 1) 0) i) || (decide (j < ch.length) && tw ops ops.size i (ch.getD j 0)))

section
variable {P : Program} {ops : Array Oper} {Q : Exit → Act → World → Prop}

structure FlowOkK (ops : Array Oper) (n : Nat) (free ch tl det : List Nat) (old : Nat → Tmp → Bool) (rd : Nat → List Nat) : Prop where
  back : ∀ (i : Nat) (o : Oper), ops[i]? = some o → ∀ e ∈ o.after, Region.binds .any e = true → e.on < i
  dst : ∀ (i : Nat) (o : Oper), ops[i]? = some o → ∀ d, o.dst = some d → d < n ∧ writer ops ops.size d = some i
  freeDst : ∀ (i : Nat) (o : Oper), ops[i]? = some o → i ∈ free → ∃ d, o.dst = some d
  look : ∀ (i : Nat) (o : Oper), ops[i]? = some o → ∀ t ∈ o.looksAt ops, ∀ j, writer ops ops.size t = some j → (old i t = false ∧ waits ops i j = true) ∨ (old i t = true ∧ tw ops ops.size j i = true ∧ j ≠ i)
  lookNone : ∀ (i : Nat) (o : Oper), ops[i]? = some o → ∀ t ∈ o.looksAt ops, writer ops ops.size t = none → old i t = false
  lookFree : ∀ (i : Nat) (o : Oper), ops[i]? = some o → i ∈ free → ∀ t ∈ o.looksAt ops, old i t = false → ∀ e ∈ ch, e ∉ det → dstOf ops e ≠ some t
  detCh : ∀ i ∈ det, i ∈ ch
  part : ∀ i, i < ops.size → (i ∈ free ∧ i ∉ ch) ∨ (i ∉ free ∧ i ∈ ch)
  order : ∀ j k, j < ch.length → k < j → tw ops ops.size (ch.getD j 0) (ch.getD k 0) = true ∧ ch.getD j 0 ≠ ch.getD k 0
  freeLt : ∀ i ∈ free, i < ops.size
  chLt : ∀ i ∈ ch, i < ops.size
  cover : ∀ j, j ≤ ch.length → ∀ i ∈ free, i ∈ tl ∨ i ∈ rd j ∨ (0 < j ∧ tw ops ops.size (ch.getD (j - 1) 0) i = true) ∨ (j < ch.length ∧ tw ops ops.size i (ch.getD j 0) = true)

theorem flowBK_spec {n : Nat} {free ch tl det : List Nat} {old : Nat → Tmp → Bool} {rd : Nat → List Nat} (h : flowBK ops n free ch tl det old rd = true) : FlowOkK ops n free ch tl det old rd := by
  simp only [flowBK, Bool.and_eq_true] at h
  obtain ⟨⟨⟨⟨⟨h1, h2⟩, h6⟩, h3⟩, h4⟩, h5⟩ := h
  have each : ∀ (i : Nat) (o : Oper), ops[i]? = some o → _ := fun i o ho => by
    have hi : i < ops.size := (Array.getElem?_eq_some_iff.1 ho).1
    have h6 := (List.all_eq_true.1 h1) i (List.mem_range.2 hi)
    simp only [ho, Bool.and_eq_true] at h6
    exact h6
  refine ⟨fun i o ho e he hb => ?_, fun i o ho d hd => ?_, fun i o ho hf => ?_, fun i o ho t ht j hj => ?_, fun i o ho t ht hj => ?_, fun i o ho hf t ht hod e he hd => ?_, fun i hi => ?_, fun i hi => ?_, fun j k hj hk => ?_, fun i hi => ?_, fun i hi => ?_, fun j hj i hi => ?_⟩
  · have := (each i o ho).1.1.1
    rw [Array.all_eq_true_iff_forall_mem] at this
    have := this e he
    simpa [hb] using this
  · have := (each i o ho).1.1.2
    simpa [hd] using this
  · have := (each i o ho).1.1.2
    cases hd : o.dst with
    | none => simp [hd, hf] at this
    | some d => exact ⟨d, rfl⟩
  · have := (each i o ho).1.2
    rw [List.all_eq_true] at this
    have := this t ht
    simp only [hj, Bool.and_eq_true] at this
    have h7 := this.1
    cases hwt : old i t with
    | false =>
      rw [hwt] at h7
      exact .inl ⟨rfl, by simpa using h7⟩
    | true =>
      rw [hwt] at h7
      simp only [if_true, Bool.and_eq_true] at h7
      exact .inr ⟨rfl, h7.1, by simpa using h7.2⟩
  · have := (each i o ho).1.2
    rw [List.all_eq_true] at this
    have := this t ht
    simp only [hj, Bool.and_eq_true] at this
    simpa using this.1
  · have := (each i o ho).1.2
    rw [List.all_eq_true] at this
    have := this t ht
    simp only [Bool.and_eq_true, Bool.or_eq_true] at this
    rcases this.2 with (h | h) | h
    · simp [hf] at h
    · rw [hod] at h
      cases h
    · rw [List.all_eq_true] at h
      have h2 := h e he
      simp only [Bool.or_eq_true, List.contains_iff_mem, bne_iff_ne] at h2
      rcases h2 with h2 | h2
      · exact absurd h2 hd
      · exact h2
  · rw [List.all_eq_true] at h6
    simpa using h6 i hi
  · have ho : ops[i]? = some ops[i] := Array.getElem?_eq_getElem hi
    have := (each i _ ho).2
    by_cases a : i ∈ free <;> by_cases b : i ∈ ch <;> simp [a, b] at this ⊢
  · rw [List.all_eq_true] at h2
    have := h2 j (List.mem_range.2 hj)
    rw [List.all_eq_true] at this
    have := this k (List.mem_range.2 hk)
    simpa using this
  · rw [List.all_eq_true] at h3
    simpa using h3 i hi
  · rw [List.all_eq_true] at h4
    simpa using h4 i hi
  · rw [List.all_eq_true] at h5
    have := h5 j (List.mem_range.2 (by omega))
    rw [List.all_eq_true] at this
    have := this i hi
    simp only [Bool.or_eq_true, Bool.and_eq_true, decide_eq_true_eq, List.contains_iff_mem] at this
    rcases this with ((h | h) | h) | h
    · exact .inl h
    · exact .inr (.inl h)
    · exact .inr (.inr (.inl h))
    · exact .inr (.inr (.inr h))

theorem FlowOkK.lt {n : Nat} {free ch tl det : List Nat} {old : Nat → Tmp → Bool} {rd : Nat → List Nat} (hB : FlowOkK ops n free ch tl det old rd) (k : Nat) (hk : k ∈ free ++ det) : k < ops.size := by
  rcases List.mem_append.1 hk with h | h
  · exact hB.freeLt k h
  · exact hB.chLt k (hB.detCh k h)
structure FlowInvK (P : Program) (ops : Array Oper) (free ch det : List Nat) (old : Nat → Tmp → Bool) (rd : Nat → List Nat) (C : Nat → Value) (fin : (Tmp → Value) → World → Prop) (a0 : Act) (j : Nat) (s : Tmp → Value) (listed : Array Bool) (a : Act) (w : World) : Prop where
  stage : j ≤ ch.length
  defers : a.defers = a0.defers
  size : a.tmps.size = a0.tmps.size
  slots : ∀ t, (∀ i, writer ops ops.size t = some i → listed.getD i false = true → a.eval (.tmp t) = s t) ∧ ((∀ i, writer ops ops.size t = some i → listed.getD i false = false) → a.eval (.tmp t) = a0.eval (.tmp t))
  same : ∀ t, (∀ e ∈ ch, e ∉ det → dstOf ops e ≠ some t) → s t = s0 ops (free ++ det) C a0 t
  shut : Shut ops listed
  lsize : listed.size = ops.size
  done : ∀ k, k < ch.length → listed.getD (ch.getD k 0) false = decide (k < j)
  chain : ChainK P ops old a0 det (s0 ops (free ++ det) C a0) C rd fin j (ch.drop j) s w

theorem free_findK {n : Nat} {free ch tl det : List Nat} {old : Nat → Tmp → Bool} {rd : Nat → List Nat} (hB : FlowOkK ops n free ch tl det old rd) {C : Nat → Value} {a0 : Act} {i d : Nat} {o : Oper} (hi : i ∈ free ++ det) (ho : ops[i]? = some o) (hd : o.dst = some d) :
    s0 ops (free ++ det) C a0 d = C i := by
  have hw := (hB.dst i o ho d hd).2
  unfold s0
  cases hf : (free ++ det).find? fun i => dstOf ops i == some d with
  | none =>
    rw [List.find?_eq_none] at hf
    have := hf i hi
    simp [dstOf, ho, hd] at this
  | some k =>
    have h1 := List.find?_some hf
    have h2 : k ∈ free ++ det := List.mem_of_find?_eq_some hf
    simp only [beq_iff_eq] at h1
    have hk : k < ops.size := hB.lt k h2
    have hok : ops[k]? = some ops[k] := Array.getElem?_eq_getElem hk
    have hdk : ops[k].dst = some d := by simpa [dstOf, hok] using h1
    have := (hB.dst k _ hok d hdk).2
    rw [hw] at this
    cases this
    rfl

theorem wpAny_flowK {a0 : Act} {n : Nat} {free ch tl det : List Nat} {old : Nat → Tmp → Bool} {rd : Nat → List Nat} {C : Nat → Value} {fin : (Tmp → Value) → World → Prop} (hB : FlowOkK ops n free ch tl det old rd) (hn : a0.tmps.size = n)
    (htl : ∀ w, allOf (FreeK P ops old a0 (s0 ops (free ++ det) C a0) C w) tl)
    (hfin : ∀ s w (a : Act), fin s w → a.defers = a0.defers → a.tmps.size = n → (∀ t, a.eval (.tmp t) = s t) → (∀ t, writer ops ops.size t = none → s t = a0.eval (.tmp t)) → Q .normal a w) :
    ∀ fuel listed j s a w, left listed = fuel → FlowInvK P ops free ch det old rd C fin a0 j s listed a w → wpAny P .any ops Q fuel listed a w := by
  have base : ∀ (listed : Array Bool) j s a w, FlowInvK P ops free ch det old rd C fin a0 j s listed a w → ∀ t, writer ops ops.size t = none → s t = a0.eval (.tmp t) := by
    intro listed j s a w h t hw
    have hno : ∀ i, i < ops.size → dstOf ops i ≠ some t := by
      intro i hi e
      have ho : ops[i]? = some ops[i] := Array.getElem?_eq_getElem hi
      have hd : ops[i].dst = some t := by simpa [dstOf, ho] using e
      have := (hB.dst i _ ho t hd).2
      rw [hw] at this
      cases this
    rw [h.same t fun e he => fun _ => hno e (hB.chLt e he)]
    unfold s0
    cases hf : (free ++ det).find? fun i => dstOf ops i == some t with
    | none => rfl
    | some k =>
      exfalso
      have h1 := List.find?_some hf
      simp only [beq_iff_eq] at h1
      exact hno k (hB.lt k (List.mem_of_find?_eq_some hf)) h1
  have last : ∀ (listed : Array Bool) j s a w, FlowInvK P ops free ch det old rd C fin a0 j s listed a w → (∀ i, i < ops.size → listed.getD i false = true) → Q .normal a w := by
    intro listed j s a w h hall
    have hj : j = ch.length := by
      rcases Nat.lt_or_ge j ch.length with hlt | hge
      · have h1 := h.done j hlt
        have hm : ch.getD j 0 ∈ ch := by simp [hlt]
        rw [hall _ (hB.chLt _ hm)] at h1
        simp at h1
      · have := h.stage; omega
    subst hj
    have hc := h.chain
    rw [List.drop_length] at hc
    refine hfin s w a hc.2 h.defers (h.size.trans hn) (fun t => ?_) (fun t hw => ?_)
    · cases hw : writer ops ops.size t with
      | none => exact ((h.slots t).2 (fun i hi => by rw [hw] at hi; cases hi)).trans (base listed _ s a w h t hw).symm
      | some i => exact (h.slots t).1 i hw (hall i (List.mem_range.1 (List.mem_of_find?_eq_some hw)))
    · exact base listed _ s a w h t hw
  have readyNil : ∀ (listed : Array Bool), listed.size = ops.size → Region.ready .any ops listed = [] → ∀ i, i < ops.size → listed.getD i false = true := by
    intro listed hl h i
    induction i using Nat.strongRecOn with
    | _ i ih =>
      intro hi
      cases hg : listed.getD i false with
      | true => rfl
      | false =>
        exfalso
        have ho : ops[i]? = some ops[i] := Array.getElem?_eq_getElem hi
        have hr : i ∈ Region.ready .any ops listed := by
          rw [mem_ready]
          refine ⟨?_, ops[i], ho, fun e he hb => ?_⟩
          · have : listed[i]? = some (listed[i]'(by omega)) := Array.getElem?_eq_getElem (by omega)
            simp [this] at hg ⊢
            exact hg
          · have h2 := hB.back i _ ho e he hb
            exact ih e.on h2 (by omega)
        rw [h] at hr
        cases hr
  intro fuel
  induction fuel with
  | zero =>
    intro listed j s a w hl h
    have hall := fun i (hi : i < ops.size) => left_zero hl i (by rw [h.lsize]; exact hi)
    refine ⟨?_, last listed j s a w h hall⟩
    cases hr : Region.ready .any ops listed with
    | nil => rfl
    | cons x xs =>
      exfalso
      have hx : x ∈ Region.ready .any ops listed := by rw [hr]; simp
      obtain ⟨hun, ox, hox, _⟩ := mem_ready.1 hx
      have hxs : x < ops.size := (Array.getElem?_eq_some_iff.1 hox).1
      have h4 := hall x hxs
      have hxl : x < listed.size := by rw [h.lsize]; exact hxs
      simp [hxl] at h4 hun
      rw [h4] at hun
      cases hun
  | succ fuel ih =>
    intro listed j s a w hl h
    refine ⟨fun hr => last listed j s a w h (readyNil listed h.lsize hr), fun i hi => ?_⟩
    obtain ⟨hun, o, ho, hall⟩ := mem_ready.1 hi
    have his : i < ops.size := (Array.getElem?_eq_some_iff.1 ho).1
    have hil : i < listed.size := by rw [h.lsize]; exact his
    have hif : listed.getD i false = false := by simp [hil] at hun ⊢; exact hun
    have hleft := left_set hun
    have hlook : ∀ t ∈ o.looksAt ops, a.eval (.tmp t) = lk old a0 s i t := by
      intro t ht
      cases hw : writer ops ops.size t with
      | none =>
        have e1 : old i t = false := hB.lookNone i o ho t ht hw
        unfold lk
        rw [e1]
        exact ((h.slots t).2 (fun k hk => by rw [hw] at hk; cases hk)).trans (base listed j s a w h t hw).symm
      | some k =>
        rcases hB.look i o ho t ht k hw with ⟨e1, h1⟩ | ⟨e1, h2, h3⟩
        · unfold lk
          rw [e1]
          obtain ⟨o', ho', e, he, hb, rfl⟩ := waits_spec h1
          rw [ho] at ho'
          cases ho'
          exact (h.slots t).1 _ hw (hall e he hb)
        · unfold lk
          rw [e1]
          refine (h.slots t).2 fun k' hk' => ?_
          rw [hw] at hk'
          cases hk'
          cases hlk : listed.getD k false with
          | false => rfl
          | true =>
            have := tw_listed h.shut _ _ _ h2 hlk
            rw [hif] at this
            cases this
    have hshut : Shut ops (listed.setIfInBounds i true) := by
      intro k ok hk hlk e he hb
      by_cases hik : i = k
      · subst hik
        rw [ho] at hk
        cases hk
        exact getD_set_true (hall e he hb)
      · rw [getD_set_ne false hik] at hlk
        exact getD_set_true (h.shut k ok hk hlk e he hb)
    have hwr : ∀ t k, writer ops ops.size t = some k → k ≠ i → ∀ d, o.dst = some d → d ≠ t := by
      intro t k hk hne d hd e
      subst e
      rw [(hB.dst i o ho d hd).2] at hk
      exact hne (Option.some.inj hk).symm
    have hlow : ∀ t, (∀ k, writer ops ops.size t = some k → (listed.setIfInBounds i true).getD k false = false) → ∀ k, writer ops ops.size t = some k → listed.getD k false = false := by
      intro t hk k hw
      have h1 := hk k hw
      by_cases hik : i = k
      · subst hik
        exact hif
      · rwa [getD_set_ne false hik] at h1
    unfold wpOp
    simp only [ho]
    rcases hB.part i his with ⟨hfr, hnc⟩ | ⟨hnf, hch⟩
    · -- a free one
      have hF : FreeK P ops old a0 (s0 ops (free ++ det) C a0) C w i := by
        rcases hB.cover j h.stage i hfr with h1 | h1 | ⟨h0, h1⟩ | ⟨h0, h1⟩
        · exact allOf_mem (htl w) i h1
        · exact allOf_mem h.chain.reads i h1
        · exfalso
          have h2 := h.done (j - 1) (by have := h.stage; omega)
          rw [decide_eq_true (by omega)] at h2
          have := tw_listed h.shut _ _ _ h1 h2
          rw [hif] at this
          cases this
        · exfalso
          have h2 := h.done j h0
          rw [decide_eq_false (by omega)] at h2
          have hm : ch.getD j 0 ∈ ch := by simp [h0]
          have hne : i ≠ ch.getD j 0 := fun e => hnc (e ▸ hm)
          have := tw_ready h.shut h1 hne hi
          rw [h2] at this
          cases this
      obtain ⟨o', ho', hp⟩ := hF
      rw [ho] at ho'
      cases ho'
      obtain ⟨d, hd⟩ := hB.freeDst i o ho hfr
      obtain ⟨hdn, hdw⟩ := hB.dst i o ho d hd
      have hlook0 : ∀ t ∈ o.looksAt ops, a.eval (.tmp t) = lk old a0 (s0 ops (free ++ det) C a0) i t := fun t ht => by
        rw [hlook t ht]
        unfold lk
        cases ho2 : old i t with
        | true => rfl
        | false => exact h.same t (hB.lookFree i o ho hfr t ht ho2)
      have next : FlowInvK P ops free ch det old rd C fin a0 j s (listed.setIfInBounds i true) (a.put o.dst (C i)) w := by
        refine ⟨h.stage, (put_defers _ _ _).trans h.defers, by rw [hd]; simp [Act.put, h.size], fun t => ?_, h.same, hshut, by simp [h.lsize], fun k hk => ?_, h.chain⟩
        · rw [hd]
          by_cases hdt : d = t
          · subst hdt
            rw [eval_put_same (by rw [h.size, hn]; exact hdn)]
            have e : s d = C i := (h.same d (fun e he _ hde => by
              have hk : e < ops.size := hB.chLt e he
              have hok : ops[e]? = some ops[e] := Array.getElem?_eq_getElem hk
              have hdk : ops[e].dst = some d := by simpa [dstOf, hok] using hde
              have := (hB.dst e _ hok d hdk).2
              rw [hdw] at this
              cases this
              exact hnc he)).trans (free_findK hB (List.mem_append.2 (.inl hfr)) ho hd)
            exact ⟨fun _ _ _ => e.symm, fun hk => by have := hk i hdw; simp [hil] at this⟩
          · rw [eval_put_ne hdt]
            refine ⟨fun k hk hlk => ?_, fun hk => (h.slots t).2 (hlow t hk)⟩
            by_cases hki : k = i
            · subst hki
              exfalso
              rw [writer] at hk
              have := List.find?_some hk
              simp [ho, hd] at this
              exact hdt this
            · rw [getD_set_ne false (fun e => hki e.symm)] at hlk
              exact (h.slots t).1 k hk hlk
        · rw [getD_set_ne false (fun e => hnc (by rw [e]; simp [hk]))]
          exact h.done k hk
      rcases hp a hlook0 with ⟨hw, hrun⟩ | ⟨hw, hu⟩
      · simp only [hw, if_true]
        refine .inl ?_
        unfold Oper.wp
        rw [hrun]
        exact ih _ j s _ w (by omega) next
      · simp only [hw, Bool.false_eq_true, if_false]
        rw [hu] at next
        exact ih _ j s _ w (by omega) next
    · -- the chain's next
      have hjl : j < ch.length ∧ ch.getD j 0 = i := by
        obtain ⟨k, hk, hke⟩ := List.mem_iff_getElem.1 hch
        have hkg : ch.getD k 0 = i := by simp [hk, hke]
        have h1 := h.done k hk
        rw [hkg, hif] at h1
        have hjk : j ≤ k := by
          have := (decide_eq_false_iff_not.1 h1.symm)
          omega
        rcases Nat.lt_or_ge j k with hlt | hge
        · exfalso
          obtain ⟨h2, h3⟩ := hB.order k j hk hlt
          rw [hkg] at h2 h3
          have := tw_ready h.shut h2 h3 hi
          rw [h.done j (by omega)] at this
          simp at this
        · have : j = k := by omega
          subst this
          exact ⟨hk, hkg⟩
      obtain ⟨hjl, hji⟩ := hjl
      have hc := h.chain
      have hdrop : ch.drop j = i :: ch.drop (j + 1) := by
        rw [List.drop_eq_getElem_cons hjl]
        congr 1
        simpa [hjl] using hji
      rw [hdrop] at hc
      obtain ⟨hrd, o', ho', hstep⟩ := hc
      rw [ho] at ho'
      cases ho'
      obtain ⟨hw, heff⟩ := hstep a hlook
      simp only [hw, if_true]
      refine .inl (heff _ _ fun v w' hcw0 => ih _ (j + 1) (setS s o.dst v) _ w' (by omega) ?_)
      obtain ⟨hdet, hcw⟩ := hcw0
      refine ⟨hjl, (put_defers _ _ _).trans h.defers, ?_, fun t => ?_, fun t ht => ?_, hshut, by simp [h.lsize], fun k hk => ?_, hcw⟩
      · cases hd : o.dst <;> simp [Act.put, h.size]
      · cases hd : o.dst with
        | none =>
          have e : a.put none v = a := rfl
          rw [e]
          have e2 : setS s none v = s := by funext t; simp [setS]
          rw [e2]
          refine ⟨fun k hk hlk => ?_, fun hk => (h.slots t).2 (hlow t hk)⟩
          by_cases hki : k = i
          · subst hki
            exfalso
            rw [writer] at hk
            have := List.find?_some hk
            simp [ho, hd] at this
          · rw [getD_set_ne false (fun e => hki e.symm)] at hlk
            exact (h.slots t).1 k hk hlk
        | some d =>
          obtain ⟨hdn, hdw⟩ := hB.dst i o ho d hd
          by_cases hdt : d = t
          · subst hdt
            rw [eval_put_same (by rw [h.size, hn]; exact hdn)]
            exact ⟨fun _ _ _ => by simp [setS], fun hk => by have := hk i hdw; simp [hil] at this⟩
          · rw [eval_put_ne hdt]
            have e : setS s (some d) v t = s t := by simp [setS, hdt]
            rw [e]
            refine ⟨fun k hk hlk => ?_, fun hk => (h.slots t).2 (hlow t hk)⟩
            by_cases hki : k = i
            · subst hki
              exfalso
              rw [hdw.symm.trans rfl] at hdw
              rw [writer] at hk
              have := List.find?_some hk
              simp [ho, hd] at this
              exact hdt this
            · rw [getD_set_ne false (fun e => hki e.symm)] at hlk
              exact (h.slots t).1 k hk hlk
      · by_cases hdt : o.dst = some t
        · have hid : i ∈ det := Classical.byContradiction fun hn => ht i hch hn (by simp [dstOf, ho, hdt])
          rw [free_findK hB (List.mem_append.2 (.inr hid)) ho hdt]
          rw [← hdet (by simpa using hid)]
          simp [setS, hdt]
        · rw [← h.same t ht]
          simp [setS, hdt]
      · by_cases hkj : k = j
        · subst hkj
          rw [hji]
          simp [hil]
        · have hne : i ≠ ch.getD k 0 := by
            intro e
            rw [← hji] at e
            rcases Nat.lt_or_ge k j with h1 | h1
            · exact (hB.order j k hjl h1).2 e
            · exact (hB.order k j hk (by omega)).2 e.symm
          rw [getD_set_ne false hne, h.done k hk]
          have : (k < j) ↔ (k < j + 1) := by omega
          simp only [this]

/-- **THE REGION**, its end as the walk has it. -/
theorem wp_region_chainK {id : Nat} {a : Act} {w : World} (n : Nat) (free ch tl det : List Nat) (old : Nat → Tmp → Bool) (ts : List Tmp) (rd : Nat → List Nat) (C : Nat → Value) (hm : P.follows .mixedOrders = true) (hB : flowBK ops n free ch tl det old rd = true)
    (ht : ((List.range n).all fun t => writer ops ops.size t == none || ts.contains t) = true) (hn : a.tmps.size = n)
    (htl : ∀ w, allOf (FreeK P ops old a (s0 ops (free ++ det) C a) C w) tl)
    (hc : ChainK P ops old a det (s0 ops (free ++ det) C a) C rd (fun s w => ∀ s', (∀ t ∈ ts, s' t = s t) → Q .normal (putAll a s' ts) w) 0 ch (s0 ops (free ++ det) C a) w.drew) :
    (Code.region id ops true).wp P Q a w := by
  refine wp_region_any hm ?_
  have hok := flowBK_spec hB
  have hz : ∀ j, (Array.replicate ops.size false).getD j false = false := by
    intro j
    by_cases hj : j < ops.size <;> simp [hj]
  refine wpAny_flowK (a0 := a) hok hn htl (fun s w' a' hf hd hs hslot hno => ?_) ops.size _ 0 (s0 ops (free ++ det) C a) a _ (by unfold left; rw [Array.toList_replicate, List.countP_replicate, if_pos (by rfl)])
    ⟨Nat.zero_le _, rfl, rfl, fun t => ⟨(fun i _ hl => by rw [hz i] at hl; cases hl), fun _ => rfl⟩, fun t _ => rfl, (fun i o _ hl => by rw [hz i] at hl; cases hl), by simp, (fun k hk => by rw [hz]; simp), hc⟩
  have ha : a' = putAll a s ts := by
    refine act_ext (hd.trans (putAll_defers _ _ _).symm) (by rw [hs, putAll_size, hn]) fun t h1 => ?_
    have h1 : t < n := by rw [hs] at h1; exact h1
    rw [hslot t, putAll_eval s ts a t (by rw [hn]; exact h1)]
    by_cases hts : t ∈ ts
    · rw [if_pos hts]
    · rw [if_neg hts]
      rw [List.all_eq_true] at ht
      have := ht t (List.mem_range.2 h1)
      simp only [Bool.or_eq_true, beq_iff_eq, List.contains_iff_mem] at this
      rcases this with h | h
      · exact hno t h
      · exact absurd h hts
  rw [ha]
  exact hf s fun t _ => rfl
end
end Go.Proofs.YtpeioflembhedaaDoor
