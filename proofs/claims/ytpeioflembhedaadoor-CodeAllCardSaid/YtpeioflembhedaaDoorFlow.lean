/-
  A region that draws its order: a chain of operations that may do anything, one behind the other, and free operations among them whose results are known ahead: whatever the order, it goes as the chain goes. No conditions; no program is named here.
-/
import Derived.Test.YtpeioflembhedaaDoorGrow
namespace Go.Proofs.YtpeioflembhedaaDoor
open Go.RowKit

/-- Operation p is i, or waits for it, straight or through others. -/
def tw (ops : Array Oper) : Nat → Nat → Nat → Bool
  | 0, p, i => p == i
  | f + 1, p, i => p == i || (match ops[p]? with
    | none => false
    | some o => o.after.any fun e => Region.binds .any e && tw ops f e.on i)

/-- An operation, carried out at a frame and a world: what is known of its result and of the world behind it. -/
def effAt (P : Program) (o : Oper) (a : Act) (w : World) (Φ : Post) : Prop :=
  ∀ (K : Act → World → Prop) (Q : Exit → Act → World → Prop), (∀ v w', Φ v w' → K (a.put o.dst v) w') → o.wp P a w K Q
/-- An operation that leaves the world alone and whose result is known; or that is not wanted. -/
def pureAt (P : Program) (ops : Array Oper) (o : Oper) (a : Act) (w : World) (c : Value) : Prop :=
  (Region.wanted o (yielded ops a.tmps) = true ∧ (execOp a.eval o).run P w = .ok (.value c) w) ∨ (Region.wanted o (yielded ops a.tmps) = false ∧ c = undef)

def allOf (S : Nat → Prop) : List Nat → Prop
  | [] => True
  | i :: l => S i ∧ allOf S l
theorem allOf_mem {S : Nat → Prop} : ∀ {l : List Nat}, allOf S l → ∀ i ∈ l, S i
  | _ :: _, h, i, hi => by
    rcases List.mem_cons.1 hi with rfl | hi
    · exact h.1
    · exact allOf_mem h.2 i hi

def setS (s : Tmp → Value) (d : Option Tmp) (v : Value) : Tmp → Value := fun t => if d = some t then v else s t
/-- Which temporaries an operation writes. -/
def dstOf (ops : Array Oper) (i : Nat) : Option Tmp := (ops[i]?).bind (·.dst)
/-- The temporaries once all free operations are through, and none of the chain. -/
def s0 (ops : Array Oper) (free : List Nat) (C : Nat → Value) (a0 : Act) : Tmp → Value := fun t => match free.find? fun i => dstOf ops i == some t with
  | some i => C i
  | none => a0.eval (.tmp t)

/-- What is asked of a free operation at a world. -/
def Free (P : Program) (ops : Array Oper) (s : Tmp → Value) (C : Nat → Value) (w : World) (i : Nat) : Prop :=
  ∃ o, ops[i]? = some o ∧ ∀ a : Act, (∀ t ∈ o.looksAt ops, a.eval (.tmp t) = s t) → pureAt P ops o a w (C i)

/-- The chain from its stage on: at each stage the free operations that may still come are as known. -/
def Chain (P : Program) (ops : Array Oper) (s0 : Tmp → Value) (C : Nat → Value) (rd : Nat → List Nat) (fin : (Tmp → Value) → World → Prop) : Nat → List Nat → (Tmp → Value) → World → Prop
  | j, [], s, w => allOf (Free P ops s0 C w) (rd j) ∧ fin s w
  | j, e :: es, s, w => allOf (Free P ops s0 C w) (rd j) ∧ ∃ o, ops[e]? = some o ∧ ∀ a : Act, (∀ t ∈ o.looksAt ops, a.eval (.tmp t) = s t) →
      Region.wanted o (yielded ops a.tmps) = true ∧ effAt P o a w fun v w' => Chain P ops s0 C rd fin (j + 1) es (setS s o.dst v) w'
theorem Chain.reads {P : Program} {ops : Array Oper} {z : Tmp → Value} {C : Nat → Value} {rd : Nat → List Nat} {fin : (Tmp → Value) → World → Prop} {j : Nat} {es : List Nat} {s : Tmp → Value} {w : World} (h : Chain P ops z C rd fin j es s w) :
    allOf (Free P ops z C w) (rd j) := by
  cases es with
  | nil => exact h.1
  | cons e es => exact h.1

/-- The chain's next one, at each stage. -/
def flowB (ops : Array Oper) (n : Nat) (free ch tl : List Nat) (rd : Nat → List Nat) : Bool :=
  ((List.range ops.size).all fun i => match ops[i]? with
    | none => true
    | some o =>
      (o.after.all fun e => !Region.binds .any e || e.on < i) &&
      (match o.dst with
        | none => !free.contains i
        | some d => d < n && writer ops ops.size d == some i) &&
      ((o.looksAt ops).all fun t => (match writer ops ops.size t with
        | none => true
        | some j => waits ops i j) && (!free.contains i || ch.all fun e => dstOf ops e != some t)) &&
      (free.contains i != ch.contains i)) &&
  ((List.range ch.length).all fun j => (List.range j).all fun k => tw ops ops.size (ch.getD j 0) (ch.getD k 0) && !(ch.getD j 0 == ch.getD k 0)) &&
  (free.all fun i => decide (i < ops.size)) && (ch.all fun i => decide (i < ops.size)) &&
  ((List.range (ch.length + 1)).all fun j => free.all fun i => tl.contains i || (rd j).contains i || (decide (0 < j) && tw ops ops.size (ch.getD (j - 1) 0) i) || (decide (j < ch.length) && tw ops ops.size i (ch.getD j 0)))

section
variable {P : Program} {ops : Array Oper} {Q : Exit → Act → World → Prop}

structure FlowOk (ops : Array Oper) (n : Nat) (free ch tl : List Nat) (rd : Nat → List Nat) : Prop where
  back : ∀ (i : Nat) (o : Oper), ops[i]? = some o → ∀ e ∈ o.after, Region.binds .any e = true → e.on < i
  dst : ∀ (i : Nat) (o : Oper), ops[i]? = some o → ∀ d, o.dst = some d → d < n ∧ writer ops ops.size d = some i
  freeDst : ∀ (i : Nat) (o : Oper), ops[i]? = some o → i ∈ free → ∃ d, o.dst = some d
  look : ∀ (i : Nat) (o : Oper), ops[i]? = some o → ∀ t ∈ o.looksAt ops, ∀ j, writer ops ops.size t = some j → ∃ e ∈ o.after, Region.binds .any e = true ∧ e.on = j
  lookFree : ∀ (i : Nat) (o : Oper), ops[i]? = some o → i ∈ free → ∀ t ∈ o.looksAt ops, ∀ e ∈ ch, dstOf ops e ≠ some t
  part : ∀ i, i < ops.size → (i ∈ free ∧ i ∉ ch) ∨ (i ∉ free ∧ i ∈ ch)
  order : ∀ j k, j < ch.length → k < j → tw ops ops.size (ch.getD j 0) (ch.getD k 0) = true ∧ ch.getD j 0 ≠ ch.getD k 0
  freeLt : ∀ i ∈ free, i < ops.size
  chLt : ∀ i ∈ ch, i < ops.size
  cover : ∀ j, j ≤ ch.length → ∀ i ∈ free, i ∈ tl ∨ i ∈ rd j ∨ (0 < j ∧ tw ops ops.size (ch.getD (j - 1) 0) i = true) ∨ (j < ch.length ∧ tw ops ops.size i (ch.getD j 0) = true)

theorem flowB_spec {n : Nat} {free ch tl : List Nat} {rd : Nat → List Nat} (h : flowB ops n free ch tl rd = true) : FlowOk ops n free ch tl rd := by
  simp only [flowB, Bool.and_eq_true] at h
  obtain ⟨⟨⟨⟨h1, h2⟩, h3⟩, h4⟩, h5⟩ := h
  have each : ∀ (i : Nat) (o : Oper), ops[i]? = some o → _ := fun i o ho => by
    have hi : i < ops.size := (Array.getElem?_eq_some_iff.1 ho).1
    have h6 := (List.all_eq_true.1 h1) i (List.mem_range.2 hi)
    simp only [ho, Bool.and_eq_true] at h6
    exact h6
  refine ⟨fun i o ho e he hb => ?_, fun i o ho d hd => ?_, fun i o ho hf => ?_, fun i o ho t ht j hj => ?_, fun i o ho hf t ht e he => ?_, fun i hi => ?_, fun j k hj hk => ?_, fun i hi => ?_, fun i hi => ?_, fun j hj i hi => ?_⟩
  · have := (each i o ho).1.1.1
    rw [Array.all_eq_true_iff_forall_mem] at this
    have := this e he
    simpa [hb] using this
  · have := (each i o ho).1.1.2
    simpa [hd] using this
  · have := (each i o ho).1.1.2
    cases hd : o.dst with
    | none => simp [hd, hf] at this
    | some d => exact ⟨d, rfl⟩
  · have := (each i o ho).1.2
    rw [List.all_eq_true] at this
    have := this t ht
    simp only [hj, Bool.and_eq_true] at this
    obtain ⟨o', ho', r⟩ := waits_spec this.1
    rw [ho] at ho'
    cases ho'
    exact r
  · have := (each i o ho).1.2
    rw [List.all_eq_true] at this
    have := this t ht
    simp only [Bool.and_eq_true, Bool.or_eq_true] at this
    rcases this.2 with h | h
    · simp [hf] at h
    · rw [List.all_eq_true] at h
      simpa using h e he
  · have ho : ops[i]? = some ops[i] := Array.getElem?_eq_getElem hi
    have := (each i _ ho).2
    by_cases a : i ∈ free <;> by_cases b : i ∈ ch <;> simp [a, b] at this ⊢
  · rw [List.all_eq_true] at h2
    have := h2 j (List.mem_range.2 hj)
    rw [List.all_eq_true] at this
    have := this k (List.mem_range.2 hk)
    simpa using this
  · rw [List.all_eq_true] at h3
    simpa using h3 i hi
  · rw [List.all_eq_true] at h4
    simpa using h4 i hi
  · rw [List.all_eq_true] at h5
    have := h5 j (List.mem_range.2 (by omega))
    rw [List.all_eq_true] at this
    have := this i hi
    simp only [Bool.or_eq_true, Bool.and_eq_true, decide_eq_true_eq, List.contains_iff_mem] at this
    rcases this with ((h | h) | h) | h
    · exact .inl h
    · exact .inr (.inl h)
    · exact .inr (.inr (.inl h))
    · exact .inr (.inr (.inr h))

/-- What is through is shut: whatever a listed operation waits for is listed. -/
def Shut (ops : Array Oper) (listed : Array Bool) : Prop := ∀ (i : Nat) (o : Oper), ops[i]? = some o → listed.getD i false = true → ∀ e ∈ o.after, Region.binds .any e = true → listed.getD e.on false = true
theorem tw_listed {listed : Array Bool} (hs : Shut ops listed) : ∀ f p i, tw ops f p i = true → listed.getD p false = true → listed.getD i false = true
  | 0, p, i, h, hp => by
    have : p = i := by simpa [tw] using h
    rw [← this]; exact hp
  | f + 1, p, i, h, hp => by
    simp only [tw, Bool.or_eq_true] at h
    rcases h with h | h
    · have : p = i := by simpa using h
      rw [← this]; exact hp
    · cases ho : ops[p]? with
      | none => simp [ho] at h
      | some o =>
        simp only [ho] at h
        rw [← Array.any_toList, List.any_eq_true] at h
        obtain ⟨e, he, hq⟩ := h
        simp only [Bool.and_eq_true] at hq
        exact tw_listed hs f e.on i hq.2 (hs p o ho hp e (by simpa using he) hq.1)
theorem tw_ready {listed : Array Bool} (hs : Shut ops listed) {f p i : Nat} (h : tw ops f p i = true) (hne : p ≠ i) (hr : p ∈ Region.ready .any ops listed) : listed.getD i false = true := by
  obtain ⟨_, o, ho, hall⟩ := mem_ready.1 hr
  cases f with
  | zero => exact absurd (by simpa [tw] using h) hne
  | succ f =>
    simp only [tw, Bool.or_eq_true] at h
    rcases h with h | h
    · exact absurd (by simpa using h) hne
    · simp only [ho] at h
      rw [← Array.any_toList, List.any_eq_true] at h
      obtain ⟨e, he, hq⟩ := h
      simp only [Bool.and_eq_true] at hq
      exact tw_listed hs f e.on i hq.2 (hall e (by simpa using he) hq.1)

structure FlowInv (P : Program) (ops : Array Oper) (free ch : List Nat) (rd : Nat → List Nat) (C : Nat → Value) (fin : (Tmp → Value) → World → Prop) (a0 : Act) (j : Nat) (s : Tmp → Value) (listed : Array Bool) (a : Act) (w : World) : Prop where
  stage : j ≤ ch.length
  defers : a.defers = a0.defers
  size : a.tmps.size = a0.tmps.size
  slots : ∀ t, (∀ i, writer ops ops.size t = some i → listed.getD i false = true → a.eval (.tmp t) = s t) ∧ (writer ops ops.size t = none → a.eval (.tmp t) = s t)
  same : ∀ t, (∀ e ∈ ch, dstOf ops e ≠ some t) → s t = s0 ops free C a0 t
  shut : Shut ops listed
  lsize : listed.size = ops.size
  done : ∀ k, k < ch.length → listed.getD (ch.getD k 0) false = decide (k < j)
  chain : Chain P ops (s0 ops free C a0) C rd fin j (ch.drop j) s w

theorem put_defers (a : Act) (d : Option Tmp) (v : Value) : (a.put d v).defers = a.defers := by cases d <;> rfl
theorem getD_of_get {l : List Nat} {k x : Nat} (h : l[k]? = some x) : l.getD k 0 = x := by simp [h]
theorem free_find {n : Nat} {free ch tl : List Nat} {rd : Nat → List Nat} (hB : FlowOk ops n free ch tl rd) {C : Nat → Value} {a0 : Act} {i d : Nat} {o : Oper} (hi : i ∈ free) (ho : ops[i]? = some o) (hd : o.dst = some d) :
    s0 ops free C a0 d = C i := by
  have hw := (hB.dst i o ho d hd).2
  unfold s0
  cases hf : free.find? fun i => dstOf ops i == some d with
  | none =>
    rw [List.find?_eq_none] at hf
    have := hf i hi
    simp [dstOf, ho, hd] at this
  | some k =>
    have h1 := List.find?_some hf
    have h2 : k ∈ free := List.mem_of_find?_eq_some hf
    simp only [beq_iff_eq] at h1
    have hk : k < ops.size := hB.freeLt k h2
    have hok : ops[k]? = some ops[k] := Array.getElem?_eq_getElem hk
    have hdk : ops[k].dst = some d := by simpa [dstOf, hok] using h1
    have := (hB.dst k _ hok d hdk).2
    rw [hw] at this
    cases this
    rfl

theorem wpAny_flow {a0 : Act} {n : Nat} {free ch tl : List Nat} {rd : Nat → List Nat} {C : Nat → Value} {fin : (Tmp → Value) → World → Prop} (hB : FlowOk ops n free ch tl rd) (hn : a0.tmps.size = n)
    (htl : ∀ w, allOf (Free P ops (s0 ops free C a0) C w) tl)
    (hfin : ∀ s w (a : Act), fin s w → a.defers = a0.defers → a.tmps.size = n → (∀ t, a.eval (.tmp t) = s t) → (∀ t, writer ops ops.size t = none → s t = a0.eval (.tmp t)) → Q .normal a w) :
    ∀ fuel listed j s a w, left listed = fuel → FlowInv P ops free ch rd C fin a0 j s listed a w → wpAny P .any ops Q fuel listed a w := by
  have last : ∀ (listed : Array Bool) j s a w, FlowInv P ops free ch rd C fin a0 j s listed a w → (∀ i, i < ops.size → listed.getD i false = true) → Q .normal a w := by
    intro listed j s a w h hall
    have hj : j = ch.length := by
      rcases Nat.lt_or_ge j ch.length with hlt | hge
      · have h1 := h.done j hlt
        have hm : ch.getD j 0 ∈ ch := by simp [hlt]
        rw [hall _ (hB.chLt _ hm)] at h1
        simp at h1
      · have := h.stage; omega
    subst hj
    have hc := h.chain
    rw [List.drop_length] at hc
    refine hfin s w a hc.2 h.defers (h.size.trans hn) (fun t => ?_) (fun t hw => ?_)
    · cases hw : writer ops ops.size t with
      | none => exact (h.slots t).2 hw
      | some i => exact (h.slots t).1 i hw (hall i (List.mem_range.1 (List.mem_of_find?_eq_some hw)))
    · have hno : ∀ i, i < ops.size → dstOf ops i ≠ some t := by
        intro i hi e
        have ho : ops[i]? = some ops[i] := Array.getElem?_eq_getElem hi
        have hd : ops[i].dst = some t := by simpa [dstOf, ho] using e
        have := (hB.dst i _ ho t hd).2
        rw [hw] at this
        cases this
      rw [h.same t fun e he => hno e (hB.chLt e he)]
      unfold s0
      cases hf : free.find? fun i => dstOf ops i == some t with
      | none => rfl
      | some k =>
        exfalso
        have h1 := List.find?_some hf
        simp only [beq_iff_eq] at h1
        exact hno k (hB.freeLt k (List.mem_of_find?_eq_some hf)) h1
  have readyNil : ∀ (listed : Array Bool), listed.size = ops.size → Region.ready .any ops listed = [] → ∀ i, i < ops.size → listed.getD i false = true := by
    intro listed hl h i
    induction i using Nat.strongRecOn with
    | _ i ih =>
      intro hi
      cases hg : listed.getD i false with
      | true => rfl
      | false =>
        exfalso
        have ho : ops[i]? = some ops[i] := Array.getElem?_eq_getElem hi
        have hr : i ∈ Region.ready .any ops listed := by
          rw [mem_ready]
          refine ⟨?_, ops[i], ho, fun e he hb => ?_⟩
          · have : listed[i]? = some (listed[i]'(by omega)) := Array.getElem?_eq_getElem (by omega)
            simp [this] at hg ⊢
            exact hg
          · have h2 := hB.back i _ ho e he hb
            exact ih e.on h2 (by omega)
        rw [h] at hr
        cases hr
  intro fuel
  induction fuel with
  | zero =>
    intro listed j s a w hl h
    have hall := fun i (hi : i < ops.size) => left_zero hl i (by rw [h.lsize]; exact hi)
    refine ⟨?_, last listed j s a w h hall⟩
    cases hr : Region.ready .any ops listed with
    | nil => rfl
    | cons x xs =>
      exfalso
      have hx : x ∈ Region.ready .any ops listed := by rw [hr]; simp
      obtain ⟨hun, ox, hox, _⟩ := mem_ready.1 hx
      have hxs : x < ops.size := (Array.getElem?_eq_some_iff.1 hox).1
      have h4 := hall x hxs
      have hxl : x < listed.size := by rw [h.lsize]; exact hxs
      simp [hxl] at h4 hun
      rw [h4] at hun
      cases hun
  | succ fuel ih =>
    intro listed j s a w hl h
    refine ⟨fun hr => last listed j s a w h (readyNil listed h.lsize hr), fun i hi => ?_⟩
    obtain ⟨hun, o, ho, hall⟩ := mem_ready.1 hi
    have his : i < ops.size := (Array.getElem?_eq_some_iff.1 ho).1
    have hil : i < listed.size := by rw [h.lsize]; exact his
    have hif : listed.getD i false = false := by simp [hil] at hun ⊢; exact hun
    have hleft := left_set hun
    have hlook : ∀ t ∈ o.looksAt ops, a.eval (.tmp t) = s t := by
      intro t ht
      cases hw : writer ops ops.size t with
      | none => exact (h.slots t).2 hw
      | some k =>
        obtain ⟨e, he, hb, rfl⟩ := hB.look i o ho t ht k hw
        exact (h.slots t).1 _ hw (hall e he hb)
    have hshut : Shut ops (listed.setIfInBounds i true) := by
      intro k ok hk hlk e he hb
      by_cases hik : i = k
      · subst hik
        rw [ho] at hk
        cases hk
        exact getD_set_true (hall e he hb)
      · rw [getD_set_ne false hik] at hlk
        exact getD_set_true (h.shut k ok hk hlk e he hb)
    have hwr : ∀ t k, writer ops ops.size t = some k → k ≠ i → ∀ d, o.dst = some d → d ≠ t := by
      intro t k hk hne d hd e
      subst e
      rw [(hB.dst i o ho d hd).2] at hk
      exact hne (Option.some.inj hk).symm
    unfold wpOp
    simp only [ho]
    rcases hB.part i his with ⟨hfr, hnc⟩ | ⟨hnf, hch⟩
    · -- a free one
      have hF : Free P ops (s0 ops free C a0) C w i := by
        rcases hB.cover j h.stage i hfr with h1 | h1 | ⟨h0, h1⟩ | ⟨h0, h1⟩
        · exact allOf_mem (htl w) i h1
        · exact allOf_mem h.chain.reads i h1
        · exfalso
          have h2 := h.done (j - 1) (by have := h.stage; omega)
          rw [decide_eq_true (by omega)] at h2
          have := tw_listed h.shut _ _ _ h1 h2
          rw [hif] at this
          cases this
        · exfalso
          have h2 := h.done j h0
          rw [decide_eq_false (by omega)] at h2
          have hm : ch.getD j 0 ∈ ch := by simp [h0]
          have hne : i ≠ ch.getD j 0 := fun e => hnc (e ▸ hm)
          have := tw_ready h.shut h1 hne hi
          rw [h2] at this
          cases this
      obtain ⟨o', ho', hp⟩ := hF
      rw [ho] at ho'
      cases ho'
      obtain ⟨d, hd⟩ := hB.freeDst i o ho hfr
      obtain ⟨hdn, hdw⟩ := hB.dst i o ho d hd
      have hlook0 : ∀ t ∈ o.looksAt ops, a.eval (.tmp t) = s0 ops free C a0 t := fun t ht => (hlook t ht).trans (h.same t (hB.lookFree i o ho hfr t ht))
      have next : FlowInv P ops free ch rd C fin a0 j s (listed.setIfInBounds i true) (a.put o.dst (C i)) w := by
        refine ⟨h.stage, (put_defers _ _ _).trans h.defers, by rw [hd]; simp [Act.put, h.size], fun t => ?_, h.same, hshut, by simp [h.lsize], fun k hk => ?_, h.chain⟩
        · rw [hd]
          by_cases hdt : d = t
          · subst hdt
            rw [eval_put_same (by rw [h.size, hn]; exact hdn)]
            have e : s d = C i := (h.same d (fun e he hde => by
              have hk : e < ops.size := hB.chLt e he
              have hok : ops[e]? = some ops[e] := Array.getElem?_eq_getElem hk
              have hdk : ops[e].dst = some d := by simpa [dstOf, hok] using hde
              have := (hB.dst e _ hok d hdk).2
              rw [hdw] at this
              cases this
              exact hnc he)).trans (free_find hB hfr ho hd)
            exact ⟨fun _ _ _ => e.symm, fun _ => e.symm⟩
          · rw [eval_put_ne hdt]
            refine ⟨fun k hk hlk => ?_, (h.slots t).2⟩
            by_cases hki : k = i
            · subst hki
              exfalso
              rw [writer] at hk
              have := List.find?_some hk
              simp [ho, hd] at this
              exact hdt this
            · rw [getD_set_ne false (fun e => hki e.symm)] at hlk
              exact (h.slots t).1 k hk hlk
        · rw [getD_set_ne false (fun e => hnc (by rw [e]; simp [hk]))]
          exact h.done k hk
      rcases hp a hlook0 with ⟨hw, hrun⟩ | ⟨hw, hu⟩
      · simp only [hw, if_true]
        refine .inl ?_
        unfold Oper.wp
        rw [hrun]
        exact ih _ j s _ w (by omega) next
      · simp only [hw, Bool.false_eq_true, if_false]
        rw [hu] at next
        exact ih _ j s _ w (by omega) next
    · -- the chain's next
      have hjl : j < ch.length ∧ ch.getD j 0 = i := by
        obtain ⟨k, hk, hke⟩ := List.mem_iff_getElem.1 hch
        have hkg : ch.getD k 0 = i := by simp [hk, hke]
        have h1 := h.done k hk
        rw [hkg, hif] at h1
        have hjk : j ≤ k := by
          have := (decide_eq_false_iff_not.1 h1.symm)
          omega
        rcases Nat.lt_or_ge j k with hlt | hge
        · exfalso
          obtain ⟨h2, h3⟩ := hB.order k j hk hlt
          rw [hkg] at h2 h3
          have := tw_ready h.shut h2 h3 hi
          rw [h.done j (by omega)] at this
          simp at this
        · have : j = k := by omega
          subst this
          exact ⟨hk, hkg⟩
      obtain ⟨hjl, hji⟩ := hjl
      have hc := h.chain
      have hdrop : ch.drop j = i :: ch.drop (j + 1) := by
        rw [List.drop_eq_getElem_cons hjl]
        congr 1
        simpa [hjl] using hji
      rw [hdrop] at hc
      obtain ⟨hrd, o', ho', hstep⟩ := hc
      rw [ho] at ho'
      cases ho'
      obtain ⟨hw, heff⟩ := hstep a hlook
      simp only [hw, if_true]
      refine .inl (heff _ _ fun v w' hcw => ih _ (j + 1) (setS s o.dst v) _ w' (by omega) ?_)
      refine ⟨hjl, (put_defers _ _ _).trans h.defers, ?_, fun t => ?_, fun t ht => ?_, hshut, by simp [h.lsize], fun k hk => ?_, hcw⟩
      · cases hd : o.dst <;> simp [Act.put, h.size]
      · cases hd : o.dst with
        | none =>
          have e : a.put none v = a := rfl
          rw [e]
          have e2 : setS s none v = s := by funext t; simp [setS]
          rw [e2]
          refine ⟨fun k hk hlk => ?_, (h.slots t).2⟩
          by_cases hki : k = i
          · subst hki
            exfalso
            rw [writer] at hk
            have := List.find?_some hk
            simp [ho, hd] at this
          · rw [getD_set_ne false (fun e => hki e.symm)] at hlk
            exact (h.slots t).1 k hk hlk
        | some d =>
          obtain ⟨hdn, hdw⟩ := hB.dst i o ho d hd
          by_cases hdt : d = t
          · subst hdt
            rw [eval_put_same (by rw [h.size, hn]; exact hdn)]
            simp [setS]
          · rw [eval_put_ne hdt]
            have e : setS s (some d) v t = s t := by simp [setS, hdt]
            rw [e]
            refine ⟨fun k hk hlk => ?_, (h.slots t).2⟩
            by_cases hki : k = i
            · subst hki
              exfalso
              rw [hdw.symm.trans rfl] at hdw
              rw [writer] at hk
              have := List.find?_some hk
              simp [ho, hd] at this
              exact hdt this
            · rw [getD_set_ne false (fun e => hki e.symm)] at hlk
              exact (h.slots t).1 k hk hlk
      · have hne : o.dst ≠ some t := by
          have := ht i hch
          simpa [dstOf, ho] using this
        rw [← h.same t ht]
        simp [setS, hne]
      · by_cases hkj : k = j
        · subst hkj
          rw [hji]
          simp [hil]
        · have hne : i ≠ ch.getD k 0 := by
            intro e
            rw [← hji] at e
            rcases Nat.lt_or_ge k j with h1 | h1
            · exact (hB.order j k hjl h1).2 e
            · exact (hB.order k j hk (by omega)).2 e.symm
          rw [getD_set_ne false hne, h.done k hk]
          have : (k < j) ↔ (k < j + 1) := by omega
          simp only [this]

/-- **THE REGION.** -/
theorem wp_region_flow {id : Nat} {a : Act} {w : World} (n : Nat) (free ch tl : List Nat) (rd : Nat → List Nat) (C : Nat → Value) (hm : P.follows .mixedOrders = true) (hB : flowB ops n free ch tl rd = true) (hn : a.tmps.size = n)
    (htl : ∀ w, allOf (Free P ops (s0 ops free C a) C w) tl)
    (hc : Chain P ops (s0 ops free C a) C rd (fun s w => ∀ s', (∀ t, t < n → s' t = s t) → Q .normal ⟨((List.range n).map s').toArray, a.defers⟩ w) 0 ch (s0 ops free C a) w.drew) :
    (Code.region id ops true).wp P Q a w := by
  refine wp_region_any hm ?_
  have hok := flowB_spec hB
  have hz : ∀ j, (Array.replicate ops.size false).getD j false = false := by
    intro j
    by_cases hj : j < ops.size <;> simp [hj]
  refine wpAny_flow (a0 := a) hok hn htl (fun s w' a' hf hd hs hslot _ => ?_) ops.size _ 0 (s0 ops free C a) a _ (by unfold left; rw [Array.toList_replicate, List.countP_replicate, if_pos (by rfl)])
    ⟨Nat.zero_le _, rfl, rfl, fun t => ⟨(fun i _ hl => by rw [hz i] at hl; cases hl), fun hw => ?_⟩, fun t _ => rfl, (fun i o _ hl => by rw [hz i] at hl; cases hl), by simp, (fun k hk => by rw [hz]; simp), hc⟩
  · have ha : a' = ⟨((List.range n).map fun t => a'.eval (.tmp t)).toArray, a.defers⟩ := by
      cases a' with
      | mk tmps defers =>
        simp only at hd hs
        subst hd
        congr 1
        apply Array.ext
        · simp [hs]
        · intro i hi1 hi2
          simp [Act.eval, hi1]
    rw [ha]
    exact hf _ fun t _ => hslot t
  · unfold s0
    cases hf : free.find? fun i => dstOf ops i == some t with
    | none => rfl
    | some k =>
      exfalso
      have h1 := List.find?_some hf
      have h2 : k ∈ free := List.mem_of_find?_eq_some hf
      simp only [beq_iff_eq] at h1
      have hk : k < ops.size := hok.freeLt k h2
      have hok' : ops[k]? = some ops[k] := Array.getElem?_eq_getElem hk
      have hdk : ops[k].dst = some t := by simpa [dstOf, hok'] using h1
      have := (hok.dst k _ hok' t hdk).2
      rw [hw] at this
      cases this

/-- The frame behind the region: what was there, and what the region has written. -/
def putAll (a : Act) (s : Tmp → Value) (ts : List Tmp) : Act := ts.foldl (fun a t => a.put (some t) (s t)) a
theorem putAll_defers (s : Tmp → Value) : ∀ (ts : List Tmp) (a : Act), (putAll a s ts).defers = a.defers
  | [], _ => rfl
  | t :: ts, a => putAll_defers s ts (a.put (some t) (s t))
theorem putAll_size (s : Tmp → Value) : ∀ (ts : List Tmp) (a : Act), (putAll a s ts).tmps.size = a.tmps.size
  | [], _ => rfl
  | t :: ts, a => (putAll_size s ts (a.put (some t) (s t))).trans (by simp [Act.put])
theorem putAll_eval (s : Tmp → Value) : ∀ (ts : List Tmp) (a : Act) (t : Tmp), t < a.tmps.size → (putAll a s ts).eval (.tmp t) = if t ∈ ts then s t else a.eval (.tmp t)
  | [], a, t, _ => by simp [putAll]
  | u :: ts, a, t, h => by
    have ih := putAll_eval s ts (a.put (some u) (s u)) t (by simpa [Act.put] using h)
    show (putAll (a.put (some u) (s u)) s ts).eval (.tmp t) = _
    rw [ih]
    by_cases hu : u = t
    · subst hu
      by_cases ht : u ∈ ts
      · simp [ht]
      · rw [if_neg ht, eval_put_same h]
        simp
    · rw [eval_put_ne hu]
      have : (t ∈ u :: ts) ↔ (t ∈ ts) := by simp [Ne.symm hu]
      simp only [this]
theorem act_ext {a b : Act} (hd : a.defers = b.defers) (hs : a.tmps.size = b.tmps.size) (h : ∀ t, t < a.tmps.size → a.eval (.tmp t) = b.eval (.tmp t)) : a = b := by
  cases a with
  | mk x dx =>
    cases b with
    | mk y dy =>
      simp only at hd hs
      subst hd
      congr 1
      apply Array.ext hs
      intro i h1 h2
      have := h i h1
      simpa [Act.eval, h1, h2] using this
/-- **THE REGION**, its end as the walk has it. -/
theorem wp_region_chain {id : Nat} {a : Act} {w : World} (n : Nat) (free ch tl : List Nat) (ts : List Tmp) (rd : Nat → List Nat) (C : Nat → Value) (hm : P.follows .mixedOrders = true) (hB : flowB ops n free ch tl rd = true)
    (ht : ((List.range n).all fun t => writer ops ops.size t == none || ts.contains t) = true) (hn : a.tmps.size = n)
    (htl : ∀ w, allOf (Free P ops (s0 ops free C a) C w) tl)
    (hc : Chain P ops (s0 ops free C a) C rd (fun s w => ∀ s', (∀ t ∈ ts, s' t = s t) → Q .normal (putAll a s' ts) w) 0 ch (s0 ops free C a) w.drew) :
    (Code.region id ops true).wp P Q a w := by
  refine wp_region_any hm ?_
  have hok := flowB_spec hB
  have hz : ∀ j, (Array.replicate ops.size false).getD j false = false := by
    intro j
    by_cases hj : j < ops.size <;> simp [hj]
  refine wpAny_flow (a0 := a) hok hn htl (fun s w' a' hf hd hs hslot hno => ?_) ops.size _ 0 (s0 ops free C a) a _ (by unfold left; rw [Array.toList_replicate, List.countP_replicate, if_pos (by rfl)])
    ⟨Nat.zero_le _, rfl, rfl, fun t => ⟨(fun i _ hl => by rw [hz i] at hl; cases hl), fun hw => ?_⟩, fun t _ => rfl, (fun i o _ hl => by rw [hz i] at hl; cases hl), by simp, (fun k hk => by rw [hz]; simp), hc⟩
  · have ha : a' = putAll a s ts := by
      refine act_ext (hd.trans (putAll_defers _ _ _).symm) (by rw [hs, putAll_size, hn]) fun t h1 => ?_
      have h1 : t < n := by rw [hs] at h1; exact h1
      rw [hslot t, putAll_eval s ts a t (by rw [hn]; exact h1)]
      by_cases hts : t ∈ ts
      · rw [if_pos hts]
      · rw [if_neg hts]
        rw [List.all_eq_true] at ht
        have := ht t (List.mem_range.2 h1)
        simp only [Bool.or_eq_true, beq_iff_eq, List.contains_iff_mem] at this
        rcases this with h | h
        · exact hno t h
        · exact absurd h hts
    rw [ha]
    exact hf s fun t _ => rfl
  · unfold s0
    cases hf : free.find? fun i => dstOf ops i == some t with
    | none => rfl
    | some k =>
      exfalso
      have h1 := List.find?_some hf
      have h2 : k ∈ free := List.mem_of_find?_eq_some hf
      simp only [beq_iff_eq] at h1
      have hk : k < ops.size := hok.freeLt k h2
      have hok' : ops[k]? = some ops[k] := Array.getElem?_eq_getElem hk
      have hdk : ops[k].dst = some t := by simpa [dstOf, hok'] using h1
      have := (hok.dst k _ hok' t hdk).2
      rw [hw] at this
      cases this
end
end Go.Proofs.YtpeioflembhedaaDoor
