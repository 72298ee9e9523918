/-
  Appending bytes that came from anywhere to a row of the call's own; what the row is good for. No conditions.
-/
import Derived.Test.YtpeioflembhedaaDoorSame
import Derived.Test.YtpeioflembhedaaDoorPlain3
import Derived.Test.YtpeioflembhedaaDoorReads
import Derived.Laws.AppendOwnNone
namespace Go.Proofs.YtpeioflembhedaaDoor
open Go.RowKit

theorem wpList_append_bys {w : World} {ops : Array Oper} {rest : List Oper} {o : Oper} {a : Act} {Q : Exit → Act → World → Prop} (hgd : o.guard = none) (s x : Operand)
    (ho : o.op = .call { callee := .builtin .append, args := #[s, x], argTypes := #[34, 34] })
    (base : Nat) (i : TypeInfo) (i1 : Tryd.prog.info? 5 = some i) (i2 : i.zero = some (.int .u8 0)) (i3 : i.size = 1) (i4 : i.bytes = 1)
    (v : Value) (n : Nat) (xs : List Value) (hs : a.eval s = v) (hown : w.ownsRow base 5 1 v n xs) (p : Option Addr) (l : List UInt8) (c : Nat) (hx : a.eval x = .slice p l.length c) (hb : Bys w p l c)
    (h63 : n + l.length ≤ 1000000) (hbase : base ≤ w.heap.size)
    (h : ∀ v' w', w'.ownsRow base 5 1 v' (n + l.length) (xs ++ bys l) → w.grownBy w' v.ownBlock → wpList Tryd.prog ops Q rest (a.put o.dst v') w') : wpList Tryd.prog ops Q (o :: rest) a w := by
  have hm : n + l.length ≤ maxLen := by unfold maxLen; omega
  rcases hb.2 with hc | ⟨bk, off, rfl, _, hcell⟩
  · have hl : l = [] := List.eq_nil_of_length_eq_zero (by have := hb.1; omega)
    subst hl
    subst hc
    cases p with
    | none =>
      refine wpList_append_own_none hgd s x 34 ho base 5 i 1 Tryd.underlying34 i1 v n xs hs hown hx ?_
      exact h v w (by simpa [bys] using hown) ⟨rfl, rfl, rfl, Nat.le_refl _, fun _ _ _ => rfl⟩
    | some ad =>
      exact wpList_append_own w hgd s x 34 ho base 5 i (.int .u8 0) 1 1 Tryd.underlying34 i1 i2 i3 i4 rfl (by decide) v n xs hs hown ad 0 0 (bys []) hx rfl (fun j u hj => by simp [bys] at hj) (bys_one _) hm (by simp; simp at h63; omega) hbase fun v' w' h2 h3 _ => h v' w' h2 h3
  · refine wpList_append_own w hgd s x 34 ho base 5 i (.int .u8 0) 1 1 Tryd.underlying34 i1 i2 i3 i4 rfl (by decide) v n xs hs hown ⟨bk, off, none⟩ l.length c (bys l) hx (by simp [bys]) (fun j u hj => ?_) (bys_one _) hm (by omega) hbase fun v' w' h2 h3 _ => h v' w' h2 h3
    simp only [bys, List.getElem?_map] at hj
    cases hlj : l[j]? with
    | none => rw [hlj] at hj; cases hj
    | some b =>
      rw [hlj] at hj
      cases hj
      have := hcell j b hlj
      unfold Addr.add
      by_cases j0 : j = 0
      · subst j0
        simpa using this
      · simpa [j0] using this
/-- A row of the call's own of bytes is a slice of them. -/
theorem own_bys {w : World} {B : Nat} {v : Value} {l : List UInt8} (h : w.ownsRow B 5 1 v l.length (bys l)) : ∃ p c, v = .slice p l.length c ∧ Bys w p l c := by
  rcases own_form h with ⟨rfl, hn⟩ | ⟨g, c, rfl, hb, hg, hc⟩
  · exact ⟨none, 0, by rw [hn], by omega, .inl rfl⟩
  · refine ⟨some ⟨g, 0, none⟩, c, rfl, hc, .inr ⟨g, 0, rfl, hg, fun k b hk => ?_⟩⟩
    have h1 : (bys l)[k]? = some (.int .u8 b.toNat) := by simp [bys, hk]
    have h2 := own_cells h k _ h1
    rw [add_off] at h2
    rw [Nat.zero_add]
    exact h2
theorem own_empty (w : World) : (w.alloc (.cells #[] 5)).ownsRow w.heap.size 5 1 (.slice (some ⟨w.heap.size, 0, none⟩) 0 0) 0 [] :=
  ⟨rfl, .inr ⟨w.heap.size, 0, #[], rfl, Nat.le_refl _, heap_alloc_new w _, Nat.le_refl _, Nat.zero_le _, rfl, rfl⟩⟩
set_option maxRecDepth 100000 in
theorem open_bytes {H : Type} {enc : TypeId × Value → H} {W : World} {b0 : Nat} {v : Value} {d : DataW H} {ps : List MemPlace} (hv : Value.okWide Tryd.prog W .any b0 34 v) (h : DataW.Trod enc Tryd.prog W 0 (fun _ => true) true 34 v d ps) :
    ∃ (p : Option Addr) (c : Nat) (l : List UInt8), v = .slice p l.length c ∧ Bys W p l c := by
  obtain ⟨a0, len, cap, rfl⟩ := WideShapes.okWide_slice Tryd.underlying34 hv
  obtain ⟨fuel, hf⟩ := h
  rcases ChangeShapes.open_ints Tryd.underlying34 Tryd.underlying5 cells5 hf with ⟨hcs, _⟩ | ⟨a, len', cap', zs, hcs, _, hl, hm, hz, _, hcell, hwf⟩
  · simp [Value.cells] at hcs
    obtain ⟨rfl, rfl, rfl⟩ := hcs
    exact ⟨none, 0, [], rfl, Nat.le_refl _, .inl rfl⟩
  · simp [Value.cells] at hcs
    obtain ⟨rfl, rfl, rfl⟩ := hcs
    simp only [if_true] at hz
    let l : List UInt8 := (zs.take len).map fun z => UInt8.ofNat z.toNat
    have hll : l.length = len := by simp [l]; omega
    refine ⟨some a, cap, l, by rw [hll], by omega, ?_⟩
    rcases Nat.eq_zero_or_pos cap with h0 | h0
    · exact .inl h0
    · obtain ⟨b, o, spot⟩ := a
      have hspot : spot = none := by simpa [Addr.add] using World.cell?_spot (hcell 0 (by omega))
      subst hspot
      refine .inr ⟨b, o, rfl, World.block_lt_of_cell? _ _ (hcell 0 (by omega)), fun k x hk => ?_⟩
      have hkl : k < len := by
        have := (List.getElem?_eq_some_iff.1 hk).1
        omega
      have hc := hcell k (by omega)
      rw [Go.WideShapes.add_plain] at hc
      simp only [l, List.getElem?_map, List.getElem?_take, if_pos hkl] at hk
      cases hzk : zs[k]? with
      | none => rw [hzk] at hk; cases hk
      | some z =>
        rw [hzk] at hk
        simp at hk
        subst hk
        have hw := hwf z (List.mem_of_getElem? hzk)
        have hb : 0 ≤ z ∧ z ≤ 255 := by simpa [Lit.wf, IntKind.min, IntKind.max, IntKind.signed, IntKind.bits] using hw
        rw [hc, List.getD_eq_getElem?_getD, hzk, ofNat_toNat' _ (by omega)]
        simp
        omega
end Go.Proofs.YtpeioflembhedaaDoor
