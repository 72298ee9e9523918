/-
  What came in, read: code (two slices), a slice of bytes. No conditions.
-/
import Derived.Test.YtpeioflembhedaaDoorLong
import Derived.Deep.Slices
import Derived.Deep.Fields
import Derived.ChangeSame
import Derived.ChangeSlices
import Derived.Lib.SmallJoins
import Derived.Carry
import Derived.OpenShut
namespace Go.Proofs.YtpeioflembhedaaDoor
open Go.ChangeShapes Go.WideShapes Go.Deep Go.RowKit Go.Joins

theorem laidOut : laidOutB Tryd.prog = true := by kernel_rfl
theorem cells3 : Tryd.prog.cellsOf 3 = 1 := by kernel_rfl
theorem cells5 : Tryd.prog.cellsOf 5 = 1 := by kernel_rfl
theorem cells28 : Tryd.prog.cellsOf 28 = 2 := by kernel_rfl
theorem cellsI : Tryd.prog.cellsOf 23 = 4 := by kernel_rfl
section
variable {H : Type} {enc : TypeId × Value → H} {P : Program} {w : World} {base : Nat} {spare : Nat → Bool} {held : Bool}
/-- A slice of structs, opened to its cells (after the guide's block). -/
theorem open_slice_fields {t e : TypeId} {fs : Array Field} {fuel : Nat} {cs : List Value} {x : DataW H × List MemPlace} (ht : P.underlying t = some (.slice e)) (he : P.underlying e = some (.struct fs))
    (hone : oneCellFields P fs = true) (hC : P.cellsOf e = fs.size) (h : DataW.trod enc P w base spare held fuel t cs = some x) :
    (cs = [.slice none 0 0] ∧ x = (.nil, [])) ∨
    ∃ (a : Addr) (len cap m : Nat) (D : Nat → DataW H) (Pl : Nat → List MemPlace), cs = [.slice (some a) len cap] ∧ base ≤ a.block ∧ len ≤ cap ∧ cap ≤ maxLen ∧ m = (if spare a.block then cap else len) ∧
      x = (.slice ((List.range len).map D) ((List.range (m - len)).map fun j => D (len + j)), MemPlace.row a (m * fs.size) ++ (List.range m).flatMap Pl) ∧
      ∀ i, i < m → ∃ (ys : List (DataW H × List MemPlace)) (n : Nat), D i = .agg (ys.map (·.1)) ∧ Pl i = ys.flatMap (·.2) ∧ ys.length = fs.size ∧
        ∀ (j : Nat) (f : Field), fs[j]? = some f → ∃ (v : Value) (y : DataW H × List MemPlace), w.cell? (a.add (i * fs.size + j)) = some v ∧ ys[j]? = some y ∧ DataW.trod enc P w base spare held n f.type [v] = some y := by
  rcases open_slice ht h with h0 | ⟨a, len, cap, m, n, D, Pl, hcs, hb, hl, hm, hmm, hx, hi⟩
  · exact .inl h0
  · refine .inr ⟨a, len, cap, m, D, Pl, hcs, hb, hl, hm, hmm, by rw [hC] at hx; exact hx, fun i him => ?_⟩
    obtain ⟨cs', hc, ht'⟩ := hi i him
    rw [hC] at hc
    obtain ⟨ys, n', hn', hy, hlen, hyl, hf⟩ := DataW.trod_struct he ht'
    obtain ⟨_, hcl, hat⟩ := World.cells?_some hc
    simp only [Prod.mk.injEq] at hy
    refine ⟨ys, n', hy.1, hy.2, hyl, fun j f hj => ?_⟩
    obtain ⟨ho, hk⟩ := hone_of hone j f hj
    have hjl : j < fs.size := (Array.getElem?_eq_some_iff.1 hj).1
    have hcell := hat j hjl
    have hv : cs'[j]? = some (cs'[j]'(by omega)) := List.getElem?_eq_getElem (by omega)
    have h1 := hf j f hj
    rw [ho, hk] at h1
    have hone' : (cs'.drop j).take 1 = [cs'[j]'(by omega)] := by
      rw [List.drop_eq_getElem_cons (by omega)]
      rfl
    rw [hone'] at h1
    have hys : ys[j]? = some (ys[j]'(by omega)) := List.getElem?_eq_getElem (by omega)
    refine ⟨_, _, ?_, hys, h1.trans hys⟩
    rw [← Go.Deep.add_add, hcell, hv]
end
theorem list_of {α : Type} (P : Nat → α → Prop) : ∀ (n : Nat), (∀ i, i < n → ∃ x, P i x) → ∃ xs : List α, xs.length = n ∧ ∀ k x, xs[k]? = some x → P k x
  | 0, _ => ⟨[], rfl, fun k x h => by simp at h⟩
  | n + 1, h => by
    obtain ⟨xs, hl, hx⟩ := list_of P n fun i hi => h i (by omega)
    obtain ⟨y, hy⟩ := h n (by omega)
    refine ⟨xs ++ [y], by simp [hl], fun k x hk => ?_⟩
    rcases Nat.lt_or_ge k n with hlt | hge
    · rw [List.getElem?_append_left (by omega)] at hk
      exact hx k x hk
    · rw [List.getElem?_append_right (by omega), hl] at hk
      have : k = n := by
        rcases Nat.eq_or_lt_of_le hge with e | e
        · exact e.symm
        · rw [List.getElem?_eq_none (by simp; omega)] at hk
          cases hk
      subst this
      simp at hk
      subst hk
      exact hy
theorem int_bd {n : Int} (h : (Lit.int .i64 n).wf = true) : -9223372036854775808 ≤ n ∧ n ≤ 9223372036854775807 := by
  simpa [Lit.wf, IntKind.min, IntKind.max, IntKind.signed, IntKind.bits] using h
theorem open_ins {H : Type} {enc : TypeId × Value → H} {W : World} {fuel : Nat} {v : Value} {x : DataW H × List MemPlace} (h : DataW.trod enc Tryd.prog W 0 (fun _ => true) true fuel 25 [v] = some x) :
    ∃ (p : Option Addr) (cap : Nat) (xs : List I), v = .slice p xs.length cap ∧ xs.length ≤ cap ∧ Row W p xs ∧ ∀ y ∈ xs, IntsI y := by
  rcases open_slice_fields Tryd.underlying25 Tryd.underlying23 (by kernel_rfl) cellsI h with ⟨hcs, _⟩ | ⟨a, len, cap, m, D, Pl, hcs, _, hl, hm, hmm, _, hi⟩
  · simp at hcs
    subst hcs
    exact ⟨none, 0, [], rfl, Nat.le_refl _, fun k x h => by simp at h, fun y h => by cases h⟩
  · simp at hcs
    subst hcs
    simp only [if_true] at hmm
    obtain rfl := hmm
    obtain ⟨xs, hxl, hxs⟩ := list_of (fun i (y : I) => (∃ b o, a = ⟨b, o, none⟩ ∧ InsAt W b (o + i * 4) y) ∧ IntsI y) len fun i hil => by
      obtain ⟨ys, n, _, _, _, hf⟩ := hi i (by omega)
      obtain ⟨v0, y0, k0, _, t0⟩ := hf 0 _ rfl
      obtain ⟨v1, y1, k1, _, t1⟩ := hf 1 _ rfl
      obtain ⟨v2, y2, k2, _, t2⟩ := hf 2 _ rfl
      obtain ⟨v3, y3, k3, _, t3⟩ := hf 3 _ rfl
      obtain ⟨n0, e0, _, w0⟩ := DataW.trod_int Tryd.underlying3 t0
      obtain ⟨n1, e1, _, w1⟩ := DataW.trod_int Tryd.underlying3 t1
      obtain ⟨n2, e2, _, w2⟩ := DataW.trod_int Tryd.underlying3 t2
      obtain ⟨s3, e3, _, w3⟩ := DataW.trod_string Tryd.underlying9 t3
      simp at e0 e1 e2 e3
      subst e0 e1 e2 e3
      obtain ⟨b, o, spot⟩ := a
      have hspot : spot = none := by
        obtain ⟨ys', n', _, _, _, hf'⟩ := hi 0 (by omega)
        obtain ⟨v, y, k, _⟩ := hf' 0 _ rfl
        simpa [Addr.add] using World.cell?_spot k
      subst hspot
      rw [add_plain] at k0 k1 k2 k3
      refine ⟨(n0, n1, n2, s3), ⟨b, o, rfl, ?_, ?_, ?_, ?_⟩, int_bd w0, int_bd w1, int_bd w2⟩
      · exact k0
      · rw [show o + i * 4 + 1 = o + (i * 4 + 1) by omega]; exact k1
      · rw [show o + i * 4 + 2 = o + (i * 4 + 2) by omega]; exact k2
      · rw [show o + i * 4 + 3 = o + (i * 4 + 3) by omega]; exact k3
    refine ⟨some a, m, xs, by rw [hxl], by omega, fun k y hy => ?_, fun y hy => ?_⟩
    · obtain ⟨⟨b, o, rfl, hat⟩, _⟩ := hxs k y hy
      exact ⟨b, o, rfl, hat⟩
    · obtain ⟨k, hk, rfl⟩ := List.mem_iff_getElem.1 hy
      exact (hxs k _ (List.getElem?_eq_getElem hk)).2
theorem open_ents {H : Type} {enc : TypeId × Value → H} {W : World} {fuel : Nat} {v : Value} {x : DataW H × List MemPlace} (h : DataW.trod enc Tryd.prog W 0 (fun _ => true) true fuel 26 [v] = some x) :
    ∃ (q : Option Addr) (mc : Nat) (es : List Int), v = .slice q es.length mc ∧ es.length ≤ mc ∧ Ents W q es ∧ ∀ n ∈ es, EntOk n := by
  rcases open_ints Tryd.underlying26 Tryd.underlying3 cells3 h with ⟨hcs, _⟩ | ⟨a, len, cap, zs, hcs, _, hl, hm, hz, _, hcell, hwf⟩
  · simp at hcs
    subst hcs
    exact ⟨none, 0, [], rfl, Nat.le_refl _, fun k x h => by simp at h, fun y h => by cases h⟩
  · simp at hcs
    subst hcs
    simp only [if_true] at hz
    have hl2 : (zs.take len).length = len := by rw [List.length_take]; omega
    refine ⟨some a, cap, zs.take len, by rw [hl2], by omega, fun k n hk => ?_, fun n hn => int_bd (hwf n (List.mem_of_mem_take hn))⟩
    have hkl : k < len := by
      have := (List.getElem?_eq_some_iff.1 hk).1
      omega
    have hc := hcell k (by omega)
    obtain ⟨b, o, spot⟩ := a
    have hspot : spot = none := by simpa [Addr.add] using World.cell?_spot (hcell 0 (by omega))
    subst hspot
    rw [add_plain] at hc
    rw [List.getElem?_take, if_pos hkl] at hk
    refine ⟨b, o, rfl, ?_⟩
    rw [hc, List.getD_eq_getElem?_getD, hk]
    rfl
set_option maxRecDepth 100000 in
theorem open_code {H : Type} {enc : TypeId × Value → H} {W : World} {b0 : Nat} {v : Value} {d : DataW H} {ps : List MemPlace} (hv : Value.okWide Tryd.prog W .any b0 28 v) (h : DataW.Trod enc Tryd.prog W 0 (fun _ => true) true 28 v d ps) :
    ∃ (p q : Option Addr) (cap mc : Nat) (xs : List I) (es : List Int), v = .agg #[.slice p xs.length cap, .slice q es.length mc] ∧ es.length ≤ mc ∧ Row W p xs ∧ Ents W q es ∧ (∀ y ∈ xs, IntsI y) ∧ ∀ n ∈ es, EntOk n := by
  obtain ⟨v0, v1, y0, y1, n, rfl, _, _, h0, h1⟩ := open_agg2 Tryd.underlying28 (by kernel_rfl) cells28 hv h
  obtain ⟨p, cap, xs, rfl, _, hr, hx⟩ := open_ins h0
  obtain ⟨q, mc, es, rfl, hm, he, hn⟩ := open_ents h1
  exact ⟨p, q, cap, mc, xs, es, rfl, hm, hr, he, hx, hn⟩
end Go.Proofs.YtpeioflembhedaaDoor
