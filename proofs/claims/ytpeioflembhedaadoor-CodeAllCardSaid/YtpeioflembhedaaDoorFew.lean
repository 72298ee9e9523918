/-
  What few makes of code: a row of the call's own, of the first forty instructions, their texts cut to 50 bytes, and at most eight entries. No conditions but on sizes that code has.
-/
import Derived.Test.YtpeioflembhedaaDoorSays
import Derived.LoopTactic
namespace Go.Proofs.YtpeioflembhedaaDoor
open Go.RowKit

abbrev I := Int × Int × Int × ByteArray
def cells4 (x : I) : List Value := [.int .i64 x.1, .int .i64 x.2.1, .int .i64 x.2.2.1, .string x.2.2.2]
def cut50 (s : ByteArray) : ByteArray := if 50 < s.size then s.extract 0 50 else s
def cutI (x : I) : I := (x.1, x.2.1, x.2.2.1, cut50 x.2.2.2)
/-- The cells of a row of instructions. -/
def flatI (xs : List I) : List Value := (xs.map cells4).flatten
theorem flatI_snoc (xs : List I) (x : I) : flatI (xs ++ [x]) = flatI xs ++ cells4 x := by simp [flatI]
theorem flatI_more (xs : List I) (k : Nat) (x : I) (h : xs[k]? = some x) : flatI ((xs.map cutI).take (k + 1)) = flatI ((xs.map cutI).take k) ++ cells4 (cutI x) := by
  rw [List.take_add_one, List.getElem?_map, h]
  simp [flatI]
theorem flatI_length (xs : List I) : (flatI xs).length = xs.length * 4 := by
  induction xs with
  | nil => rfl
  | cons x xs ih => simp only [flatI, List.map_cons, List.flatten_cons, List.length_append] at *; rw [ih]; simp [cells4]; omega
theorem flatI_get (xs : List I) (k : Nat) (x : I) (h : xs[k]? = some x) : (flatI xs)[k * 4]? = some (.int .i64 x.1) ∧ (flatI xs)[k * 4 + 1]? = some (.int .i64 x.2.1) ∧ (flatI xs)[k * 4 + 2]? = some (.int .i64 x.2.2.1) ∧ (flatI xs)[k * 4 + 3]? = some (.string x.2.2.2) := by
  induction xs generalizing k with
  | nil => simp at h
  | cons y ys ih =>
    match k, h with
    | 0, h => simp at h; subst h; simp [flatI, cells4]
    | k + 1, h =>
      have := ih k (by simpa using h)
      have e : flatI (y :: ys) = cells4 y ++ flatI ys := by simp [flatI]
      rw [e]
      have l : (cells4 y).length = 4 := rfl
      refine ⟨?_, ?_, ?_, ?_⟩
      · rw [List.getElem?_append_right (by rw [l]; omega), l, show (k + 1) * 4 - 4 = k * 4 by omega]; exact this.1
      · rw [List.getElem?_append_right (by rw [l]; omega), l, show (k + 1) * 4 + 1 - 4 = k * 4 + 1 by omega]; exact this.2.1
      · rw [List.getElem?_append_right (by rw [l]; omega), l, show (k + 1) * 4 + 2 - 4 = k * 4 + 2 by omega]; exact this.2.2.1
      · rw [List.getElem?_append_right (by rw [l]; omega), l, show (k + 1) * 4 + 3 - 4 = k * 4 + 3 by omega]; exact this.2.2.2
/-- An instruction lies in memory at an address. -/
def InsAt (w : World) (bk off : Nat) (x : I) : Prop := w.cell? ⟨bk, off, none⟩ = some (.int .i64 x.1) ∧ w.cell? ⟨bk, off + 1, none⟩ = some (.int .i64 x.2.1) ∧ w.cell? ⟨bk, off + 2, none⟩ = some (.int .i64 x.2.2.1) ∧ w.cell? ⟨bk, off + 3, none⟩ = some (.string x.2.2.2)
theorem InsAt.on {w w' : World} {bk off : Nat} {x : I} (h : InsAt w bk off x) (k : G w w') : InsAt w' bk off x := ⟨k.cell h.1, k.cell h.2.1, k.cell h.2.2.1, k.cell h.2.2.2⟩
/-- A row of instructions lies in memory, where a slice's pointer says. -/
def Row (w : World) (p : Option Addr) (xs : List I) : Prop := ∀ (k : Nat) x, xs[k]? = some x → ∃ bk off, p = some ⟨bk, off, none⟩ ∧ InsAt w bk (off + k * 4) x
theorem Row.on {w w' : World} {p : Option Addr} {xs : List I} (h : Row w p xs) (k : G w w') : Row w' p xs := fun j x hx => let ⟨b, o, e, i⟩ := h j x hx; ⟨b, o, e, i.on k⟩
theorem info23 : ∃ i, Tryd.prog.info? 23 = some i ∧ i.zero = some (.agg #[.int .i64 0, .int .i64 0, .int .i64 0, .string ⟨#[]⟩]) ∧ i.size = 4 ∧ i.bytes = 40 :=
  ⟨(Tryd.prog.info? 23).get (by kernel_rfl), by kernel_rfl, by kernel_rfl, by kernel_rfl, by kernel_rfl⟩
/-- A variable of code: its two cells; it is no memory that strings share. -/
structure Var (w : World) (b : Nat) (u v : Value) : Prop where
  lt : b < w.heap.size
  c0 : w.cell? ⟨b, 0, none⟩ = some u
  c1 : w.cell? ⟨b, 1, none⟩ = some v
  fr : ∀ i : Nat, w.frozen? ⟨b, i, none⟩ = false
theorem Var.mono {w w' : World} {b : Nat} {u v : Value} (h : Var w b u v) (hg : G w w') : Var w' b u v :=
  ⟨Nat.lt_of_lt_of_le h.lt hg.size, hg.cell h.c0, hg.cell h.c1, fun i => (Below.frozen hg h.lt).trans (h.fr i)⟩
theorem Var.turned {w w' : World} {b : Nat} {u v : Value} {row : Option Nat} (h : Var w b u v) (hg : w.grownBy w' row) (hne : ∀ j, row = some j → j ≠ b) : Var w' b u v := by
  have hr : some b ≠ row := fun e => hne b e.symm rfl
  have hb := hg.block b h.lt hr
  exact ⟨Nat.lt_of_lt_of_le h.lt hg.size, (World.cell?_of_block hb).trans h.c0, (World.cell?_of_block hb).trans h.c1, fun i => (World.frozen?_of_block hb).trans (h.fr i)⟩
theorem Var.set {w : World} {b : Nat} {u v : Value} (h : Var w b u v) (x : Value) : Var (w.setCell ⟨b, 0, none⟩ x) b x v := by
  obtain ⟨l, c0, c1, f⟩ := h
  refine ⟨by simpa using l, ?_, ?_, fun i => ?_⟩ <;> simp [go_sem, c0, c1, f]
theorem Var.set1 {w : World} {b : Nat} {u v : Value} (h : Var w b u v) (x : Value) : Var (w.setCell ⟨b, 1, none⟩ x) b u x := by
  obtain ⟨l, c0, c1, f⟩ := h
  refine ⟨by simpa using l, ?_, ?_, fun i => ?_⟩ <;> simp [go_sem, c0, c1, f]
theorem Var.keep {w : World} {b c o : Nat} {u v : Value} (h : Var w b u v) (hne : b ≠ c) (x : Value) : Var (w.setCell ⟨c, o, none⟩ x) b u v := by
  obtain ⟨l, c0, c1, f⟩ := h
  refine ⟨by simpa using l, ?_, ?_, fun i => ?_⟩ <;> simp [go_sem, c0, c1, f, hne]
theorem own_keep {w : World} {B n c o e s : Nat} {v : Value} {xs : List Value} (h : w.ownsRow B e s v n xs) (hc : ∀ j, v.ownBlock = some j → j ≠ c) (x : Value) : (w.setCell ⟨c, o, none⟩ x).ownsRow B e s v n xs := by
  refine ⟨h.1, ?_⟩
  rcases h.2 with hn | ⟨g, cap, cur, rfl, hb, hgg, rest⟩
  · exact .inl hn
  · refine .inr ⟨g, cap, cur, rfl, hb, ?_, rest⟩
    have hne : c ≠ g := fun e => hc g rfl e.symm
    rw [← hgg]
    simp [World.setCell, Array.getElem?_modify, hne]
theorem own_base {w : World} {B C n e s : Nat} {v : Value} {xs : List Value} (h : w.ownsRow B e s v n xs) (hc : C ≤ B) : w.ownsRow C e s v n xs := by
  refine ⟨h.1, ?_⟩
  rcases h.2 with hn | ⟨g, cap, cur, rfl, hb, rest⟩
  · exact .inl hn
  · exact .inr ⟨g, cap, cur, rfl, Nat.le_trans hc hb, rest⟩
theorem own_some {w : World} {B n e s : Nat} {v : Value} {xs : List Value} (h : w.ownsRow B e s v n xs) (hn : 0 < n) : ∃ g c, v = .slice (some ⟨g, 0, none⟩) n c := by
  rcases h.2 with ⟨_, h0⟩ | ⟨g, cap, cur, e, _⟩
  · omega
  · exact ⟨g, cap, e⟩
theorem own_form {w : World} {B n e s : Nat} {v : Value} {xs : List Value} (h : w.ownsRow B e s v n xs) : (v = .slice none 0 0 ∧ n = 0) ∨ ∃ g c, v = .slice (some ⟨g, 0, none⟩) n c ∧ B ≤ g ∧ g < w.heap.size ∧ n ≤ c := by
  rcases h.2 with e | ⟨g, cap, cur, e, hb, hg, hn, _⟩
  · exact .inl e
  · exact .inr ⟨g, cap, e, hb, (Array.getElem?_eq_some_iff.1 hg).1, hn⟩
set_option maxRecDepth 20000 in
theorem Var.load {w : World} {b : Nat} {u v : Value} (h : Var w b u v) : (loadVar 28 ⟨b, 0, none⟩).run Tryd.prog w = .ok (.agg #[u, v]) w := by
  obtain ⟨l, c0, c1, f⟩ := h
  simp [go_sem, c0, c1]
theorem results_cell {fn : Func} {p : Tmp} {ty : TypeId} (h : fn.results = #[.cell p ty]) (tmps : Array Value) (P : Program) (w : World) :
    (results fn tmps).run P w = ((asAddr (tmps.getD p undef)).run P w).andThen fun a w₁ => (loadVar ty a).run P w₁ := by
  simp only [results, h]
  simp [Sem.run_bind, Result.andThen]
set_option maxRecDepth 20000 in
theorem post_code {fn : Func} {p : Tmp} {tmps : Array Value} {b : Nat} {w : World} {u v : Value} {K : Ending → World → Prop} (h : fn.results = #[.cell p 28]) (hp : tmps.getD p undef = .pointer (some ⟨b, 0, none⟩)) (ha : Var w b u v)
    (hk : K (.returned (.agg #[u, v])) w) : bodyPost Tryd.prog fn K .ret ⟨tmps, []⟩ w := by
  refine bodyPost_ret ?_ rfl hk
  rw [results_cell h, hp]
  exact ha.load
theorem cell_new4 (w : World) (o a b : Int) (tx : ByteArray) : ∀ j u, ([.int .i64 o, .int .i64 a, .int .i64 b, .string tx] : List Value)[j]? = some u → (w.alloc (.cells #[.int .i64 o, .int .i64 a, .int .i64 b, .string tx] 23)).cell? ((⟨w.heap.size, 0, none⟩ : Addr).add j) = some u := by
  intro j u hj
  match j, hj with
  | 0, hj => simp at hj; subst hj; simp [go_sem]
  | 1, hj => simp at hj; subst hj; simp [go_sem]
  | 2, hj => simp at hj; subst hj; simp [go_sem]
  | 3, hj => simp at hj; subst hj; simp [go_sem]
def FewPost (w : World) (m mc : Nat) (q : Option Addr) (xs : List I) (e : Ending) (w' : World) : Prop := ∃ v, e = .returned (.agg #[v, .slice q (min m 8) mc]) ∧ w'.ownsRow w.heap.size 23 4 v (min xs.length 40) (flatI ((xs.map cutI).take 40)) ∧ G w w'

set_option maxRecDepth 100000 in
set_option maxHeartbeats 4000000 in
theorem few_any (p : Option Addr) (cap m mc : Nat) (xs : List I) (q : Option Addr) (w : World) (hmc : m ≤ mc) (hrow : Row w p xs) :
    Calls Tryd.prog 8 #[.agg #[.slice p xs.length cap, .slice q m mc]] w (FewPost w m mc q xs) := by
  obtain ⟨i, i1, i2, i3, i4⟩ := info23
  obtain ⟨m8, hm8⟩ : ∃ m8, Hid (m8 = min m 8) := ⟨_, rfl⟩
  rcases (show (8 : Int) < (m : Int) ∨ ¬ (8 : Int) < (m : Int) by omega) with hm2 | hm2
  all_goals (
  have hmc8 : (8 : Int) < (m : Int) → (8 : Int) ≤ (mc : Int) := fun h => by omega
  go_enter Tryd.func8, Tryd.ntmps8
  go_wp2_with fail
  go_loopw [4] (fun j wr => ∃ k : Nat, k ≤ xs.length ∧ k ≤ 40 ∧ j = .int .i64 k ∧ (∃ v : Value, wr.ownsRow (w.heap.size + 3) 23 4 v k (flatI ((xs.map cutI).take k)) ∧ Var wr (w.heap.size + 1 + 1) v (.slice q m8 mc)) ∧ Var wr (w.heap.size + 1) (.slice none 0 0) (.slice none 0 0) ∧ Var wr w.heap.size (.slice p xs.length cap) (.slice q m mc) ∧ G w wr) (fun j _ => 40 - (intOf j).toNat)
  case atStart =>
    refine ⟨0, by omega, by omega, rfl, ⟨_, World.ownsRow_nil _ _ _ _, ?_⟩, ?_, ?_, ?_⟩
    · rw [hm8.out]
      refine ⟨by simp <;> omega, by simp [go_sem], ?_, fun i => by simp [go_sem]⟩
      first
        | (rw [show min m 8 = m by omega]; simp [go_sem]; done)
        | (rw [show min m 8 = 8 by omega]; simp [go_sem]; done)
    · exact ⟨by simp <;> omega, by simp [go_sem], by simp [go_sem], fun i => by simp [go_sem]⟩
    · exact ⟨by simp <;> omega, by simp [go_sem], by simp [go_sem], fun i => by simp [go_sem]⟩
    · first
        | exact (((G.refl w).alloc _).alloc _).alloc _
        | exact G.set ((((G.refl w).alloc _).alloc _).alloc _) (by simp <;> omega) _
  case round =>
    obtain ⟨k, hk, hk4, rfl, ⟨v, hv, ho⟩, hr, hi, hg⟩ := hrel
    have HG := hid hg
    have HV := hid hv
    have HO := hid ho
    have HR := hid hr
    have HI := hid hi
    obtain ⟨lo, po, qo, fo⟩ := ho
    obtain ⟨lr, pr, qr, fr⟩ := hr
    obtain ⟨li, pi, qi, fi⟩ := hi
    have CB := hid HV.out.lt
    clear hg hv
    by_cases hkn : k < xs.length ∧ k < 40
    · obtain ⟨x, hx⟩ : ∃ x, xs[k]? = some x := ⟨xs[k], by simp [hkn.1]⟩
      obtain ⟨bk, off, rfl, hat⟩ := hrow k x hx
      obtain ⟨c0, c1, c2, c3⟩ := hat.on HG.out
      have HX := hid hx
      have h40 : (k : Int) < 40 := by omega
      have hkl : (k : Int) < (xs.length : Int) := by omega
      clear hat hx
      obtain ⟨o, a, b, tx⟩ := x
      simp at c0 c1 c2 c3
      have e := hid (flatI_more xs k _ HX.out)
      have hne : ∀ b, b < w.heap.size + 3 → ∀ j, v.ownBlock = some j → j ≠ b := fun b hb j hj => by have := CB.out j hj; omega
      have HNE := hid hne
      clear hne
      rcases Nat.lt_or_ge 50 tx.size with h5 | h5
      · have h6 : (50 : Int) < (tx.size : Int) := by omega
        go_wp2_with (first | (at_builtin; refine wpList_append_own _ rfl _ _ 25 rfl (w.heap.size + 3) 23 i _ 4 40 Tryd.underlying25 i1 i2 i3 i4 rfl (by decide) _ _ _ rfl ((HV.out.alloc _).alloc _) ⟨wr.heap.size + 1, 0, none⟩ 1 1 [.int .i64 o, .int .i64 a, .int .i64 b, .string (tx.extract 0 50)] rfl rfl (by simpa using cell_new4 (wr.alloc (.cells #[.int .i64 o, .int .i64 a, .int .i64 b, .string (tx.extract 0 50)] 23)) o a b (tx.extract 0 50)) (by simp [Value.oneCell']) (by unfold maxLen; omega) (by omega) (by have := HO.out.lt; simp; omega) ?_; intro v1 y1 own1 gr1 _; obtain ⟨g1, p1, ev⟩ := own_some own1 (by omega); subst ev; have HO1 := hid ((HO.out.mono (((G.refl wr).alloc (.cells #[.int .i64 o, .int .i64 a, .int .i64 b, .string (tx.extract 0 50)] 23)).alloc (.cells #[.int .i64 o, .int .i64 a, .int .i64 b, .string (tx.extract 0 50)] 23))).turned gr1 (fun j hj => by have := CB.out j hj; omega)); obtain ⟨lo1, po1, qo1, fo1⟩ := HO1.out))
        have A1 := ((G.refl wr).alloc (.cells #[.int .i64 o, .int .i64 a, .int .i64 b, .string (tx.extract 0 50)] 23)).alloc (.cells #[.int .i64 o, .int .i64 a, .int .i64 b, .string (tx.extract 0 50)] 23)
        have ec : cells4 (cutI (o, a, b, tx)) = [.int .i64 o, .int .i64 a, .int .i64 b, .string (tx.extract 0 50)] := by simp [cells4, cutI, cut50, h5]
        have e := e.out
        rw [ec] at e
        refine ⟨⟨k + 1, by omega, by omega, by simp, ⟨_, own_keep (by rw [e]; exact own1) (fun j hj => by have := own1.lt j hj; omega) _, HO1.out.set _⟩, ((HR.out.mono A1).turned gr1 (HNE.out _ (by omega))).keep (by omega) _, ((HI.out.mono A1).turned gr1 (HNE.out _ (by omega))).keep (by omega) _, G.set ((HG.out.trans A1).grown gr1 (fun j hj => by have := CB.out j hj; omega)) (by simp; omega) _⟩, by simp [intOf]; omega⟩
      · have h6 : ¬ (50 : Int) < (tx.size : Int) := by omega
        go_wp2_with (first | (at_builtin; refine wpList_append_own _ rfl _ _ 25 rfl (w.heap.size + 3) 23 i _ 4 40 Tryd.underlying25 i1 i2 i3 i4 rfl (by decide) _ _ _ rfl ((HV.out.alloc _).alloc _) ⟨wr.heap.size + 1, 0, none⟩ 1 1 [.int .i64 o, .int .i64 a, .int .i64 b, .string tx] rfl rfl (by simpa using cell_new4 (wr.alloc (.cells #[.int .i64 o, .int .i64 a, .int .i64 b, .string tx] 23)) o a b tx) (by simp [Value.oneCell']) (by unfold maxLen; omega) (by omega) (by have := HO.out.lt; simp; omega) ?_; intro v1 y1 own1 gr1 _; obtain ⟨g1, p1, ev⟩ := own_some own1 (by omega); subst ev; have HO1 := hid ((HO.out.mono (((G.refl wr).alloc (.cells #[.int .i64 o, .int .i64 a, .int .i64 b, .string tx] 23)).alloc (.cells #[.int .i64 o, .int .i64 a, .int .i64 b, .string tx] 23))).turned gr1 (fun j hj => by have := CB.out j hj; omega)); obtain ⟨lo1, po1, qo1, fo1⟩ := HO1.out))
        have A1 := ((G.refl wr).alloc (.cells #[.int .i64 o, .int .i64 a, .int .i64 b, .string tx] 23)).alloc (.cells #[.int .i64 o, .int .i64 a, .int .i64 b, .string tx] 23)
        have ec : cells4 (cutI (o, a, b, tx)) = [.int .i64 o, .int .i64 a, .int .i64 b, .string tx] := by simp [cells4, cutI, cut50, Nat.not_lt.2 h5]
        have e := e.out
        rw [ec] at e
        refine ⟨⟨k + 1, by omega, by omega, by simp, ⟨_, own_keep (by rw [e]; exact own1) (fun j hj => by have := own1.lt j hj; omega) _, HO1.out.set _⟩, ((HR.out.mono A1).turned gr1 (HNE.out _ (by omega))).keep (by omega) _, ((HI.out.mono A1).turned gr1 (HNE.out _ (by omega))).keep (by omega) _, G.set ((HG.out.trans A1).grown gr1 (fun j hj => by have := CB.out j hj; omega)) (by simp; omega) _⟩, by simp [intOf]; omega⟩
    · have h9 := hid (show k = min xs.length 40 by omega)
      have hcase : (¬ (k : Int) < (xs.length : Int)) ∨ ((k : Int) < (xs.length : Int) ∧ ¬ (k : Int) < 40) := by omega
      have hx9 : (xs.map cutI).take 40 = (xs.map cutI).take k := by
        rcases Nat.lt_or_ge xs.length 40 with h | h
        · rw [List.take_of_length_le (by simp; omega), List.take_of_length_le (by simp; omega)]
        · rw [show k = 40 by omega]
      have HX9 := hid hx9
      clear hx9
      rcases own_form HV.out with ⟨ev, ev0⟩ | ⟨g1, p1, ev, evb, evg, evn⟩
      all_goals (
        subst ev
        rcases hcase with hq | ⟨hq, hq2⟩
        all_goals first
          | (exfalso; omega)
          | (clear hkn
             go_wp2_with fail
             refine post_code Tryd.results8 rfl ((HR.out.set _).set1 _) ⟨_, by rw [hm8.out], ?_, G.set (G.set HG.out (by simp) _) (by simp) _⟩
             rw [← h9.out, HX9.out]
             exact own_keep (own_keep (own_base HV.out (by omega)) (fun j hj => by have := CB.out j hj; omega) _) (fun j hj => by have := CB.out j hj; omega) _)))
end Go.Proofs.YtpeioflembhedaaDoor
