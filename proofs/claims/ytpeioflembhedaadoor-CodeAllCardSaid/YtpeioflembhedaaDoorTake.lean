/-
  Take: bytes as code, or an error. No conditions but on sizes.
-/
import Derived.Test.YtpeioflembhedaaDoorTakeD
import Derived.Deep.CutRange
namespace Go.Proofs.YtpeioflembhedaaDoor
open Go.RowKit

abbrev NilS : Value := .slice none 0 0
theorem own_turn {X : Nat → Prop} {w w' : World} {B n e s : Nat} {v : Value} {xs : List Value} (h : w.ownsRow B e s v n xs) (hg : Turn X w w') (hx : ∀ j, v.ownBlock = some j → ¬ X j) : w'.ownsRow B e s v n xs := by
  refine ⟨h.1, ?_⟩
  rcases h.2 with hn | ⟨g, cap, cur, rfl, hb, hgg, rest⟩
  · exact .inl hn
  · refine .inr ⟨g, cap, cur, rfl, hb, ?_, rest⟩
    rw [hg.block g (Array.getElem?_eq_some_iff.1 hgg).1 (hx g rfl)]
    exact hgg
/-- What stands while the entries are taken. -/
structure Tk (w wc : World) (p : Option Addr) (c : Nat) (l : List UInt8) (e : Int) (es : List Int) (ve : Value) : Prop where
  rd : ∃ p' c', Rd wc (w.heap.size + 1) p' l c' e ∧ Sub p' c' p c
  vr : Var wc (w.heap.size + 1 + 1) NilS ve
  oe : wc.ownsRow (w.heap.size + 3) 3 1 ve es.length (ints es)
  rv : Var wc w.heap.size NilS NilS
  g : G w wc
  off : ∀ X : Nat → Prop, (∀ k, X k → w.heap.size ≤ k) → Off X p c
theorem Tk.call {w wc w' : World} {p : Option Addr} {c : Nat} {l : List UInt8} {e : Int} {es : List Int} {ve : Value} (h : Tk w wc p c l e es ve) {p1 p2 : Option Addr} {c1 c2 : Nat} {l' : List UInt8} {e' : Int} (h1 : Sub p1 c1 p c) (hr : Rd w' (w.heap.size + 1) p2 l' c2 e') (hs : Sub p2 c2 p1 c1) (ht : Turn (fun k => k = w.heap.size + 1) wc w') : Tk w w' p c l' e' es ve :=
  ⟨⟨p2, c2, hr, hs.trans h1⟩, h.vr.turn ht (by omega), own_turn h.oe ht (fun j hj => by have := (h.oe.lt j hj).1; omega), h.rv.turn ht (by omega), ht.G h.g (fun k hk => by omega), h.off⟩
theorem Tk.on {w wc w' : World} {p : Option Addr} {c : Nat} {l : List UInt8} {e : Int} {es : List Int} {ve : Value} (h : Tk w wc p c l e es ve) (g : G wc w') : Tk w w' p c l e es ve :=
  have ⟨p1, c1, hr, hs⟩ := h.rd
  ⟨⟨p1, c1, hr.on g, hs⟩, h.vr.mono g, own_g h.oe g, h.rv.mono g, h.g.trans g, h.off⟩
/-- One entry more. -/
theorem Tk.push {w wc y : World} {p : Option Addr} {c : Nat} {l : List UInt8} {e n : Int} {es : List Int} {ve v1 : Value} (h : Tk w wc p c l e es ve) (gr : (wc.alloc (.cells #[.int .i64 n] 3)).grownBy y ve.ownBlock) (own : y.ownsRow (w.heap.size + 3) 3 1 v1 (es.length + 1) (ints es ++ [.int .i64 n])) :
    Var y (w.heap.size + 1 + 1) NilS ve ∧ Tk w (y.setCell ⟨w.heap.size + 1 + 1, 1, none⟩ v1) p c l e (es ++ [n]) v1 := by
  have h' := h.on ((G.refl wc).alloc (.cells #[.int .i64 n] 3))
  have ht : Turn (fun k => ve.ownBlock = some k) (wc.alloc (.cells #[.int .i64 n] 3)) y := Turn.grown gr fun _ h => h
  have hne : ∀ k, k < w.heap.size + 3 → ve.ownBlock ≠ some k := fun k hk e => by have := (h.oe.lt k e).1; omega
  have ht2 : Turn (fun k => k = w.heap.size + 1 + 1) y (y.setCell ⟨w.heap.size + 1 + 1, 1, none⟩ v1) := Turn.set (X := fun k => k = w.heap.size + 1 + 1) _ rfl _
  obtain ⟨p1, c1, hr, hs⟩ := h'.rd
  have o1 : Off (fun k => ve.ownBlock = some k) p1 c1 := hs.off (h.off _ fun k hk => by have := (h.oe.lt k hk).1; omega)
  have o2 : Off (fun k => k = w.heap.size + 1 + 1) p1 c1 := hs.off (h.off _ fun k hk => by omega)
  have hv := h'.vr.turn ht (hne _ (by omega))
  refine ⟨hv, ⟨p1, c1, (hr.turn ht (hne _ (by omega)) o1).turn ht2 (by omega) o2, hs⟩, hv.set1 v1, ?_, (h'.rv.turn ht (hne _ (by omega))).turn ht2 (by omega), ht2.G (ht.G h'.g (fun k hk => by have := (h.oe.lt k hk).1; omega)) (fun k hk => by omega), h.off⟩
  have e1 : (es ++ [n]).length = es.length + 1 := by simp
  have e2 : ints (es ++ [n]) = ints es ++ [.int .i64 n] := by simp [ints]
  rw [e1, e2]
  exact own_turn own ht2 fun j hj => by have := (own.lt j hj).1; omega

theorem ask_false_ne (e : Int) : askR false 3 e ≠ 0 := by
  unfold askR
  by_cases h : e = 0 <;> simp [h]
theorem ask_zero3 {ok : Bool} {e : Int} (h : askR ok 3 e = 0) : ok = true ∧ e = 0 := by
  unfold askR at h
  split at h
  · cases h
  · rename_i hn
    subst h
    cases ok <;> simp at hn ⊢
theorem ents_own {w : World} {B : Nat} {v : Value} {es : List Int} (h : w.ownsRow B 3 1 v es.length (ints es)) : ∃ p c, v = .slice p es.length c ∧ Ents w p es ∧ es.length ≤ c := by
  rcases own_form h with ⟨rfl, hn⟩ | ⟨g, c, rfl, hb, hg, hc⟩
  · refine ⟨none, 0, by rw [hn], ?_, by omega⟩
    intro k x hx
    have : es = [] := List.eq_nil_of_length_eq_zero hn
    rw [this] at hx
    cases hx
  · refine ⟨some ⟨g, 0, none⟩, c, rfl, fun k n hk => ?_, hc⟩
    have h1 : (ints es)[k]? = some (.int .i64 n) := by simp [ints, hk]
    have h2 := own_cells h k _ h1
    rw [add_off] at h2
    exact ⟨g, 0, rfl, by rw [Nat.zero_add]; exact h2⟩
/-- Take's results. -/
def TakePost (r : (List Int × List I) × Int) (w : World) (x : Ending) (w' : World) : Prop :=
  ∃ p1 c1 q1 c2, x = .returned (.tuple #[.agg #[.slice p1 r.1.2.length c1, .slice q1 r.1.1.length c2], .int .i64 r.2]) ∧ Row w' p1 r.1.2 ∧ Ents w' q1 r.1.1 ∧ r.1.2.length ≤ c1 ∧ r.1.1.length ≤ c2 ∧ G w w'
/-- What stands while the instructions are taken: lb holds how many there are to be. -/
structure Tx (w wc : World) (p : Option Addr) (c : Nat) (l : List UInt8) (e : Int) (es : List Int) (ve : Value) (lb : Nat) (m : Int) (xs : List I) (vx : Value) : Prop where
  rd : ∃ p' c', Rd wc (w.heap.size + 1) p' l c' e ∧ Sub p' c' p c
  vr : Var wc (w.heap.size + 1 + 1) vx ve
  oe : wc.ownsRow (w.heap.size + 3) 3 1 ve es.length (ints es)
  ox : wc.ownsRow (lb + 1) 23 4 vx xs.length (flatI xs)
  lo : wc.cell? ⟨lb, 0, none⟩ = some (.int .i64 m)
  hlb : w.heap.size + 3 ≤ lb
  hl : lb < wc.heap.size
  hve : ∀ j, ve.ownBlock = some j → j < lb
  rv : Var wc w.heap.size NilS NilS
  g : G w wc
  off : ∀ X : Nat → Prop, (∀ k, X k → w.heap.size ≤ k) → Off X p c
theorem Tx.call {w wc w' : World} {p : Option Addr} {c : Nat} {l : List UInt8} {e : Int} {es : List Int} {ve : Value} {lb : Nat} {m : Int} {xs : List I} {vx : Value} (h : Tx w wc p c l e es ve lb m xs vx) {p1 p2 : Option Addr} {c1 c2 : Nat} {l' : List UInt8} {e' : Int} (h1 : Sub p1 c1 p c) (hr : Rd w' (w.heap.size + 1) p2 l' c2 e') (hs : Sub p2 c2 p1 c1) (ht : Turn (fun k => k = w.heap.size + 1) wc w') : Tx w w' p c l' e' es ve lb m xs vx :=
  have hb := h.hlb
  ⟨⟨p2, c2, hr, hs.trans h1⟩, h.vr.turn ht (by omega), own_turn h.oe ht (fun j hj => by have := (h.oe.lt j hj).1; omega), own_turn h.ox ht (fun j hj => by have := (h.ox.lt j hj).1; omega), turn_cell h.lo ht (by show ¬ lb = w.heap.size + 1; omega), hb, Nat.lt_of_lt_of_le h.hl ht.size, h.hve, h.rv.turn ht (by omega), ht.G h.g (fun k hk => by omega), h.off⟩
theorem Tx.on {w wc w' : World} {p : Option Addr} {c : Nat} {l : List UInt8} {e : Int} {es : List Int} {ve : Value} {lb : Nat} {m : Int} {xs : List I} {vx : Value} (h : Tx w wc p c l e es ve lb m xs vx) (g : G wc w') : Tx w w' p c l e es ve lb m xs vx :=
  have ⟨p1, c1, hr, hs⟩ := h.rd
  ⟨⟨p1, c1, hr.on g, hs⟩, h.vr.mono g, own_g h.oe g, own_g h.ox g, g.cell h.lo, h.hlb, Nat.lt_of_lt_of_le h.hl g.size, h.hve, h.rv.mono g, h.g.trans g, h.off⟩
theorem Tx.push {w wc y : World} {p : Option Addr} {c : Nat} {l : List UInt8} {e : Int} {es : List Int} {ve : Value} {lb : Nat} {m : Int} {xs : List I} {vx v1 : Value} {x : I} (h : Tx w wc p c l e es ve lb m xs vx) (gr : (wc.alloc (.cells #[.int .i64 x.1, .int .i64 x.2.1, .int .i64 x.2.2.1, .string x.2.2.2] 23)).grownBy y vx.ownBlock) (own : y.ownsRow (lb + 1) 23 4 v1 (xs.length + 1) (flatI xs ++ cells4 x)) :
    Var y (w.heap.size + 1 + 1) vx ve ∧ Tx w (y.setCell ⟨w.heap.size + 1 + 1, 0, none⟩ v1) p c l e es ve lb m (xs ++ [x]) v1 := by
  have hb := h.hlb
  have h' := h.on ((G.refl wc).alloc (.cells #[.int .i64 x.1, .int .i64 x.2.1, .int .i64 x.2.2.1, .string x.2.2.2] 23))
  have ht : Turn (fun k => vx.ownBlock = some k) (wc.alloc (.cells #[.int .i64 x.1, .int .i64 x.2.1, .int .i64 x.2.2.1, .string x.2.2.2] 23)) y := Turn.grown gr fun _ h => h
  have hne : ∀ k, k < lb + 1 → vx.ownBlock ≠ some k := fun k hk e => by have := (h.ox.lt k e).1; omega
  have ht2 : Turn (fun k => k = w.heap.size + 1 + 1) y (y.setCell ⟨w.heap.size + 1 + 1, 0, none⟩ v1) := Turn.set (X := fun k => k = w.heap.size + 1 + 1) _ rfl _
  obtain ⟨p1, c1, hr, hs⟩ := h'.rd
  have o1 : Off (fun k => vx.ownBlock = some k) p1 c1 := hs.off (h.off _ fun k hk => by have := (h.ox.lt k hk).1; omega)
  have o2 : Off (fun k => k = w.heap.size + 1 + 1) p1 c1 := hs.off (h.off _ fun k hk => by omega)
  have hv := h'.vr.turn ht (hne _ (by omega))
  refine ⟨hv, ⟨p1, c1, (hr.turn ht (hne _ (by omega)) o1).turn ht2 (by omega) o2, hs⟩, hv.set v1, ?_, ?_, turn_cell (turn_cell h'.lo ht (hne _ (by show lb < lb + 1; omega))) ht2 (by show ¬ lb = w.heap.size + 1 + 1; omega), hb, Nat.lt_of_lt_of_le h'.hl (Nat.le_trans ht.size ht2.size), h.hve, (h'.rv.turn ht (hne _ (by omega))).turn ht2 (by omega), ht2.G (ht.G h'.g (fun k hk => by have := (h.ox.lt k hk).1; omega)) (fun k hk => by omega), h.off⟩
  · exact own_turn (own_turn h'.oe ht fun j hj => hne j (by have := h.hve j hj; omega)) ht2 fun j hj => by have := (h.oe.lt j hj).1; omega
  · have e1 : (xs ++ [x]).length = xs.length + 1 := by simp
    rw [e1, flatI_snoc]
    exact own_turn own ht2 fun j hj => by have := (own.lt j hj).1; omega
theorem Tx.last {w wc : World} {p : Option Addr} {c : Nat} {l : List UInt8} {e : Int} {es : List Int} {ve : Value} {lb : Nat} {m : Int} {xs : List I} {vx : Value} (h : Tx w wc p c l e es ve lb m xs vx) :
    Var ((wc.setCell ⟨w.heap.size, 0, none⟩ vx).setCell ⟨w.heap.size, 1, none⟩ ve) w.heap.size vx ve ∧ ∃ p1 c1 q1 c2, vx = .slice p1 xs.length c1 ∧ ve = .slice q1 es.length c2 ∧ Row ((wc.setCell ⟨w.heap.size, 0, none⟩ vx).setCell ⟨w.heap.size, 1, none⟩ ve) p1 xs ∧ Ents ((wc.setCell ⟨w.heap.size, 0, none⟩ vx).setCell ⟨w.heap.size, 1, none⟩ ve) q1 es ∧ xs.length ≤ c1 ∧ es.length ≤ c2 ∧ G w ((wc.setCell ⟨w.heap.size, 0, none⟩ vx).setCell ⟨w.heap.size, 1, none⟩ ve) := by
  have hb := h.hlb
  have ht : Turn (fun k => k = w.heap.size) wc ((wc.setCell ⟨w.heap.size, 0, none⟩ vx).setCell ⟨w.heap.size, 1, none⟩ ve) := (Turn.set (X := fun k => k = w.heap.size) _ rfl _).trans (Turn.set (X := fun k => k = w.heap.size) _ rfl _)
  have ox := own_turn h.ox ht fun j hj => by have := (h.ox.lt j hj).1; omega
  have oe := own_turn h.oe ht fun j hj => by have := (h.oe.lt j hj).1; omega
  obtain ⟨p1, c1, e1, hr, hc, _⟩ := own_slice ox
  obtain ⟨q1, c2, e2, he, hc2⟩ := ents_own oe
  exact ⟨(h.rv.set vx).set1 ve, p1, c1, q1, c2, e1, e2, hr, he, hc, hc2, ht.G h.g fun k hk => by omega⟩
theorem cell_newI (w : World) (x : I) : ∀ j u, (cells4 x)[j]? = some u → (w.alloc (.cells #[.int .i64 x.1, .int .i64 x.2.1, .int .i64 x.2.2.1, .string x.2.2.2] 23)).cell? ((⟨w.heap.size, 0, none⟩ : Addr).add j) = some u := cell_new4 w x.1 x.2.1 x.2.2.1 x.2.2.2
theorem Tx.of {w wc : World} {p : Option Addr} {c : Nat} {l : List UInt8} {e : Int} {es : List Int} {ve : Value} (h : Tk w wc p c l e es ve) (m : Int) : Tx w (wc.alloc (.cells #[.int .i64 m] 3)) p c l e es ve wc.heap.size m [] NilS := by
  have g : G wc (wc.alloc (.cells #[.int .i64 m] 3)) := (G.refl wc).alloc _
  obtain ⟨p1, c1, hr, hs⟩ := h.rd
  have hl := h.vr.lt
  exact ⟨⟨p1, c1, hr.on g, hs⟩, h.vr.mono g, own_g h.oe g, World.ownsRow_nil _ _ _ _, by simp [go_sem], by omega, by simp, fun j hj => (h.oe.lt j hj).2, h.rv.mono g, h.g.trans g, h.off⟩
set_option maxRecDepth 100000 in
set_option maxHeartbeats 4000000 in
theorem take_walk (p : Option Addr) (l : List UInt8) (c : Nat) (w : World) (hb : Bys w p l c) (hl : l.length ≤ 100000) :
    Calls Tryd.prog 15 #[.slice p l.length c] w (TakePost (takeR l) w) := by
  have HB := hid hb
  have HL := hid hl
  clear hb
  go_enter Tryd.func15, Tryd.ntmps15
  go_wp2_with fail
  have T : Hid (Tk w (((w.alloc (.cells #[NilS, NilS] 28)).alloc (.cells #[.slice p l.length c, .int .i64 0] 57)).alloc (.cells #[NilS, NilS] 28)) p c l 0 [] NilS) := by
    have g := ((G.refl w).alloc (.cells #[NilS, NilS] 28)).alloc (.cells #[.slice p l.length c, .int .i64 0] 57)
    have g3 := g.alloc (.cells #[NilS, NilS] 28)
    have hoff : ∀ X : Nat → Prop, (∀ k, X k → w.heap.size ≤ k) → Off X p c := fun X hX => HB.out.off hX
    refine hid ⟨⟨p, c, ⟨by simp, by simp [go_sem], by simp [go_sem], fun i => by simp [go_sem], HB.out.on g3, hoff _ (fun k hk => by omega)⟩, Sub.refl _ _⟩, ⟨by simp, by simp [go_sem], by simp [go_sem], fun i => by simp [go_sem]⟩, World.ownsRow_nil _ _ _ _, ⟨by simp <;> omega, by simp [go_sem], by simp [go_sem], fun i => by simp [go_sem]⟩, g3, hoff⟩
  obtain ⟨q1, d1, hrd, hsub⟩ := T.out.rd
  refine (one_any _ q1 l d1 0 _ hrd (by omega)).mono ?_
  rintro x w1 ⟨rfl, p1, c1, hr, hs, ht⟩
  replace T := hid (T.out.call hsub hr hs ht)
  clear hrd hsub hr hs ht
  have hb1 := one_bd l 0
  have hl1 := one_len l 0
  obtain ⟨r1, hr1⟩ : ∃ r1, Hid (oneR l 0 = r1) := ⟨_, rfl⟩
  rw [hr1.out] at T hb1 hl1 ⊢
  obtain ⟨m1, l1, e1⟩ := r1
  simp only at hb1 hl1
  obtain ⟨hb1, hb2⟩ := hb1
  obtain ⟨N, rfl⟩ : ∃ N : Nat, m1 = (N : Int) := ⟨m1.toNat, by omega⟩
  replace T : Hid (Tk w w1 p c l1 e1 [] NilS) := hid T.out
  obtain ⟨ok6, hok6⟩ : ∃ ok6, Hid (decide ((N : Int) ≤ 6) = ok6) := ⟨_, rfl⟩
  have hd6 := hok6.out
  obtain ⟨q2, d2, hrd, hsub⟩ := T.out.rd
  go_wp2_with fail
  refine (ask_any _ q2 l1 d2 e1 3 ok6 _ hrd).mono ?_
  rintro x w2 ⟨rfl, hr, ht⟩
  replace T := hid (T.out.call hsub hr (Sub.refl _ _) ht)
  clear hrd hsub hr ht hd6
  obtain ⟨e2, he2⟩ : ∃ e2, Hid (askR ok6 3 e1 = e2) := ⟨_, rfl⟩
  rw [he2.out] at T ⊢
  obtain ⟨i, i1, i2, i3, i4⟩ := info3
  go_wp2_with fail
  go_loopg [19] N (fun n j wr => ∃ k : Nat, k ≤ N ∧ n = N - k ∧ j = .int .i64 k ∧ ∃ l' e' es ve, Tk w wr p c l' e' es ve ∧ es.length ≤ k ∧ l'.length ≤ l1.length ∧ Hid (entsT N l1 e2 = (es ++ (entsT (N - k) l' e').1, (entsT (N - k) l' e').2)))
  case atStart => exact ⟨0, by omega, rfl, rfl, l1, e2, [], NilS, T.out, Nat.le_refl _, Nat.le_refl _, hid rfl⟩
  case round =>
    obtain ⟨k, hk, rfl, rfl, l', e', es, ve, hT, hes, hll, hrec⟩ := hrel
    clear T
    have T := hid hT
    clear hT
    by_cases hkn : k < N
    · have hkz : (k : Int) < (N : Int) := by omega
      obtain ⟨q3, d3, hrd, hsub⟩ := T.out.rd
      have hc1 := hrd.c1
      by_cases he : e' = 0
      · subst he
        go_upto_region 8 with (fail)
        clear hrd hsub hc1
        have T0 := T.out.on (G.drew (G.refl wr))
        refine wp_region_chain 89 [0, 1, 2, 6] [3, 4, 5, 7] [0, 2, 6] [26, 27, 28, 29, 30, 31, 32] (fun j => if j ≤ 2 then [1] else []) (fun i => if i = 0 then (.pointer (some ⟨w.heap.size + 1 + 1, 1, none⟩)) else if i = 1 then ve else if i = 2 then .pointer (some ⟨w.heap.size + 1, 0, none⟩) else (.pointer (some ⟨w.heap.size + 1 + 1, 1, none⟩))) (by kernel_rfl) (by kernel_rfl) (by kernel_rfl) rfl ?_ ?_
        · intro w9
          exact ⟨⟨_, rfl, fun ac hin => pure_addr28 rfl rfl (by decide) (hin 5 (by decide))⟩, ⟨_, rfl, fun ac hin => pure_move rfl rfl (hin 4 (by decide))⟩, ⟨_, rfl, fun ac hin => pure_addr28 rfl rfl (by decide) (hin 5 (by decide))⟩, trivial⟩
        · obtain ⟨q4, d4, hrd, hsub⟩ := T0.rd
          refine ⟨⟨⟨_, rfl, fun ac hin => pure_load26 rfl rfl (hin 26 (by decide)) T0.vr.c1⟩, trivial⟩, _, rfl, fun ac hin => ⟨rfl, ?_⟩⟩
          have h28 : ac.eval (.tmp 28) = .pointer (some ⟨w.heap.size + 1, 0, none⟩) := hin 28 (by decide)
          refine eff_call Tryd.call38 #[.pointer (some ⟨w.heap.size + 1, 0, none⟩)] (by simp only [List.map_toArray, List.map_cons, List.map_nil, h28]) ((numb_any _ q4 l' d4 0 _ hrd (by omega)).mono ?_)
          rintro x w5 ⟨rfl, p5, c5, hr5, hs5, ht5⟩
          refine ⟨_, rfl, ?_⟩
          have T1 := T0.call hsub hr5 hs5 ht5
          have hn5 := numb_len l' 0
          refine ⟨⟨⟨_, rfl, fun ac hin => pure_load26 rfl rfl (hin 26 (by decide)) T1.vr.c1⟩, trivial⟩, _, rfl, fun ac hin => ⟨rfl, eff_build_int rfl (hin 29 (by decide)) ?_⟩⟩
          have T2 := T1.on ((G.refl w5).alloc (.cells #[.int .i64 (numbR l' 0).1] 3))
          refine ⟨⟨⟨_, rfl, fun ac hin => pure_load26 rfl rfl (hin 26 (by decide)) T2.vr.c1⟩, trivial⟩, _, rfl, fun ac hin => ⟨rfl, ?_⟩⟩
          refine eff_append _ _ 26 rfl (w.heap.size + 3) 3 i (.int .i64 0) 1 8 Tryd.underlying26 i1 i2 i3 i4 rfl (by decide) ve es.length (ints es) (hin 27 (by decide)) T2.oe ⟨w5.heap.size, 0, none⟩ 1 1 [.int .i64 (numbR l' 0).1] (hin 30 (by decide)) rfl (cell_new1 _ _ _) (by simp [Value.oneCell']) (by unfold maxLen; omega) (by omega) (by have h := T1.vr.lt; simp; omega) ?_
          intro v6 w6 own6 gr6
          obtain ⟨hv6, T3⟩ := T1.push gr6 own6
          refine ⟨trivial, _, rfl, fun ac hin => ⟨rfl, eff_store26 rfl hv6 (hin 32 (by decide)) (hin 31 (by decide)) (slice_form own6) ⟨trivial, fun s' hs => ?_⟩⟩⟩
          clear hs hrd hsub hr5 hs5 ht5 own6 gr6 hv6 T0 T1 T2 T
          have T := hid T3
          clear T3
          simp only [putAll, List.foldl_cons, List.foldl_nil]
          go_wp2_with fail
          go_roundg (N - (k + 1))
          case measure => go_light; omega
          case rel =>
            go_light
            have hr := hrec.out
            rw [show N - k = (N - (k + 1)) + 1 by omega] at hr
            exact ⟨k + 1, by omega, rfl, by go_num, (numbR l' 0).2.1, (numbR l' 0).2.2, es ++ [(numbR l' 0).1], v6, T.out, by simp; omega, by omega, hid (by simpa [entsT] using hr)⟩
      · have hez : (e' == 0) = false := by simp [he]
        have HE := hid he
        clear he
        go_wp2_with fail
        go_roundg (N - (k + 1))
        case measure => go_light; omega
        case rel =>
          go_light
          have hr := hrec.out
          rw [entsT_bad _ _ _ HE.out] at hr
          exact ⟨k + 1, by omega, rfl, by go_num, l', e', es, ve, T.out, by omega, hll, hid (by rw [entsT_bad _ _ _ HE.out]; exact hr)⟩
    · obtain rfl : k = N := by omega
      have hT1 := hrec.out
      rw [Nat.sub_self] at hT1
      simp only [entsT, List.append_nil] at hT1
      have HT1 := hid hT1
      clear hT1 hrec
      have hkz : ¬ (k : Int) < (k : Int) := by omega
      obtain ⟨q5, d5, hrd, hsub⟩ := T.out.rd
      go_wp2_with fail
      refine (numb_any _ q5 l' d5 e' _ hrd (by omega)).mono ?_
      rintro x w3 ⟨rfl, p5, c5, hr5, hs5, ht5⟩
      replace T := hid (T.out.call hsub hr5 hs5 ht5)
      clear hrd hsub hr5 hs5 ht5
      have hb3 := numb_bd l' e'
      have hl3 := numb_len l' e'
      obtain ⟨r2, hr2⟩ : ∃ r2, Hid (numbR l' e' = r2) := ⟨_, rfl⟩
      rw [hr2.out] at T hb3 hl3 ⊢
      obtain ⟨m, l3, e3⟩ := r2
      simp only at hb3 hl3
      replace T : Hid (Tk w w3 p c l3 e3 es ve) := hid T.out
      have X : Hid (Tx w (w3.alloc (.cells #[.int .i64 m] 3)) p c l3 e3 es ve w3.heap.size m [] NilS) := hid (Tx.of T.out m)
      obtain ⟨y, hy⟩ : ∃ y, Hid (es.any (entOver m) = y) := ⟨_, rfl⟩
      obtain ⟨lb, hlb⟩ : ∃ lb, Hid (w3.heap.size = lb) := ⟨_, rfl⟩
      have HYok := hy
      go_upto_region 11 with (fail)
      have hX0 := X
      go_cut [] from 36 to 50 (fun wc => ∃ (ok : Bool) (e4 : Int), Tx w wc p c l3 e4 es ve w3.heap.size m [] NilS ∧ Hid ((decide (0 ≤ m) && decide (m ≤ 1200) && !es.any (entOver m)) = ok) ∧ Hid (askR ok 3 e3 = e4))
      case first =>
        obtain ⟨lv, pv, qv, fv⟩ := X.out.vr
        have lo1 := X.out.lo
        rcases (show m < 0 ∨ (0 ≤ m ∧ 1200 < m) ∨ (0 ≤ m ∧ m ≤ 1200) by omega) with hm | ⟨hm, hm2⟩ | ⟨hm, hm2⟩
        · have hok : Hid ((decide (0 ≤ m) && decide (m ≤ 1200) && !es.any (entOver m)) = false) := hid (by simp; omega)
          go_wp2_with fail
          obtain ⟨q6, d6, hrd, hsub⟩ := X.out.rd
          refine (ask_any _ q6 l3 d6 e3 3 false _ hrd).mono ?_
          rintro x w4 ⟨rfl, hr6, ht6⟩
          have X4 := hid (X.out.call hsub hr6 (Sub.refl _ _) ht6)
          clear hrd hsub hr6 ht6 lv pv qv fv lo1
          go_wp2_with fail
          go_meet
          case rel => exact ⟨false, _, X4.out, hok, hid rfl⟩
        · have hok : Hid ((decide (0 ≤ m) && decide (m ≤ 1200) && !es.any (entOver m)) = false) := hid (by simp; omega)
          go_wp2_with fail
          obtain ⟨q6, d6, hrd, hsub⟩ := X.out.rd
          refine (ask_any _ q6 l3 d6 e3 3 false _ hrd).mono ?_
          rintro x w4 ⟨rfl, hr6, ht6⟩
          have X4 := hid (X.out.call hsub hr6 (Sub.refl _ _) ht6)
          clear hrd hsub hr6 ht6 lv pv qv fv lo1
          go_wp2_with fail
          go_meet
          case rel => exact ⟨false, _, X4.out, hok, hid rfl⟩
        · have hok : Hid ((decide (0 ≤ m) && decide (m ≤ 1200) && !es.any (entOver m)) = !y) := hid (by rw [hy.out]; simp [hm, hm2])
          go_wp2_with fail
          refine (contains_over X.out.oe w3.heap.size m (by omega) X.out.lo hy.out).mono ?_
          rintro x w9 ⟨rfl, g9⟩
          have X9 := hid (X.out.on g9)
          clear g9 lv pv qv fv lo1
          obtain ⟨lv, pv, qv, fv⟩ := X9.out.vr
          go_wp2_with fail
          obtain ⟨q6, d6, hrd, hsub⟩ := X9.out.rd
          refine (ask_any _ q6 l3 d6 e3 3 (!y) _ hrd).mono ?_
          rintro x w4 ⟨rfl, hr6, ht6⟩
          have X4 := hid (X9.out.call hsub hr6 (Sub.refl _ _) ht6)
          clear hrd hsub hr6 ht6 lv pv qv fv
          go_wp2_with fail
          go_meet
          case rel => exact ⟨_, _, X4.out, hok, hid rfl⟩
      case rest =>
        obtain ⟨ok, e4, hX4, hok, he4⟩ := hcut
        clear X hX0
        have X := hid hX4
        clear hX4
        have hbig : Hid (e4 = 0 → 0 ≤ m ∧ m ≤ 1200) := hid (by
          intro h
          have h2 := he4.out
          rw [h] at h2
          obtain ⟨rfl, _⟩ := ask_zero3 h2
          have h3 := hok.out
          simp only [Bool.and_eq_true, decide_eq_true_eq] at h3
          exact h3.1)
        have HFIN : Hid (∀ xs l9 e9 z, inssT m.toNat l3 e4 = (xs, l9, e9) → decide (l9.length = 0) = z → takeR l = if askR z 3 e9 = 0 then ((es, xs), 0) else (([], []), askR z 3 e9)) := hid (by
          intro xs l9 e9 z h1 h2
          unfold takeR
          simp only [hr1.out, Int.toNat_natCast, hok6.out, he2.out, HT1.out, hr2.out, hok.out, he4.out, h1, h2])
        have hXL : l3.length ≤ 100000 := by omega
        obtain ⟨lo0, po0, qo0, fo0⟩ := X.out.vr
        have lo1 := X.out.lo
        go_wp2_with fail
        obtain ⟨j, i1, i2, i3, i4⟩ := info23
        go_loopg [8] m.toNat (fun n jv wr => ∃ k : Nat, k ≤ m.toNat ∧ n = m.toNat - k ∧ jv = .int .i64 k ∧ ∃ l9 e9 xs vx, Tx w wr p c l9 e9 es ve w3.heap.size m xs vx ∧ xs.length ≤ k ∧ l9.length ≤ l3.length ∧ Hid (inssT m.toNat l3 e4 = (xs ++ (inssT (m.toNat - k) l9 e9).1, (inssT (m.toNat - k) l9 e9).2)) ∧ Hid (e4 ≠ 0 → e9 ≠ 0))
        case atStart => exact ⟨0, by omega, rfl, rfl, l3, e4, [], NilS, X.out, Nat.le_refl _, Nat.le_refl _, hid rfl, hid (fun h => h)⟩
        case round =>
          obtain ⟨kk, hkk, rfl, rfl, l9, e9, xs, vx, hX, hxs, hl9, hrec9, hst9⟩ := hrel
          clear X lo0 po0 qo0 fo0 lo1
          have X := hid hX
          clear hX
          obtain ⟨q7, d7, hrd, hsub⟩ := X.out.rd
          have hc1 := hrd.c1
          have hc0 := hrd.c0
          have lo1 := X.out.lo
          by_cases hgo : (kk : Int) < m ∧ e9 = 0
          · obtain ⟨hkm, rfl⟩ := hgo
            have he0 : e4 = 0 := Classical.byContradiction fun h => hst9.out h rfl
            have hmb := (hbig.out he0).2
            clear he0
            go_upto_region 15 with (fail)
            clear hrd hsub hc1 hc0 lo1
            have X0 := X.out.on (G.drew (G.refl wr))
            refine wp_region_chain 89 [0, 1, 2, 6] [3, 4, 5, 7] [0, 2, 6] [63, 64, 65, 66, 67, 68, 69] (fun j => if j ≤ 2 then [1] else []) (fun i => if i = 0 then (.pointer (some ⟨w.heap.size + 1 + 1, 0, none⟩)) else if i = 1 then vx else if i = 2 then .pointer (some ⟨w.heap.size + 1, 0, none⟩) else (.pointer (some ⟨w.heap.size + 1 + 1, 0, none⟩))) (by kernel_rfl) (by kernel_rfl) (by kernel_rfl) rfl ?_ ?_
            · intro w9
              exact ⟨⟨_, rfl, fun ac hin => pure_addr28 rfl rfl (by decide) (hin 5 (by decide))⟩, ⟨_, rfl, fun ac hin => pure_move rfl rfl (hin 4 (by decide))⟩, ⟨_, rfl, fun ac hin => pure_addr28 rfl rfl (by decide) (hin 5 (by decide))⟩, trivial⟩
            · obtain ⟨q4, d4, hrd, hsub⟩ := X0.rd
              refine ⟨⟨⟨_, rfl, fun ac hin => pure_load25 rfl rfl (hin 63 (by decide)) X0.vr.c0⟩, trivial⟩, _, rfl, fun ac hin => ⟨rfl, ?_⟩⟩
              have h65 : ac.eval (.tmp 65) = .pointer (some ⟨w.heap.size + 1, 0, none⟩) := hin 65 (by decide)
              refine eff_call Tryd.call40 #[.pointer (some ⟨w.heap.size + 1, 0, none⟩)] (by simp only [List.map_toArray, List.map_cons, List.map_nil, h65]) ((instr_any _ q4 l9 d4 0 _ hrd (by omega)).mono ?_)
              rintro x w5 ⟨rfl, p5, c5, hr5, hs5, ht5⟩
              refine ⟨_, rfl, ?_⟩
              have X1 := X0.call hsub hr5 hs5 ht5
              have hn5 := insT_len l9 0
              refine ⟨⟨⟨_, rfl, fun ac hin => pure_load25 rfl rfl (hin 63 (by decide)) X1.vr.c0⟩, trivial⟩, _, rfl, fun ac hin => ⟨rfl, eff_build_ins (i := (insT l9 0).1) rfl (hin 66 (by decide)) ?_⟩⟩
              have X2 := X1.on ((G.refl w5).alloc (.cells #[.int .i64 (insT l9 0).1.1, .int .i64 (insT l9 0).1.2.1, .int .i64 (insT l9 0).1.2.2.1, .string (insT l9 0).1.2.2.2] 23))
              refine ⟨⟨⟨_, rfl, fun ac hin => pure_load25 rfl rfl (hin 63 (by decide)) X2.vr.c0⟩, trivial⟩, _, rfl, fun ac hin => ⟨rfl, ?_⟩⟩
              refine eff_append _ _ 25 rfl (w3.heap.size + 1) 23 j _ 4 40 Tryd.underlying25 i1 i2 i3 i4 rfl (by decide) vx xs.length (flatI xs) (hin 64 (by decide)) X2.ox ⟨w5.heap.size, 0, none⟩ 1 1 (cells4 (insT l9 0).1) (hin 67 (by decide)) rfl (cell_newI _ _) (by simp [cells4, Value.oneCell']) (by unfold maxLen; omega) (by omega) (by have h := X1.hl; simp; omega) ?_
              intro v6 w6 own6 gr6
              obtain ⟨hv6, X3⟩ := X1.push gr6 own6
              refine ⟨trivial, _, rfl, fun ac hin => ⟨rfl, eff_store25 rfl hv6 (hin 69 (by decide)) (hin 68 (by decide)) (slice_form own6) ⟨trivial, fun s' hs => ?_⟩⟩⟩
              clear hs hrd hsub hr5 hs5 ht5 own6 gr6 hv6 X0 X1 X2 X
              have X := hid X3
              clear X3
              simp only [putAll, List.foldl_cons, List.foldl_nil]
              go_wp2_with fail
              go_roundg (m.toNat - (kk + 1))
              case measure => go_light; omega
              case rel =>
                    go_light
                    have hr := hrec9.out
                    rw [show m.toNat - kk = (m.toNat - (kk + 1)) + 1 by omega] at hr
                    exact ⟨kk + 1, by omega, rfl, by go_num, (insT l9 0).2.1, (insT l9 0).2.2, xs ++ [(insT l9 0).1], v6, X.out, by simp; omega, by omega, hid (by simpa [inssT] using hr), hid (fun h => absurd rfl (hst9.out h))⟩
          · have hstop : Hid (inssT (m.toNat - kk) l9 e9 = ([], l9, e9)) := hid (by
              by_cases h0 : e9 = 0
              · rw [show m.toNat - kk = 0 by have : ¬ (kk : Int) < m := fun h => hgo ⟨h, h0⟩; omega]
                rfl
              · exact inssT_bad _ _ _ h0)
            have hrr := hrec9.out
            rw [hstop.out, List.append_nil] at hrr
            have HI := hid hrr
            have hcase : (¬ (kk : Int) < m) ∨ ((kk : Int) < m ∧ (e9 == 0) = false) := by
              by_cases h : (kk : Int) < m
              · exact .inr ⟨h, by simp; exact fun h0 => hgo ⟨h, h0⟩⟩
              · exact .inl h
            clear hgo hrr hrec9 hst9
            rcases hcase with hq | ⟨hq, hq2⟩
            all_goals (
              first
                | (exfalso; omega)
                | (obtain ⟨z, hz⟩ : ∃ z, Hid (decide (l9.length = 0) = z) := ⟨_, rfl⟩
                   have hdz : ((l9.length : Int) == 0) = z := by
                     rw [← hz.out]
                     by_cases h : l9.length = 0 <;> simp [h]
                   go_wp2_with fail
                   refine (ask_any _ q7 l9 d7 e9 3 z _ hrd).mono ?_
                   rintro x w8 ⟨rfl, hr8, ht8⟩
                   replace X := hid (X.out.call hsub hr8 (Sub.refl _ _) ht8)
                   clear hrd hsub hr8 ht8 hc1 hc0 lo1 hdz
                   have HF := hid (HFIN.out xs l9 e9 z HI.out hz.out)
                   obtain ⟨e8, he8⟩ : ∃ e8, Hid (askR z 3 e9 = e8) := ⟨_, rfl⟩
                   rw [he8.out] at X HF ⊢
                   obtain ⟨q8, d8, hrd, hsub⟩ := X.out.rd
                   have hc1 := hrd.c1
                   obtain ⟨lr, pr, qr, fr⟩ := X.out.rv
                   obtain ⟨lv, pv, qv, fv⟩ := X.out.vr
                   by_cases h8 : e8 = 0
                   · have h8z : (e8 == 0) = true := by simp [h8]
                     have H8 := hid h8
                     clear h8
                     obtain ⟨hvar, pz, cz, qz, dz, ex, ee, hr, he, hc, hc2, hg⟩ := X.out.last
                     rw [ex] at pv
                     rw [ee] at qv
                     rw [ex, ee] at hvar hr he hg
                     have HVz := hid hvar
                     have HRz := hid hr
                     have HEz := hid he
                     have HGz := hid hg
                     clear hvar hr he hg ex ee
                     go_wp2_with fail
                     have hF := HF.out
                     rw [if_pos H8.out] at hF
                     refine post_code2 (e := .int .i64 0) Tryd.results15 rfl rfl HVz.out ?_
                     rw [hF]
                     exact ⟨pz, cz, qz, dz, rfl, HRz.out, HEz.out, hc, hc2, HGz.out⟩
                   · have h8z : (e8 == 0) = false := by simp [h8]
                     have H8 := hid h8
                     clear h8
                     go_upto_region 18 with (fail)
                     clear hc1 lr pr qr fr lv pv qv fv hrd hsub
                     have X0 := X.out.on (G.drew (G.refl w8))
                     obtain ⟨q9, d9, hrd, hsub⟩ := X0.rd
                     refine wp_region_chain 89 [0, 1, 2, 3, 4, 6] [5] [0, 1, 2, 3, 6] [83, 84, 85, 86, 87, 3] (fun _ => [4]) (fun i => if i = 0 then .agg #[NilS, NilS] else if i = 1 ∨ i = 2 then .pointer (some ⟨w.heap.size + 1, 0, none⟩) else if i = 3 then .pointer (some ⟨w.heap.size + 1, 1, none⟩) else .int .i64 e8) (by kernel_rfl) (by kernel_rfl) (by kernel_rfl) rfl ?_ ?_
                     · intro w9
                       exact ⟨⟨_, rfl, fun ac hin => pure_build28 rfl rfl⟩, ⟨_, rfl, fun ac hin => pure_move rfl rfl (hin 4 (by decide))⟩, ⟨_, rfl, fun ac hin => pure_nilcheck rfl rfl (hin 84 (by decide))⟩, ⟨_, rfl, fun ac hin => pure_addr57 rfl rfl (by decide) (hin 85 (by decide))⟩, ⟨_, rfl, fun ac hin => pure_assign rfl rfl (hin 87 (by decide))⟩, trivial⟩
                     · refine ⟨⟨⟨_, rfl, fun ac hin => pure_load35 rfl rfl (hin 86 (by decide)) hrd.c1⟩, trivial⟩, _, rfl, fun ac hin => ⟨rfl, ?_⟩⟩
                       refine eff_store28 rfl X0.rv (hin 2 (by decide)) (hin 83 (by decide)) rfl rfl ?_
                       have ht : Turn (fun k => k = w.heap.size) w8.drew ((w8.drew.setCell ⟨w.heap.size, 0, none⟩ NilS).setCell ⟨w.heap.size, 1, none⟩ NilS) := (Turn.set (X := fun k => k = w.heap.size) _ rfl _).trans (Turn.set (X := fun k => k = w.heap.size) _ rfl _)
                       refine ⟨⟨⟨_, rfl, fun ac hin => pure_load35 rfl rfl (hin 86 (by decide)) (turn_cell hrd.c1 ht (by show ¬ w.heap.size + 1 = w.heap.size; omega))⟩, trivial⟩, fun s' hs => ?_⟩
                       have h3 : s' 3 = .int .i64 e8 := hs 3 (by decide)
                       clear hs
                       have hv9 := (X0.rv.set NilS).set1 NilS
                       have hg9 := ht.G X0.g fun k hk => by omega
                       clear ht hrd hsub X0
                       generalize (w8.drew.setCell ⟨w.heap.size, 0, none⟩ NilS).setCell ⟨w.heap.size, 1, none⟩ NilS = W9 at hv9 hg9 ⊢
                       have HV9 := hid hv9
                       have HG9 := hid hg9
                       have H3 := hid h3
                       clear hv9 hg9 h3
                       go_wp2_with fail
                       have hF := HF.out
                       rw [if_neg H8.out] at hF
                       refine post_code2a (x := NilS) (y := NilS) (e := .int .i64 e8) Tryd.results15 (putAll_defers _ _ _) ((putAll_eval s' _ _ 2 (by show 2 < 89; decide)).trans (by rw [if_neg (by decide)]; rfl)) ((putAll_eval s' _ _ 3 (by show 3 < 89; decide)).trans (by rw [if_pos (by decide), H3.out])) HV9.out ?_
                       rw [hF]
                       exact ⟨none, 0, none, 0, rfl, fun k x h => by simp at h, fun k x h => by simp at h, Nat.le_refl _, Nat.le_refl _, HG9.out⟩))
end Go.Proofs.YtpeioflembhedaaDoor
