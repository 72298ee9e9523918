/-
  The document's Take: bytes as code, or an error. No conditions but on sizes.
-/
import Derived.Test.YtpeioflembhedaaDoorInsRef
namespace Go.Proofs.YtpeioflembhedaaDoor
open Go.RowKit

section
variable {ops : Array Oper} {a : Act} {w : World} {o : Oper}
theorem pure_addr63 {x : Operand} {k b : Nat} (hw : Region.wanted o (yielded ops a.tmps) = true) (h : o.op = .fieldAddr 63 x k) (hk : k < 2) (hx : a.eval x = .pointer (some ⟨b, 0, none⟩)) : pureAt Tryd.prog ops o a w (.pointer (some ⟨b, k, none⟩)) := by
  refine pure_run hw ?_
  unfold execOp
  rw [h]
  simp only [hx]
  rcases (show k = 0 ∨ k = 1 by omega) with rfl | rfl <;> simp [go_sem]
end
theorem ask_two (a b : Bool) (e : Int) : askR b 3 (askR a 3 e) = askR (a && b) 3 e := by
  unfold askR
  cases a <;> cases b <;> by_cases h : e = 0 <;> simp [h]
theorem ents_at {w : World} {B n c : Nat} {q : Option Addr} {es : List Int} (h : w.ownsRow B 3 1 (.slice q n c) es.length (ints es)) : Ents w q es := by
  obtain ⟨q1, c2, e2, he, hc2⟩ := ents_own h
  cases e2
  exact he
/-- What stands while the instructions are taken. -/
structure Ty (w wc : World) (p : Option Addr) (c : Nat) (l : List UInt8) (e : Int) (es : List Int) (ve : Value) (lb : Nat) (xs : List I) (vx : Value) : Prop where
  rd : ∃ p' c', Rd wc (w.heap.size + 1) p' l c' e ∧ Sub p' c' p c
  vr : Var wc (w.heap.size + 1 + 1) vx ve
  oe : wc.ownsRow (w.heap.size + 3) 3 1 ve es.length (ints es)
  ox : wc.ownsRow lb 23 4 vx xs.length (flatI xs)
  hlb : w.heap.size + 3 ≤ lb
  hl : lb ≤ wc.heap.size
  hve : ∀ j, ve.ownBlock = some j → j < lb
  rv : Var wc w.heap.size NilS NilS
  g : G w wc
  off : ∀ X : Nat → Prop, (∀ k, X k → w.heap.size ≤ k) → Off X p c
theorem Ty.call {w wc w' : World} {p : Option Addr} {c : Nat} {l : List UInt8} {e : Int} {es : List Int} {ve : Value} {lb : Nat} {xs : List I} {vx : Value} (h : Ty w wc p c l e es ve lb xs vx) {p1 p2 : Option Addr} {c1 c2 : Nat} {l' : List UInt8} {e' : Int} (h1 : Sub p1 c1 p c) (hr : Rd w' (w.heap.size + 1) p2 l' c2 e') (hs : Sub p2 c2 p1 c1) (ht : Turn (fun k => k = w.heap.size + 1) wc w') : Ty w w' p c l' e' es ve lb xs vx :=
  have hb := h.hlb
  ⟨⟨p2, c2, hr, hs.trans h1⟩, h.vr.turn ht (by omega), own_turn h.oe ht (fun j hj => by have := (h.oe.lt j hj).1; omega), own_turn h.ox ht (fun j hj => by have := (h.ox.lt j hj).1; omega), hb, Nat.le_trans h.hl ht.size, h.hve, h.rv.turn ht (by omega), ht.G h.g (fun k hk => by omega), h.off⟩
theorem Ty.on {w wc w' : World} {p : Option Addr} {c : Nat} {l : List UInt8} {e : Int} {es : List Int} {ve : Value} {lb : Nat} {xs : List I} {vx : Value} (h : Ty w wc p c l e es ve lb xs vx) (g : G wc w') : Ty w w' p c l e es ve lb xs vx :=
  have ⟨p1, c1, hr, hs⟩ := h.rd
  ⟨⟨p1, c1, hr.on g, hs⟩, h.vr.mono g, own_g h.oe g, own_g h.ox g, h.hlb, Nat.le_trans h.hl g.size, h.hve, h.rv.mono g, h.g.trans g, h.off⟩
theorem Ty.push {w wc y : World} {p : Option Addr} {c : Nat} {l : List UInt8} {e : Int} {es : List Int} {ve : Value} {lb : Nat} {xs : List I} {vx v1 : Value} {x : I} (h : Ty w wc p c l e es ve lb xs vx) (gr : (wc.alloc (.cells #[.int .i64 x.1, .int .i64 x.2.1, .int .i64 x.2.2.1, .string x.2.2.2] 23)).grownBy y vx.ownBlock) (own : y.ownsRow lb 23 4 v1 (xs.length + 1) (flatI xs ++ cells4 x)) :
    Var y (w.heap.size + 1 + 1) vx ve ∧ Ty w (y.setCell ⟨w.heap.size + 1 + 1, 0, none⟩ v1) p c l e es ve lb (xs ++ [x]) v1 := by
  have hb := h.hlb
  have h' := h.on ((G.refl wc).alloc (.cells #[.int .i64 x.1, .int .i64 x.2.1, .int .i64 x.2.2.1, .string x.2.2.2] 23))
  have ht : Turn (fun k => vx.ownBlock = some k) (wc.alloc (.cells #[.int .i64 x.1, .int .i64 x.2.1, .int .i64 x.2.2.1, .string x.2.2.2] 23)) y := Turn.grown gr fun _ h => h
  have hne : ∀ k, k < lb → vx.ownBlock ≠ some k := fun k hk e => by have := (h.ox.lt k e).1; omega
  have ht2 : Turn (fun k => k = w.heap.size + 1 + 1) y (y.setCell ⟨w.heap.size + 1 + 1, 0, none⟩ v1) := Turn.set (X := fun k => k = w.heap.size + 1 + 1) _ rfl _
  obtain ⟨p1, c1, hr, hs⟩ := h'.rd
  have o1 : Off (fun k => vx.ownBlock = some k) p1 c1 := hs.off (h.off _ fun k hk => by have := (h.ox.lt k hk).1; omega)
  have o2 : Off (fun k => k = w.heap.size + 1 + 1) p1 c1 := hs.off (h.off _ fun k hk => by omega)
  have hv := h'.vr.turn ht (hne _ (by omega))
  refine ⟨hv, ⟨p1, c1, (hr.turn ht (hne _ (by omega)) o1).turn ht2 (by omega) o2, hs⟩, hv.set v1, ?_, ?_, hb, Nat.le_trans h'.hl (Nat.le_trans ht.size ht2.size), h.hve, (h'.rv.turn ht (hne _ (by omega))).turn ht2 (by omega), ht2.G (ht.G h'.g (fun k hk => by have := (h.ox.lt k hk).1; omega)) (fun k hk => by omega), h.off⟩
  · exact own_turn (own_turn h'.oe ht fun j hj => hne j (by have := h.hve j hj; omega)) ht2 fun j hj => by have := (h.oe.lt j hj).1; omega
  · have e1 : (xs ++ [x]).length = xs.length + 1 := by simp
    rw [e1, flatI_snoc]
    exact own_turn own ht2 fun j hj => by have := (own.lt j hj).1; omega
theorem Ty.last {w wc : World} {p : Option Addr} {c : Nat} {l : List UInt8} {e : Int} {es : List Int} {ve : Value} {lb : Nat} {xs : List I} {vx : Value} (h : Ty w wc p c l e es ve lb xs vx) :
    Var ((wc.setCell ⟨w.heap.size, 0, none⟩ vx).setCell ⟨w.heap.size, 1, none⟩ ve) w.heap.size vx ve ∧ ∃ p1 c1 q1 c2, vx = .slice p1 xs.length c1 ∧ ve = .slice q1 es.length c2 ∧ Row ((wc.setCell ⟨w.heap.size, 0, none⟩ vx).setCell ⟨w.heap.size, 1, none⟩ ve) p1 xs ∧ Ents ((wc.setCell ⟨w.heap.size, 0, none⟩ vx).setCell ⟨w.heap.size, 1, none⟩ ve) q1 es ∧ xs.length ≤ c1 ∧ es.length ≤ c2 ∧ G w ((wc.setCell ⟨w.heap.size, 0, none⟩ vx).setCell ⟨w.heap.size, 1, none⟩ ve) := by
  have hb := h.hlb
  have ht : Turn (fun k => k = w.heap.size) wc ((wc.setCell ⟨w.heap.size, 0, none⟩ vx).setCell ⟨w.heap.size, 1, none⟩ ve) := (Turn.set (X := fun k => k = w.heap.size) _ rfl _).trans (Turn.set (X := fun k => k = w.heap.size) _ rfl _)
  have ox := own_turn h.ox ht fun j hj => by have := (h.ox.lt j hj).1; omega
  have oe := own_turn h.oe ht fun j hj => by have := (h.oe.lt j hj).1; omega
  obtain ⟨p1, c1, e1, hr, hc, _⟩ := own_slice ox
  obtain ⟨q1, c2, e2, he, hc2⟩ := ents_own oe
  exact ⟨(h.rv.set vx).set1 ve, p1, c1, q1, c2, e1, e2, hr, he, hc, hc2, ht.G h.g fun k hk => by omega⟩
theorem Ty.of {w wc : World} {p : Option Addr} {c : Nat} {l : List UInt8} {e : Int} {es : List Int} {ve : Value} (h : Tk w wc p c l e es ve) : Ty w wc p c l e es ve wc.heap.size [] NilS := by
  obtain ⟨p1, c1, hr, hs⟩ := h.rd
  have hl := h.vr.lt
  exact ⟨⟨p1, c1, hr, hs⟩, h.vr, h.oe, World.ownsRow_nil _ _ _ _, by omega, Nat.le_refl _, fun j hj => (h.oe.lt j hj).2, h.rv, h.g, h.off⟩
set_option maxRecDepth 100000 in
set_option maxHeartbeats 4000000 in
theorem take_ref (p : Option Addr) (l : List UInt8) (c : Nat) (w : World) (hb : Bys w p l c) (hl : l.length ≤ 100000) :
    Calls Tryd.prog 16 #[.slice p l.length c] w (TakePost (takeR l) w) := by
  have HB := hid hb
  have HL := hid hl
  clear hb
  go_enter Tryd.func16, Tryd.ntmps16
  go_wp2_with fail
  have T : Hid (Tk w (((w.alloc (.cells #[NilS, NilS] 28)).alloc (.cells #[.slice p l.length c, .int .i64 0] 63)).alloc (.cells #[NilS, NilS] 28)) p c l 0 [] NilS) := by
    have g := ((G.refl w).alloc (.cells #[NilS, NilS] 28)).alloc (.cells #[.slice p l.length c, .int .i64 0] 63)
    have g3 := g.alloc (.cells #[NilS, NilS] 28)
    have hoff : ∀ X : Nat → Prop, (∀ k, X k → w.heap.size ≤ k) → Off X p c := fun X hX => HB.out.off hX
    refine hid ⟨⟨p, c, ⟨by simp, by simp [go_sem], by simp [go_sem], fun i => by simp [go_sem], HB.out.on g3, hoff _ (fun k hk => by omega)⟩, Sub.refl _ _⟩, ⟨by simp, by simp [go_sem], by simp [go_sem], fun i => by simp [go_sem]⟩, World.ownsRow_nil _ _ _ _, ⟨by simp; omega, by simp [go_sem], by simp [go_sem], fun i => by simp [go_sem]⟩, g3, hoff⟩
  obtain ⟨q1, d1, hrd, hsub⟩ := T.out.rd
  refine (oner_any _ q1 l d1 0 _ hrd (by omega)).mono ?_
  rintro x w1 ⟨rfl, p1, c1, hr, hs, ht⟩
  replace T := hid (T.out.call hsub hr hs ht)
  clear hrd hsub hr hs ht
  have hb1 := one_bd l 0
  have hl1 := one_len l 0
  obtain ⟨r1, hr1⟩ : ∃ r1, Hid (oneR l 0 = r1) := ⟨_, rfl⟩
  rw [hr1.out] at T hb1 hl1 ⊢
  obtain ⟨m1, l1, e1⟩ := r1
  simp only at hb1 hl1
  obtain ⟨hb1, hb2⟩ := hb1
  obtain ⟨N, rfl⟩ : ∃ N : Nat, m1 = (N : Int) := ⟨m1.toNat, by omega⟩
  replace T : Hid (Tk w w1 p c l1 e1 [] NilS) := hid T.out
  obtain ⟨ok6, hok6⟩ : ∃ ok6, Hid (decide ((N : Int) ≤ 6) = ok6) := ⟨_, rfl⟩
  have hd6 := hok6.out
  obtain ⟨q2, d2, hrd, hsub⟩ := T.out.rd
  go_wp2_with fail
  refine (corrupt_any _ q2 l1 d2 e1 ok6 _ hrd).mono ?_
  rintro x w2 ⟨rfl, hr, ht⟩
  replace T := hid (T.out.call hsub hr (Sub.refl _ _) ht)
  clear hrd hsub hr ht hd6
  obtain ⟨e2, he2⟩ : ∃ e2, Hid (askR ok6 3 e1 = e2) := ⟨_, rfl⟩
  rw [he2.out] at T
  obtain ⟨i, i1, i2, i3, i4⟩ := info3
  go_wp2_with fail
  go_loopg [7, 8] N (fun n j t8 wr => ∃ k : Nat, k ≤ N ∧ n = N - k ∧ j = .int .i64 k ∧ ∃ l' e' es ve, Tk w wr p c l' e' es ve ∧ es.length ≤ k ∧ l'.length ≤ l1.length ∧ Hid (entsT N l1 e2 = (es ++ (entsT (N - k) l' e').1, (entsT (N - k) l' e').2)))
  case atStart => exact ⟨0, by omega, rfl, rfl, l1, e2, [], NilS, T.out, Nat.le_refl _, Nat.le_refl _, hid rfl⟩
  case round =>
    obtain ⟨k, hk, rfl, rfl, l', e', es, ve, hT, hes, hll, hrec⟩ := hrel
    clear T
    have T := hid hT
    clear hT
    obtain ⟨q3, d3, hrd, hsub⟩ := T.out.rd
    have hc1 := hrd.c1
    by_cases hgo : (k : Int) < (N : Int) ∧ e' = 0
    · obtain ⟨hkz, rfl⟩ := hgo
      have hkn : k < N := by omega
      go_wp2_with fail
      refine (numbr_any _ q3 l' d3 0 _ hrd (by omega)).mono ?_
      rintro x w5 ⟨rfl, p5, c5, hr5, hs5, ht5⟩
      replace T := hid (T.out.call hsub hr5 hs5 ht5)
      have hn5 := numb_len l' 0
      clear hrd hsub hc1 hr5 hs5 ht5
      obtain ⟨nv, hnv⟩ : ∃ nv, Hid ((numbR l' 0).1 = nv) := ⟨_, rfl⟩
      rw [hnv.out]
      obtain ⟨lv, pv, qv, fv⟩ := T.out.vr
      go_wp2_with (first | (at_builtin; refine wpList_append_own _ rfl _ _ 26 rfl (w.heap.size + 3) 3 i (.int .i64 0) 1 8 Tryd.underlying26 i1 i2 i3 i4 rfl (by decide) _ _ _ rfl (T.out.oe.alloc _) ⟨w5.heap.size, 0, none⟩ 1 1 [.int .i64 nv] rfl rfl (cell_new1 _ _ _) (by simp [Value.oneCell']) (by unfold maxLen; omega) (by omega) (by have h := T.out.vr.lt; simp; omega) ?_; intro v6 w6 own6 gr6 _; obtain ⟨hv6, T3⟩ := T.out.push gr6 own6; have HT3 := hid T3; obtain ⟨g6, c6, ev6⟩ := own_some own6 (by omega); subst ev6; clear own6 gr6 T3 lv pv qv fv; obtain ⟨lv, pv, qv, fv⟩ := hv6))
      go_roundg (N - (k + 1))
      case measure => go_light; omega
      case rel =>
        go_light
        have hr := hrec.out
        rw [show N - k = (N - (k + 1)) + 1 by omega] at hr
        refine ⟨k + 1, by omega, rfl, by go_num, (numbR l' 0).2.1, (numbR l' 0).2.2, es ++ [nv], _, HT3.out, by simp; omega, by omega, hid ?_⟩
        rw [← hnv.out]
        simpa [entsT] using hr
    · have hstop : Hid (entsT (N - k) l' e' = ([], l', e')) := hid (by
        by_cases h0 : e' = 0
        · rw [show N - k = 0 by have : ¬ (k : Int) < (N : Int) := fun h => hgo ⟨h, h0⟩; omega]
          rfl
        · exact entsT_bad _ _ _ h0)
      have HT1 : Hid (entsT N l1 e2 = (es, l', e')) := hid (by
        have h := hrec.out
        rw [hstop.out, List.append_nil] at h
        exact h)
      have hcase : (¬ (k : Int) < (N : Int)) ∨ ((k : Int) < (N : Int) ∧ (e' == 0) = false) := by
        by_cases h : (k : Int) < (N : Int)
        · exact .inr ⟨h, by simp; exact fun h0 => hgo ⟨h, h0⟩⟩
        · exact .inl h
      clear hgo hrec hstop
      rcases hcase with hq | ⟨hq, hq2⟩
      all_goals (
        go_wp2_with fail
        refine (numbr_any _ q3 l' d3 e' _ hrd (by omega)).mono ?_
        rintro x w3 ⟨rfl, p5, c5, hr5, hs5, ht5⟩
        replace T := hid (T.out.call hsub hr5 hs5 ht5)
        have hn3 := numb_len l' e'
        have hb3 := numb_bd l' e'
        obtain ⟨r2, hr2⟩ : ∃ r2, Hid (numbR l' e' = r2) := ⟨_, rfl⟩
        rw [hr2.out] at T hn3 hb3 ⊢
        obtain ⟨m, l3, e3⟩ := r2
        simp only at hn3 hb3
        clear hrd hsub hc1 hr5 hs5 ht5
        replace T : Hid (Tk w w3 p c l3 e3 es ve) := hid T.out
        obtain ⟨okm, hokm⟩ : ∃ okm, Hid ((decide (0 ≤ m) && decide (m ≤ 1200)) = okm) := ⟨_, rfl⟩
        obtain ⟨ea, hea⟩ : ∃ ea, Hid (askR okm 3 e3 = ea) := ⟨_, rfl⟩
        go_upto_region 11 with (fail)
        go_cut [] from 45 to 52 (fun wc => Tk w wc p c l3 ea es ve)
        case first =>
          obtain ⟨q6, d6, hrd, hsub⟩ := T.out.rd
          have hok := hokm.out
          rcases (show m < 0 ∨ (0 ≤ m ∧ 1200 < m) ∨ (0 ≤ m ∧ m ≤ 1200) by omega) with hm | ⟨hm, hm2⟩ | ⟨hm, hm2⟩
          · obtain rfl : okm = false := by rw [← hok]; simp; omega
            clear hok
            go_wp2_with fail
            refine (corrupt_any _ q6 l3 d6 e3 false _ hrd).mono ?_
            rintro x w4 ⟨rfl, hr6, ht6⟩
            have T4 := hid (T.out.call hsub hr6 (Sub.refl _ _) ht6)
            clear hrd hsub hr6 ht6
            rw [hea.out] at T4
            go_wp2_with fail
            go_meet
            case rel => exact T4.out
          · obtain rfl : okm = false := by rw [← hok]; simp; omega
            have hm3 : decide (m ≤ 1200) = false := by simp; omega
            clear hok
            go_wp2_with fail
            refine (corrupt_any _ q6 l3 d6 e3 false _ hrd).mono ?_
            rintro x w4 ⟨rfl, hr6, ht6⟩
            have T4 := hid (T.out.call hsub hr6 (Sub.refl _ _) ht6)
            clear hrd hsub hr6 ht6
            rw [hea.out] at T4
            go_wp2_with fail
            go_meet
            case rel => exact T4.out
          · obtain rfl : okm = true := by rw [← hok]; simp; omega
            clear hok
            go_wp2_with fail
            refine (corrupt_any _ q6 l3 d6 e3 true _ hrd).mono ?_
            rintro x w4 ⟨rfl, hr6, ht6⟩
            have T4 := hid (T.out.call hsub hr6 (Sub.refl _ _) ht6)
            clear hrd hsub hr6 ht6
            rw [hea.out] at T4
            go_wp2_with fail
            go_meet
            case rel => exact T4.out
        case rest =>
          clear T
          have T := hid hcut
          clear hcut
          obtain ⟨q0, c0, rfl, _, hc0⟩ := ents_own T.out.oe
          go_wp2_with fail
          go_loopg [10] es.length (fun n j wx => ∃ k : Nat, k ≤ es.length ∧ n = es.length - k ∧ j = .int .i64 k ∧ Tk w wx p c l3 (askR (!(es.take k).any (entOver m)) 3 ea) es (.slice q0 es.length c0))
          case atStart => exact ⟨0, by omega, rfl, rfl, by simpa [askR] using T.out⟩
          case round =>
            obtain ⟨k2, hk2, rfl, rfl, hT⟩ := hrel
            clear T
            have T := hid hT
            clear hT
            obtain ⟨eb, heb⟩ : ∃ eb, Hid (askR (!(es.take k2).any (entOver m)) 3 ea = eb) := ⟨_, rfl⟩
            rw [heb.out] at T
            obtain ⟨q6, d6, hrd, hsub⟩ := T.out.rd
            obtain ⟨lv, pv, qv, fv⟩ := T.out.vr
            by_cases hkl : k2 < es.length
            · obtain ⟨x, hx⟩ : ∃ x, es[k2]? = some x := ⟨es[k2], by simp [hkl]⟩
              obtain ⟨bk, off, rfl, hat⟩ := ents_at T.out.oe k2 x hx
              have hkz2 : (k2 : Int) < (es.length : Int) := by omega
              obtain ⟨okx, hokx⟩ : ∃ okx, Hid ((!entOver m x) = okx) := ⟨_, rfl⟩
              have HNX : Hid (askR (!(es.take (k2 + 1)).any (entOver m)) 3 ea = askR okx 3 eb) := hid (by
                rw [← heb.out, ask_two, ← hokx.out, List.take_add_one, hx, List.any_append]
                congr 1
                simp [Bool.not_or])
              have hok := hokx.out
              clear hx
              rcases (show x < 0 ∨ (0 ≤ x ∧ m < x) ∨ (0 ≤ x ∧ x ≤ m) by omega) with hm | ⟨hm, hm2⟩ | ⟨hm, hm2⟩
              · obtain rfl : okx = false := by rw [← hok]; simp [entOver, hm]
                clear hok
                go_wp2_with fail
                refine (corrupt_any _ q6 l3 d6 eb false _ hrd).mono ?_
                rintro x w4 ⟨rfl, hr6, ht6⟩
                have T4 := hid (T.out.call hsub hr6 (Sub.refl _ _) ht6)
                clear hrd hsub hr6 ht6 lv pv qv fv
                go_wp2_with fail
                go_roundg (es.length - (k2 + 1))
                case measure => go_light; omega
                case rel =>
                  go_light
                  exact ⟨k2 + 1, by omega, rfl, by go_num, by rw [HNX.out]; exact T4.out⟩
              · obtain rfl : okx = false := by rw [← hok]; simp [entOver, hm2]
                have hm3 : decide (x ≤ m) = false := by simp; omega
                clear hok
                go_wp2_with fail
                refine (corrupt_any _ q6 l3 d6 eb false _ hrd).mono ?_
                rintro x w4 ⟨rfl, hr6, ht6⟩
                have T4 := hid (T.out.call hsub hr6 (Sub.refl _ _) ht6)
                clear hrd hsub hr6 ht6 lv pv qv fv
                go_wp2_with fail
                go_roundg (es.length - (k2 + 1))
                case measure => go_light; omega
                case rel =>
                  go_light
                  exact ⟨k2 + 1, by omega, rfl, by go_num, by rw [HNX.out]; exact T4.out⟩
              · obtain rfl : okx = true := by rw [← hok]; simp [entOver]; omega
                clear hok
                go_wp2_with fail
                refine (corrupt_any _ q6 l3 d6 eb true _ hrd).mono ?_
                rintro x w4 ⟨rfl, hr6, ht6⟩
                have T4 := hid (T.out.call hsub hr6 (Sub.refl _ _) ht6)
                clear hrd hsub hr6 ht6 lv pv qv fv
                go_wp2_with fail
                go_roundg (es.length - (k2 + 1))
                case measure => go_light; omega
                case rel =>
                  go_light
                  exact ⟨k2 + 1, by omega, rfl, by go_num, by rw [HNX.out]; exact T4.out⟩
            · obtain rfl : k2 = es.length := by omega
              have hkz2 : ¬ (es.length : Int) < (es.length : Int) := by omega
              rw [List.take_length] at heb
              have hea2 : Hid (askR (okm && !es.any (entOver m)) 3 e3 = eb) := hid (by rw [← ask_two, hea.out]; exact heb.out)
              have hbig : Hid (eb = 0 → 0 ≤ m ∧ m ≤ 1200) := hid (by
                intro h
                have h2 := hea2.out
                rw [h] at h2
                obtain ⟨h4, _⟩ := ask_zero3 h2
                have h3 := hokm.out
                simp only [Bool.and_eq_true] at h4
                rw [h4.1] at h3
                simp only [Bool.and_eq_true, decide_eq_true_eq] at h3
                exact h3)
              have HFIN : Hid (∀ xs l9 e9 z, inssT m.toNat l3 eb = (xs, l9, e9) → decide (l9.length = 0) = z → takeR l = if askR z 3 e9 = 0 then ((es, xs), 0) else (([], []), askR z 3 e9)) := hid (by
                intro xs l9 e9 z h1 h2
                unfold takeR
                simp only [hr1.out, Int.toNat_natCast, hok6.out, he2.out, HT1.out, hr2.out, hokm.out, hea2.out, h1, h2])
              have hXL : l3.length ≤ 100000 := by omega
              clear hrd hsub lv pv qv fv
              have X := hid (Ty.of T.out)
              have hlb0 : w.heap.size + 3 ≤ wr.heap.size := X.out.hlb
              obtain ⟨lb, hlb⟩ : ∃ lb, Hid (wr.heap.size = lb) := ⟨_, rfl⟩
              rw [hlb.out] at X hlb0
              clear T
              obtain ⟨lv, pv, qv, fv⟩ := X.out.vr
              go_wp2_with fail
              clear lv pv qv fv
              generalize Value.slice q0 es.length c0 = ve at X ⊢
              obtain ⟨j, j1, j2, j3, j4⟩ := info23
              go_loopg [11, 12] m.toNat (fun n jv t12 wy => ∃ k : Nat, k ≤ m.toNat ∧ n = m.toNat - k ∧ jv = .int .i64 k ∧ ∃ l9 e9 xs vx, Ty w wy p c l9 e9 es ve lb xs vx ∧ xs.length ≤ k ∧ l9.length ≤ l3.length ∧ Hid (inssT m.toNat l3 eb = (xs ++ (inssT (m.toNat - k) l9 e9).1, (inssT (m.toNat - k) l9 e9).2)) ∧ Hid (eb ≠ 0 → e9 ≠ 0))
              case atStart => exact ⟨0, by omega, rfl, rfl, l3, eb, [], NilS, X.out, Nat.le_refl _, Nat.le_refl _, hid rfl, hid (fun h => h)⟩
              case round =>
                obtain ⟨kk, hkk, rfl, rfl, l9, e9, xs, vx, hX, hxs, hl9, hrec9, hst9⟩ := hrel
                clear X
                have X := hid hX
                clear hX
                obtain ⟨q7, d7, hrd, hsub⟩ := X.out.rd
                have hc1 := hrd.c1
                have hc0 := hrd.c0
                by_cases hgo : (kk : Int) < m ∧ e9 = 0
                · obtain ⟨hkm, rfl⟩ := hgo
                  have he0 : eb = 0 := Classical.byContradiction fun h => hst9.out h rfl
                  have hmb := (hbig.out he0).2
                  clear he0
                  go_wp2_with fail
                  refine (insr_any _ q7 l9 d7 0 _ hrd (by omega)).mono ?_
                  rintro x w5 ⟨rfl, p5, c5, hr5, hs5, ht5⟩
                  replace X := hid (X.out.call hsub hr5 hs5 ht5)
                  have hn5 := insT_len l9 0
                  clear hrd hsub hr5 hs5 ht5 hc1 hc0
                  obtain ⟨r5, hr5⟩ : ∃ r5, Hid (insT l9 0 = r5) := ⟨_, rfl⟩
                  rw [hr5.out] at X hn5 ⊢
                  obtain ⟨⟨o, a, b, tx⟩, l10, e10⟩ := r5
                  simp only at hn5
                  replace X : Hid (Ty w w5 p c l10 e10 es ve lb xs vx) := hid X.out
                  have X1 := hid (X.out.on ((G.refl w5).alloc (.cells #[.int .i64 o, .int .i64 a, .int .i64 b, .string tx] 23)))
                  have BX := hid (At.alloc w5 o a b tx)
                  dsimp only
                  obtain ⟨lx, px, qx, rx, tx0, fx⟩ := BX.out
                  simp at qx rx tx0
                  obtain ⟨lv, pv, qv, fv⟩ := X1.out.vr
                  go_wp2_with (first | (at_builtin; refine wpList_append_own _ rfl _ _ 25 rfl lb 23 j _ 4 40 Tryd.underlying25 j1 j2 j3 j4 rfl (by decide) _ _ _ rfl (X1.out.ox.alloc _) ⟨w5.heap.size + 1, 0, none⟩ 1 1 (cells4 (o, a, b, tx)) rfl rfl (by have h := cell_newI (w5.alloc (.cells #[.int .i64 o, .int .i64 a, .int .i64 b, .string tx] 23)) (o, a, b, tx); rw [sz_al] at h; exact h) (by simp [cells4, Value.oneCell']) (by unfold maxLen; omega) (by omega) (by have h := X.out.hl; simp; omega) ?_; intro v6 y6 own6 gr6 _; obtain ⟨hv6, X3⟩ := X1.out.push (x := (o, a, b, tx)) gr6 own6; have HX3 := hid X3; obtain ⟨g6, c6, ev6⟩ := own_some own6 (by omega); subst ev6; clear own6 gr6 X3 lv pv qv fv lx px qx rx tx0 fx; obtain ⟨lv, pv, qv, fv⟩ := hv6))
                  go_roundg (m.toNat - (kk + 1))
                  case measure => go_light; omega
                  case rel =>
                    go_light
                    have hr := hrec9.out
                    rw [show m.toNat - kk = (m.toNat - (kk + 1)) + 1 by omega] at hr
                    refine ⟨kk + 1, by omega, rfl, by go_num, l10, e10, xs ++ [(o, a, b, tx)], _, HX3.out, by simp; omega, by omega, hid ?_, hid (fun h => absurd rfl (hst9.out h))⟩
                    simpa [inssT, hr5.out] using hr
                · have hstop : Hid (inssT (m.toNat - kk) l9 e9 = ([], l9, e9)) := hid (by
                    by_cases h0 : e9 = 0
                    · rw [show m.toNat - kk = 0 by have : ¬ (kk : Int) < m := fun h => hgo ⟨h, h0⟩; omega]
                      rfl
                    · exact inssT_bad _ _ _ h0)
                  have hrr := hrec9.out
                  rw [hstop.out, List.append_nil] at hrr
                  have HI := hid hrr
                  have hcase2 : (¬ (kk : Int) < m) ∨ ((kk : Int) < m ∧ (e9 == 0) = false) := by
                    by_cases h : (kk : Int) < m
                    · exact .inr ⟨h, by simp; exact fun h0 => hgo ⟨h, h0⟩⟩
                    · exact .inl h
                  clear hgo hrr hrec9 hst9
                  rcases hcase2 with hq3 | ⟨hq3, hq4⟩
                  all_goals (
                    obtain ⟨z, hz⟩ : ∃ z, Hid (decide (l9.length = 0) = z) := ⟨_, rfl⟩
                    have hdz : ((l9.length : Int) == 0) = z := by
                      rw [← hz.out]
                      by_cases h : l9.length = 0 <;> simp [h]
                    go_wp2_with fail
                    refine (corrupt_any _ q7 l9 d7 e9 z _ hrd).mono ?_
                    rintro x w8 ⟨rfl, hr8, ht8⟩
                    replace X := hid (X.out.call hsub hr8 (Sub.refl _ _) ht8)
                    clear hrd hsub hr8 ht8 hc1 hc0 hdz
                    have HF := hid (HFIN.out xs l9 e9 z HI.out hz.out)
                    obtain ⟨e8, he8⟩ : ∃ e8, Hid (askR z 3 e9 = e8) := ⟨_, rfl⟩
                    rw [he8.out] at X HF
                    obtain ⟨q8, d8, hrd, hsub⟩ := X.out.rd
                    have hc1 := hrd.c1
                    obtain ⟨lr, pr, qr, fr⟩ := X.out.rv
                    obtain ⟨lv, pv, qv, fv⟩ := X.out.vr
                    by_cases h8 : e8 = 0
                    · have h8z : (e8 == 0) = true := by simp [h8]
                      have H8 := hid h8
                      clear h8
                      obtain ⟨hvar, pz, cz, qz, dz, ex, ee, hr, he, hc, hc2, hg⟩ := X.out.last
                      rw [ex] at pv
                      rw [ee] at qv
                      rw [ex, ee] at hvar hr he hg
                      have HVz := hid hvar
                      have HRz := hid hr
                      have HEz := hid he
                      have HGz := hid hg
                      clear hvar hr he hg ex ee
                      go_wp2_with fail
                      have hF := HF.out
                      rw [if_pos H8.out] at hF
                      refine post_code2 (e := .int .i64 0) Tryd.results16 rfl rfl HVz.out ?_
                      rw [hF]
                      exact ⟨pz, cz, qz, dz, rfl, HRz.out, HEz.out, hc, hc2, HGz.out⟩
                    · have h8z : (e8 == 0) = false := by simp [h8]
                      have H8 := hid h8
                      clear h8
                      go_upto_region 23 with (fail)
                      clear hc1 lr pr qr fr lv pv qv fv hrd hsub
                      have X0 := X.out.on (G.drew (G.refl w8))
                      obtain ⟨q9, d9, hrd, hsub⟩ := X0.rd
                      refine wp_region_chain 116 [0, 1, 2, 3, 4, 6] [5] [0, 1, 2, 3, 6] [110, 111, 112, 113, 114, 3] (fun _ => [4]) (fun i => if i = 0 then .agg #[NilS, NilS] else if i = 1 ∨ i = 2 then .pointer (some ⟨w.heap.size + 1, 0, none⟩) else if i = 3 then .pointer (some ⟨w.heap.size + 1, 1, none⟩) else .int .i64 e8) (by kernel_rfl) (by kernel_rfl) (by kernel_rfl) rfl ?_ ?_
                      · intro w9
                        exact ⟨⟨_, rfl, fun ac hin => pure_build28 rfl rfl⟩, ⟨_, rfl, fun ac hin => pure_move rfl rfl (hin 4 (by decide))⟩, ⟨_, rfl, fun ac hin => pure_nilcheck rfl rfl (hin 111 (by decide))⟩, ⟨_, rfl, fun ac hin => pure_addr63 rfl rfl (by decide) (hin 112 (by decide))⟩, ⟨_, rfl, fun ac hin => pure_assign rfl rfl (hin 114 (by decide))⟩, trivial⟩
                      · refine ⟨⟨⟨_, rfl, fun ac hin => pure_load35 rfl rfl (hin 113 (by decide)) hrd.c1⟩, trivial⟩, _, rfl, fun ac hin => ⟨rfl, ?_⟩⟩
                        refine eff_store28 rfl X0.rv (hin 2 (by decide)) (hin 110 (by decide)) rfl rfl ?_
                        have ht : Turn (fun k => k = w.heap.size) w8.drew ((w8.drew.setCell ⟨w.heap.size, 0, none⟩ NilS).setCell ⟨w.heap.size, 1, none⟩ NilS) := (Turn.set (X := fun k => k = w.heap.size) _ rfl _).trans (Turn.set (X := fun k => k = w.heap.size) _ rfl _)
                        refine ⟨⟨⟨_, rfl, fun ac hin => pure_load35 rfl rfl (hin 113 (by decide)) (turn_cell hrd.c1 ht (by show ¬ w.heap.size + 1 = w.heap.size; omega))⟩, trivial⟩, fun s' hs => ?_⟩
                        have h3 : s' 3 = .int .i64 e8 := hs 3 (by decide)
                        clear hs
                        have hv9 := (X0.rv.set NilS).set1 NilS
                        have hg9 := ht.G X0.g fun k hk => by omega
                        clear ht hrd hsub X0
                        generalize (w8.drew.setCell ⟨w.heap.size, 0, none⟩ NilS).setCell ⟨w.heap.size, 1, none⟩ NilS = W9 at hv9 hg9 ⊢
                        have HV9 := hid hv9
                        have HG9 := hid hg9
                        have H3 := hid h3
                        clear hv9 hg9 h3
                        go_wp2_with fail
                        have hF := HF.out
                        rw [if_neg H8.out] at hF
                        refine post_code2a (x := NilS) (y := NilS) (e := .int .i64 e8) Tryd.results16 (putAll_defers _ _ _) ((putAll_eval s' _ _ 2 (by show 2 < 116; decide)).trans (by rw [if_neg (by decide)]; rfl)) ((putAll_eval s' _ _ 3 (by show 3 < 116; decide)).trans (by rw [if_pos (by decide), H3.out])) HV9.out ?_
                        rw [hF]
                        exact ⟨none, 0, none, 0, rfl, fun k x h => by simp at h, fun k x h => by simp at h, Nat.le_refl _, Nat.le_refl _, HG9.out⟩))
end Go.Proofs.YtpeioflembhedaaDoor
