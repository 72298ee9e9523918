/-
  What the tests ahead of Put find: an entry out of bounds; an instruction that may not be. No conditions but that the numbers are ints.
-/
import Derived.Test.YtpeioflembhedaaDoorMay
import Derived.Test.YtpeioflembhedaaDoorShelf
import Derived.Test.YtpeioflembhedaaDoorBytes
import Derived.Deep.LoopGhost
import Derived.Deep.Light
namespace Go.Proofs.YtpeioflembhedaaDoor
open Go.RowKit Go.Lib

/-- An instruction's kind is an int. -/
def OpOk (x : I) : Prop := -9223372036854775808 ≤ x.1 ∧ x.1 ≤ 9223372036854775807
def mayI (x : I) : Bool := mayR x.1 x.2.1 x.2.2.1 x.2.2.2
theorem may_raw (o a b : Int) (s : ByteArray) (w : World) (h0 : -9223372036854775808 ≤ o) (h1 : o ≤ 9223372036854775807) :
    Calls Tryd.prog 10 #[.agg #[.int .i64 o, .int .i64 a, .int .i64 b, .string s]] w fun e w' => e = .returned (.bool (mayR o a b s)) ∧ G w w' := may_any o a b s w h0 h1
set_option maxRecDepth 100000 in
theorem put2_any (o a b : Int) (s : ByteArray) (w : World) (h0 : -9223372036854775808 ≤ o) (h1 : o ≤ 9223372036854775807) :
    Calls Tryd.prog 29 #[.agg #[.int .i64 o, .int .i64 a, .int .i64 b, .string s]] w fun e w' => e = .returned (.bool (!mayR o a b s)) ∧ G w w' := by
  go_enter Tryd.func29, Tryd.ntmps29
  go_wp2_with fail
  refine (may_raw o a b s _ h0 h1).mono ?_
  rintro e w1 ⟨rfl, g⟩
  have HG := hid (((G.refl w).alloc _).trans g)
  clear g
  go_wp2_with fail
  go_ret
  exact ⟨rfl, HG.out⟩
theorem index_ins (p : Option Addr) (cap : Nat) (xs : List I) (w : World) (hn : xs.length ≤ 1000000) (hrow : Row w p xs) (hok : ∀ x ∈ xs, OpOk x) :
    Calls Tryd.prog 53 #[.slice p xs.length cap, .func (.func 29) #[] #[]] w fun e w' => ∃ r : Int, e = .returned (.int .i64 r) ∧ decide (0 ≤ r) = (xs.any fun x => !mayI x) ∧ G w w' := by
  go_enter Tryd.func53, Tryd.ntmps53
  go_wp2_with fail
  go_loopg [8] xs.length (fun n j wr => ∃ k : Nat, k ≤ xs.length ∧ n = xs.length - k ∧ j = .int .i64 k ∧ ((xs.take k).any fun x => !mayI x) = false ∧ G w wr)
  case atStart => exact ⟨0, by omega, rfl, rfl, rfl, G.refl _⟩
  case round =>
    obtain ⟨k, hk, rfl, rfl, hf, hg⟩ := hrel
    have HG := hid hg
    have HF := hid hf
    clear hg hf
    by_cases hkl : k < xs.length
    · obtain ⟨x, hx⟩ : ∃ x, xs[k]? = some x := ⟨xs[k], by simp [hkl]⟩
      obtain ⟨bk, off, rfl, hat⟩ := hrow k x hx
      obtain ⟨c0, c1, c2, c3⟩ := hat.on HG.out
      obtain ⟨h0, h1⟩ := hok x (List.mem_of_getElem? hx)
      obtain ⟨o, a, b, tx⟩ := x
      simp at c0 c1 c2 c3 h0 h1
      have HX := hid hx
      have hkz : (k : Int) < (xs.length : Int) := by omega
      clear hx hat hok hrow
      go_wp2_with fail
      refine (put2_any o a b tx _ h0 h1).mono ?_
      rintro e w1 ⟨rfl, g⟩
      have HG := hid (HG.out.trans g)
      clear g
      obtain ⟨mb, hm⟩ : ∃ mb, mayR o a b tx = mb := ⟨_, rfl⟩
      have HM := hid hm
      rw [hm]
      clear hm
      cases mb
      · go_wp2_with fail
        go_ret
        refine ⟨_, rfl, ?_, HG.out⟩
        have e : (xs.any fun x => !mayI x) = true := List.any_eq_true.2 ⟨_, List.mem_of_getElem? HX.out, by simp [mayI, HM.out]⟩
        rw [e]
        simp
      · go_wp2_with fail
        go_roundg (xs.length - (k + 1))
        case measure => go_light; omega
        case rel =>
          go_light
          refine ⟨k + 1, by omega, rfl, by go_num, ?_, HG.out⟩
          rw [List.take_add_one, HX.out, List.any_append, HF.out]
          simp [mayI, HM.out]
    · obtain rfl : k = xs.length := by omega
      have hkz : ¬ (xs.length : Int) < (xs.length : Int) := by omega
      go_wp2_with fail
      go_ret
      refine ⟨_, rfl, ?_, HG.out⟩
      have e := HF.out
      rw [List.take_length] at e
      rw [e]
      rfl
theorem contains_ins (p : Option Addr) (cap : Nat) (xs : List I) (w : World) (hn : xs.length ≤ 1000000) (hrow : Row w p xs) (hok : ∀ x ∈ xs, OpOk x) {y : Bool} (hy : (xs.any fun x => !mayI x) = y) :
    Calls Tryd.prog 28 #[.slice p xs.length cap, .func (.func 29) #[] #[]] w fun e w' => e = .returned (.bool y) ∧ G w w' := by
  subst hy
  go_enter Tryd.func28, Tryd.ntmps28
  go_wp2_with fail
  refine (index_ins p cap xs _ hn hrow hok).mono ?_
  rintro e w1 ⟨r, rfl, hr, g⟩
  have HR := hid hr
  have HG := hid g
  clear hr g
  go_wp2_with fail
  all_goals (
    go_ret
    refine ⟨?_, HG.out⟩
    rw [← HR.out]
    rfl)

/-- A row of ints lies in memory, where a slice's pointer says. -/
def Ents (w : World) (p : Option Addr) (es : List Int) : Prop := ∀ (k : Nat) n, es[k]? = some n → ∃ bk off, p = some ⟨bk, off, none⟩ ∧ w.cell? ⟨bk, off + k, none⟩ = some (.int .i64 n)
theorem Ents.on {w w' : World} {p : Option Addr} {es : List Int} (h : Ents w p es) (k : G w w') : Ents w' p es := fun j x hx => let ⟨b, o, e, i⟩ := h j x hx; ⟨b, o, e, k.cell i⟩
def entBad (L : Nat) (n : Int) : Bool := decide (n < 0) || decide ((L : Int) < n)
set_option maxRecDepth 100000 in
theorem put1_any (n : Int) (cb L cap : Nat) (p : Option Addr) (u : Value) (w : World) (hv : Var w cb (.slice p L cap) u) :
    Calls Tryd.prog 27 #[.int .i64 n, .pointer (some ⟨cb, 0, none⟩)] w fun e w' => e = .returned (.bool (entBad L n)) ∧ w = w' := by
  obtain ⟨l, c0, c1, f⟩ := hv
  unfold entBad
  rcases (show n < 0 ∨ (0 ≤ n ∧ (L : Int) < n) ∨ (0 ≤ n ∧ ¬ (L : Int) < n) by omega) with h | ⟨h, h2⟩ | ⟨h, h2⟩
  all_goals (
    go_enter Tryd.func27, Tryd.ntmps27
    go_wp2_with fail
    go_ret
    refine ⟨?_, rfl⟩)
  · simp [h]
  · simp [h2]
  · have h3 : ¬ n < 0 := by omega
    simp [h2, h3]
theorem contains_ents (q : Option Addr) (mc : Nat) (es : List Int) (cb L cap : Nat) (p : Option Addr) (u : Value) (w : World) (hn : es.length ≤ 1000000) (he : Ents w q es) (hv : Var w cb (.slice p L cap) u) {y : Bool} (hy : es.any (entBad L) = y) :
    Calls Tryd.prog 26 #[.slice q es.length mc, .func (.func 27) #[] #[.pointer (some ⟨cb, 0, none⟩)]] w fun e w' => e = .returned (.bool y) ∧ G w w' := by
  subst hy
  cases es with
  | nil =>
    refine (Tryd.slices_ContainsFunc_empty (α := Int) q mc _ w).mono ?_
    rintro e w' ⟨rfl, rfl⟩
    exact ⟨rfl, G.refl _⟩
  | cons n0 es =>
    obtain ⟨bk, off, rfl, _⟩ := he 0 n0 rfl
    refine (Tryd.slices_ContainsFunc (fun n : Int => .int .i64 n) (entBad L) 27 #[.pointer (some ⟨cb, 0, none⟩)] Tryd.call27 bk off (n0 :: es).length mc (n0 :: es) w ?_ (Nat.le_refl _) (by omega) ?_).mono ?_
    · intro W x hb
      have hv' : Var W cb (.slice p L cap) u := hv.mono hb
      refine (put1_any x cb L cap p u W hv').mono ?_
      rintro e w' ⟨rfl, rfl⟩
      exact ⟨rfl, 0, rfl⟩
    · intro j hj
      obtain ⟨b2, o2, e2, c⟩ := he j _ (List.getElem?_eq_getElem hj)
      cases e2
      rw [c, getElem!_pos (n0 :: es) j hj]
    · rintro e w' ⟨rfl, q2, rfl⟩
      refine ⟨by rw [List.take_length], G.drawn w _⟩
end Go.Proofs.YtpeioflembhedaaDoor
