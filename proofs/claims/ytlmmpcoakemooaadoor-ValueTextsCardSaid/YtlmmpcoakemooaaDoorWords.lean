/-
  A value as it is printed, and as it is shown, at every type. No conditions.
-/
import Derived.Test.YtlmmpcoakemooaaDoorWord
import Derived.Test.YtlmmpcoakemooaaDoorShelf
import Derived.Lib.SmallJoins
import Derived.Lib.AppendIntMem
namespace Go.Proofs.YtlmmpcoakemooaaDoor
open Go.RowKit

/-- The table of the powers of ten stands where the library's text lays it. -/
def Tab (w : World) : Prop := Lib.TabIs Tryd.prog w "internal/strconv.uint64pow10" .u64 Lib.pow10Tab
theorem tab_on {w w' : World} (h : Tab w) (k : G w w') : Tab w' := Joins.tab_stays (g := 0) (by kernel_rfl) h k (Nat.le_refl _)
theorem itoa_any (n : Int) (h0 : -9223372036854775808 ≤ n) (h1 : n ≤ 9223372036854775807) (w : World) (ht : Tab w) :
    Calls Tryd.prog 35 #[.int .i64 n] w fun e w' => e = .returned (.string ⟨(Lib.itoa n).toArray⟩) ∧ G w w' := by
  refine (Tryd.strconv_Itoa n h0 h1 w ht).mono ?_
  rintro e w' ⟨rfl, k, os, rfl⟩
  exact ⟨rfl, Lib.below_grow _ _ (Nat.le_refl _) _ _⟩

def wordR (t n : Int) (s : ByteArray) : ByteArray := if t = 1 then ⟨(Lib.itoa n).toArray⟩ else if t = 2 then boolS (n == 1) else if t = 3 then s else if t = 4 then ⟨#[108, 105, 115, 116]⟩ else E
def quotedR (t n : Int) (s : ByteArray) : ByteArray := if t = 3 then ⟨#[34]⟩ ++ s ++ ⟨#[34]⟩ else wordR t n s

theorem word_any (t n : Int) (s : ByteArray) (w : World) (h0 : -9223372036854775808 ≤ n) (h1 : n ≤ 9223372036854775807) (ht : Tab w) : Calls Tryd.prog 27 #[V t n s] w fun e w' => e = .returned (.string (wordR t n s)) ∧ G w w' := by
  rcases (show t = 1 ∨ t = 2 ∨ t = 3 ∨ t = 4 ∨ (t ≠ 1 ∧ t ≠ 2 ∧ t ≠ 3 ∧ t ≠ 4) by omega) with rfl | rfl | rfl | rfl | ⟨hr, hs, hu, hv⟩
  all_goals (
    unfold V
    go_enter Tryd.func27, Tryd.ntmps27
    go_wp2_with (first | (go_at_call 35; refine (itoa_any n h0 h1 _ (tab_on ht ((G.refl _).alloc _))).mono ?_; rintro e w1 ⟨rfl, hg1⟩; have H1 := hid hg1; clear hg1) | (go_at_call 36; refine (sfb_any _ _).mono ?_; rintro e w1 ⟨rfl, rfl⟩))
    all_goals (go_ret; refine And.intro ?eq ?gg; (case gg => (repeat first | exact G.refl _ | refine G.then ?_ (by assumption) | refine G.alloc ?_ _ | refine G.set ?_ (by simp <;> omega) _)); (case eq => first | rfl | (simp_all [wordR, quotedR, boolS]))))

theorem rword_any (t n : Int) (s : ByteArray) (w : World) (h0 : -9223372036854775808 ≤ n) (h1 : n ≤ 9223372036854775807) (ht : Tab w) : Calls Tryd.prog 28 #[V t n s] w fun e w' => e = .returned (.string (wordR t n s)) ∧ G w w' := by
  rcases (show t = 1 ∨ t = 2 ∨ t = 3 ∨ t = 4 ∨ (t ≠ 1 ∧ t ≠ 2 ∧ t ≠ 3 ∧ t ≠ 4) by omega) with rfl | rfl | rfl | rfl | ⟨hr, hs, hu, hv⟩
  all_goals (
    unfold V
    go_enter Tryd.func28, Tryd.ntmps28
    go_wp2_with (first | (go_at_call 35; refine (itoa_any n h0 h1 _ (tab_on ht ((G.refl _).alloc _))).mono ?_; rintro e w1 ⟨rfl, hg1⟩; have H1 := hid hg1; clear hg1))
    all_goals (go_ret; refine And.intro ?eq ?gg; (case gg => (repeat first | exact G.refl _ | refine G.then ?_ (by assumption) | refine G.alloc ?_ _ | refine G.set ?_ (by simp <;> omega) _)); (case eq => first | rfl | (simp_all [wordR, quotedR, boolS]))))

theorem quoted_any (t n : Int) (s : ByteArray) (w : World) (h0 : -9223372036854775808 ≤ n) (h1 : n ≤ 9223372036854775807) (ht : Tab w) (hs60 : s.size ≤ 60) : Calls Tryd.prog 29 #[V t n s] w fun e w' => e = .returned (.string (quotedR t n s)) ∧ G w w' := by
  rcases (show t = 1 ∨ t = 2 ∨ t = 3 ∨ t = 4 ∨ (t ≠ 1 ∧ t ≠ 2 ∧ t ≠ 3 ∧ t ≠ 4) by omega) with rfl | rfl | rfl | rfl | ⟨hr, hs, hu, hv⟩
  all_goals (
    unfold V
    go_enter Tryd.func29, Tryd.ntmps29
    go_wp2_with (first | (go_at_call 27; refine (word_any _ _ _ _ h0 h1 (tab_on ht ((G.refl _).alloc _))).mono ?_; rintro e w1 ⟨rfl, hg1⟩; have H1 := hid hg1; clear hg1))
    all_goals (go_ret; refine And.intro ?eq ?gg; (case gg => (repeat first | exact G.refl _ | refine G.then ?_ (by assumption) | refine G.alloc ?_ _ | refine G.set ?_ (by simp <;> omega) _)); (case eq => first | rfl | (simp_all [wordR, quotedR, boolS]))))

theorem rquoted_any (t n : Int) (s : ByteArray) (w : World) (h0 : -9223372036854775808 ≤ n) (h1 : n ≤ 9223372036854775807) (ht : Tab w) (hs60 : s.size ≤ 60) : Calls Tryd.prog 30 #[V t n s] w fun e w' => e = .returned (.string (quotedR t n s)) ∧ G w w' := by
  rcases (show t = 1 ∨ t = 2 ∨ t = 3 ∨ t = 4 ∨ (t ≠ 1 ∧ t ≠ 2 ∧ t ≠ 3 ∧ t ≠ 4) by omega) with rfl | rfl | rfl | rfl | ⟨hr, hs, hu, hv⟩
  all_goals (
    unfold V
    go_enter Tryd.func30, Tryd.ntmps30
    go_wp2_with (first | (go_at_call 28; refine (rword_any _ _ _ _ h0 h1 (tab_on ht ((G.refl _).alloc _))).mono ?_; rintro e w1 ⟨rfl, hg1⟩; have H1 := hid hg1; clear hg1))
    all_goals (go_ret; refine And.intro ?eq ?gg; (case gg => (repeat first | exact G.refl _ | refine G.then ?_ (by assumption) | refine G.alloc ?_ _ | refine G.set ?_ (by simp <;> omega) _)); (case eq => first | rfl | (simp_all [wordR, quotedR, boolS]))))

end Go.Proofs.YtlmmpcoakemooaaDoor
