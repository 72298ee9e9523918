/-
  Words of truth; what is cut to 60 bytes. No conditions.
-/
import Derived.Test.YtlmmpcoakemooaaDoorSpec
namespace Go.Proofs.YtlmmpcoakemooaaDoor
open Go.RowKit

def boolS (b : Bool) : ByteArray := if b then ⟨#[116, 114, 117, 101]⟩ else ⟨#[102, 97, 108, 115, 101]⟩
theorem fb_any (b : Bool) (w : World) : Calls Tryd.prog 39 #[.bool b] w fun e w' => e = .returned (.string (boolS b)) ∧ w = w' := by
  go_enter Tryd.func39, Tryd.ntmps39
  cases b
  · go_wp2
    go_ret
    exact ⟨rfl, rfl⟩
  · go_wp2
    go_ret
    exact ⟨rfl, rfl⟩
theorem sfb_any (b : Bool) (w : World) : Calls Tryd.prog 36 #[.bool b] w fun e w' => e = .returned (.string (boolS b)) ∧ w = w' := by
  go_enter Tryd.func36, Tryd.ntmps36
  go_wp2_with (go_at_call 39; refine (fb_any _ _).mono ?_; rintro e w1 ⟨rfl, rfl⟩)
  go_ret
  exact ⟨rfl, rfl⟩
/-- The word of a truth: the only word that the statements' heads ask for. -/
theorem word_bool (n : Int) (s : ByteArray) (w : World) : Calls Tryd.prog 27 #[V 2 n s] w fun e w' => e = .returned (.string (boolS (n == 1))) ∧ G w w' := by
  unfold V
  go_enter Tryd.func27, Tryd.ntmps27
  go_wp2_with (go_at_call 36; refine (sfb_any _ _).mono ?_; rintro e w1 ⟨rfl, rfl⟩)
  all_goals first
    | (go_ret; refine And.intro ?eq ?gg; case gg => (repeat first | exact G.refl _ | refine G.then ?_ (by assumption) | refine G.alloc ?_ _ | refine G.set ?_ (by simp <;> omega) _)
       case eq => first | rfl | simp_all [boolS])

def cut60 (s : ByteArray) : ByteArray := if 60 < s.size then s.extract 0 60 else s
theorem cut60_size (s : ByteArray) : (cut60 s).size ≤ 60 := by
  unfold cut60
  split
  · simp [ByteArray.size_extract]; omega
  · omega
theorem short_any (t n : Int) (s : ByteArray) (w : World) : Calls Tryd.prog 15 #[V t n s] w fun e w' => e = .returned (V t n (cut60 s)) ∧ G w w' := by
  unfold cut60
  rcases Nat.lt_or_ge 60 s.size with h | h
  · unfold V
    rw [if_pos h]
    have h6 : (60 : Int) < (s.size : Int) := by omega
    go_enter Tryd.func15, Tryd.ntmps15
    go_wp2
    apply post1; exact Tryd.results15; rfl; (first | exact At.new3 _ _ _ _ _ _ | exact At.new2 _ _ _ _ _ | exact At.alloc _ _ _ _ | exact At.set (Hid.out (by assumption)) _ _ _ | exact (At.set (Hid.out (by assumption)) _ _ _).more _)
    refine ⟨rfl, ?_⟩
    repeat first | exact G.refl _ | refine G.then ?_ (by assumption) | refine G.alloc ?_ _ | refine G.set ?_ (by simp <;> omega) _
  · unfold V
    rw [if_neg (by omega)]
    have h6 : ¬ (60 : Int) < (s.size : Int) := by omega
    go_enter Tryd.func15, Tryd.ntmps15
    go_wp2
    apply post1; exact Tryd.results15; rfl; (first | exact At.new3 _ _ _ _ _ _ | exact At.new2 _ _ _ _ _ | exact At.alloc _ _ _ _ | exact At.set (Hid.out (by assumption)) _ _ _ | exact (At.set (Hid.out (by assumption)) _ _ _).more _)
    refine ⟨rfl, ?_⟩
    repeat first | exact G.refl _ | refine G.then ?_ (by assumption) | refine G.alloc ?_ _ | refine G.set ?_ (by simp <;> omega) _
end Go.Proofs.YtlmmpcoakemooaaDoor
