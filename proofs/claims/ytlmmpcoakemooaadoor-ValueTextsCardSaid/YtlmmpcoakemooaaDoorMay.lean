/-
  What each function of the values gives, and of the reference's. No conditions.
-/
import Derived.Test.YtlmmpcoakemooaaDoorSpec
namespace Go.Proofs.YtlmmpcoakemooaaDoor
open Go.RowKit

theorem may_any (t n : Int) (s : ByteArray) (w : World) : Calls Tryd.prog 17 #[V t n s] w fun e w' => e = .returned (.bool (mayB t n s)) ∧ G w w' := by
  rcases (show t = 1 ∨ t = 2 ∨ t = 3 ∨ t = 4 ∨ (t ≠ 1 ∧ t ≠ 2 ∧ t ≠ 3 ∧ t ≠ 4) by omega) with rfl | rfl | rfl | rfl | ⟨hr, hs, hu, hv⟩
  all_goals (
    unfold V
    go_enter Tryd.func17, Tryd.ntmps17
    go_wp2
    all_goals first
      | (exfalso; omega)
      | (go_ret; refine And.intro ?eq ?gg; case gg => (repeat first | exact G.refl _ | refine G.then ?_ (by assumption) | refine G.alloc ?_ _ | refine G.set ?_ (by simp <;> omega) _)
         case eq => (first | rfl | (simp_all [mayB, V, R.v]; all_goals first | rfl | (unfold wrap64; omega) | omega ))))

theorem rmay_any (t n : Int) (s : ByteArray) (w : World) : Calls Tryd.prog 26 #[V t n s] w fun e w' => e = .returned (.bool (mayB t n s)) ∧ G w w' := by
  rcases (show t = 1 ∨ t = 2 ∨ t = 3 ∨ t = 4 ∨ (t ≠ 1 ∧ t ≠ 2 ∧ t ≠ 3 ∧ t ≠ 4) by omega) with rfl | rfl | rfl | rfl | ⟨hr, hs, hu, hv⟩
  all_goals (
    unfold V
    go_enter Tryd.func26, Tryd.ntmps26
    go_wp2
    all_goals first
      | (exfalso; omega)
      | (go_ret; refine And.intro ?eq ?gg; case gg => (repeat first | exact G.refl _ | refine G.then ?_ (by assumption) | refine G.alloc ?_ _ | refine G.set ?_ (by simp <;> omega) _)
         case eq => (first | rfl | (simp_all [mayB, V, R.v]; all_goals first | rfl | (unfold wrap64; omega) | omega | (rw [Bool.eq_iff_iff]; simp; omega)))))

end Go.Proofs.YtlmmpcoakemooaaDoor
