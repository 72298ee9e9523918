/-
  The signs that the statements try, as the row of them in memory. No conditions.
-/
import Derived.Test.YtlmmpcoakemooaaDoorVals
namespace Go.Proofs.YtlmmpcoakemooaaDoor
open Go.RowKit

def signOf (k : Nat) : ByteArray := [⟨#[43]⟩, ⟨#[45]⟩, ⟨#[42]⟩, ⟨#[47]⟩, ⟨#[37]⟩, ⟨#[60]⟩, ⟨#[60, 61]⟩, ⟨#[61, 61]⟩, ⟨#[33, 61]⟩, ⟨#[124, 124]⟩, ⟨#[38, 38]⟩, ⟨#[33]⟩, ⟨#[63]⟩].getD k ⟨#[]⟩
theorem signs_any (w : World) : Calls Tryd.prog 16 #[] w fun e w' => ∃ b, e = .returned (.slice (some ⟨b, 0, none⟩) 13 13) ∧ G w w' ∧ ∀ k : Nat, k < 13 → w'.cell? ⟨b, k, none⟩ = some (.string (signOf k)) := by
  go_enter Tryd.func16, Tryd.ntmps16
  go_wp2
  go_ret
  refine ⟨_, rfl, ?_, fun k hk => ?_⟩
  · exact (G.refl w).alloc _
  · rcases (show k = 0 ∨ k = 1 ∨ k = 2 ∨ k = 3 ∨ k = 4 ∨ k = 5 ∨ k = 6 ∨ k = 7 ∨ k = 8 ∨ k = 9 ∨ k = 10 ∨ k = 11 ∨ k = 12 by omega) with rfl | rfl | rfl | rfl | rfl | rfl | rfl | rfl | rfl | rfl | rfl | rfl | rfl
    all_goals simp [go_sem, signOf]
end Go.Proofs.YtlmmpcoakemooaaDoor
