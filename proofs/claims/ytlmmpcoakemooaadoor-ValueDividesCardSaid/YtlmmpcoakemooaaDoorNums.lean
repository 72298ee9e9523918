/-
  What a sign makes of two numbers. No conditions.
-/
import Derived.Test.YtlmmpcoakemooaaDoorShown
namespace Go.Proofs.YtlmmpcoakemooaaDoor
open Go.RowKit

theorem lt_any {a b p : Int} (h : one (decide (a < b)) = p) (w : World) : Calls Tryd.prog 12 #[.string ⟨#[60]⟩, V 1 a E, V 1 b E] w fun e w' => e = .returned (.tuple #[V 2 p E, .int .i64 0]) ∧ G w w' := by
  have k := bin_any ⟨#[60]⟩ 1 a E 1 b E w (by decide) (by decide)
  rw [show binR ⟨#[60]⟩ 1 a E 1 b E = boolR (decide (a < b)) by simp [binR, numR, orderR]] at k
  subst h
  exact k
theorem le_any {a b p : Int} (h : one (decide (a ≤ b)) = p) (w : World) : Calls Tryd.prog 12 #[.string ⟨#[60, 61]⟩, V 1 a E, V 1 b E] w fun e w' => e = .returned (.tuple #[V 2 p E, .int .i64 0]) ∧ G w w' := by
  have k := bin_any ⟨#[60, 61]⟩ 1 a E 1 b E w (by decide) (by decide)
  rw [show binR ⟨#[60, 61]⟩ 1 a E 1 b E = boolR (decide (a ≤ b)) by simp [binR, numR, orderR]] at k
  subst h
  exact k
theorem eq_any {a b p : Int} (h : one (decide (a = b)) = p) (w : World) : Calls Tryd.prog 12 #[.string ⟨#[61, 61]⟩, V 1 a E, V 1 b E] w fun e w' => e = .returned (.tuple #[V 2 p E, .int .i64 0]) ∧ G w w' := by
  have k := bin_any ⟨#[61, 61]⟩ 1 a E 1 b E w (by decide) (by decide)
  rw [show binR ⟨#[61, 61]⟩ 1 a E 1 b E = boolR (decide (a = b)) by simp [binR]] at k
  subst h
  exact k
theorem add_any {a b p : Int} (h : wrap64 (a + b) = p) (w : World) : Calls Tryd.prog 12 #[.string ⟨#[43]⟩, V 1 a E, V 1 b E] w fun e w' => e = .returned (.tuple #[V 1 p E, .int .i64 0]) ∧ G w w' := by
  have k := bin_any ⟨#[43]⟩ 1 a E 1 b E w (by decide) (by decide)
  rw [show binR ⟨#[43]⟩ 1 a E 1 b E = ⟨1, wrap64 (a + b), E, 0⟩ by simp [binR, numR]] at k
  subst h
  exact k
theorem sub_any {a b p : Int} (h : wrap64 (a - b) = p) (w : World) : Calls Tryd.prog 12 #[.string ⟨#[45]⟩, V 1 a E, V 1 b E] w fun e w' => e = .returned (.tuple #[V 1 p E, .int .i64 0]) ∧ G w w' := by
  have k := bin_any ⟨#[45]⟩ 1 a E 1 b E w (by decide) (by decide)
  rw [show binR ⟨#[45]⟩ 1 a E 1 b E = ⟨1, wrap64 (a - b), E, 0⟩ by simp [binR, numR]] at k
  subst h
  exact k
theorem mul_any {a b p : Int} (h : wrap64 (a * b) = p) (w : World) : Calls Tryd.prog 12 #[.string ⟨#[42]⟩, V 1 a E, V 1 b E] w fun e w' => e = .returned (.tuple #[V 1 p E, .int .i64 0]) ∧ G w w' := by
  have k := bin_any ⟨#[42]⟩ 1 a E 1 b E w (by decide) (by decide)
  rw [show binR ⟨#[42]⟩ 1 a E 1 b E = ⟨1, wrap64 (a * b), E, 0⟩ by simp [binR, numR]] at k
  subst h
  exact k
end Go.Proofs.YtlmmpcoakemooaaDoor
