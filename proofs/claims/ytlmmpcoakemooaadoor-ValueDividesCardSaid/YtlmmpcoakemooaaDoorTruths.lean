/-
  What a sign makes of truths. No conditions.
-/
import Derived.Test.YtlmmpcoakemooaaDoorShown
import Derived.Test.YtlmmpcoakemooaaDoorSign
namespace Go.Proofs.YtlmmpcoakemooaaDoor
open Go.RowKit

theorem and_any {a b p : Int} (h : one ((a == 1) && (b == 1)) = p) (w : World) : Calls Tryd.prog 12 #[.string ⟨#[38, 38]⟩, V 2 a E, V 2 b E] w fun e w' => e = .returned (.tuple #[V 2 p E, .int .i64 0]) ∧ G w w' := by
  have k := bin_any ⟨#[38, 38]⟩ 2 a E 2 b E w (by decide) (by decide)
  rw [show binR ⟨#[38, 38]⟩ 2 a E 2 b E = boolR ((a == 1) && (b == 1)) by simp [binR, bothR]] at k
  subst h
  exact k
theorem or_any {a b p : Int} (h : one ((a == 1) || (b == 1)) = p) (w : World) : Calls Tryd.prog 12 #[.string ⟨#[124, 124]⟩, V 2 a E, V 2 b E] w fun e w' => e = .returned (.tuple #[V 2 p E, .int .i64 0]) ∧ G w w' := by
  have k := bin_any ⟨#[124, 124]⟩ 2 a E 2 b E w (by decide) (by decide)
  rw [show binR ⟨#[124, 124]⟩ 2 a E 2 b E = boolR ((a == 1) || (b == 1)) by simp [binR, bothR]] at k
  subst h
  exact k
theorem not_any {a p : Int} (h : one (!decide (a = 1)) = p) (w : World) : Calls Tryd.prog 13 #[.string ⟨#[33]⟩, V 2 a E] w fun e w' => e = .returned (V 2 p E) ∧ G w w' := by
  have k := sign_any ⟨#[33]⟩ 2 a E w
  rw [show signR ⟨#[33]⟩ 2 a = boolR (!decide (a = 1)) by simp [signR]] at k
  subst h
  exact k
theorem truth_any {b : Bool} {p : Int} (h : one b = p) (w : World) : Calls Tryd.prog 14 #[.bool b] w fun e w' => e = .returned (V 2 p E) ∧ G w w' := by
  subst h
  exact bool_any b w
theorem neg_any {a p : Int} (h : wrap64 (-a) = p) (w : World) : Calls Tryd.prog 13 #[.string ⟨#[45]⟩, V 1 a E] w fun e w' => e = .returned (V 1 p E) ∧ G w w' := by
  have k := sign_any ⟨#[45]⟩ 1 a E w
  rw [show signR ⟨#[45]⟩ 1 a = ⟨1, wrap64 (-a), E, 0⟩ by simp [signR]] at k
  subst h
  exact k
end Go.Proofs.YtlmmpcoakemooaaDoor
