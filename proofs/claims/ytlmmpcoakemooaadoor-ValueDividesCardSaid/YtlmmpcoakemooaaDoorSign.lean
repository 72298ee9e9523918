/-
  What each function of the values gives, and of the reference's. No conditions.
-/
import Derived.Test.YtlmmpcoakemooaaDoorSpec
namespace Go.Proofs.YtlmmpcoakemooaaDoor
open Go.RowKit

theorem sign_any (g : ByteArray) (t n : Int) (s : ByteArray) (w : World) : Calls Tryd.prog 13 #[.string g, V t n s] w fun e w' => e = .returned ((signR g t n).u) ∧ G w w' := by
  rcases (show t = 1 ∨ t = 2 ∨ (t ≠ 1 ∧ t ≠ 2) by omega) with rfl | rfl | ⟨hr, hs⟩
  all_goals (
    unfold V
    go_enter Tryd.func13, Tryd.ntmps13
    go_wp2_with (first | (go_at_call 14; refine (bool_any _ _).mono ?_; rintro e w1 ⟨rfl, hg1⟩; (try simp only [R.v, V]); (first | (have A1 := hid (At.after3 hg1)) | (have A1 := hid (At.after2 hg1)) | (have A1 := hid (At.after hg1))); obtain ⟨l1, c10, c11, c12, f1⟩ := A1.out; have H1 := hid hg1; clear hg1) | (go_at_call 11; refine (int_any _ _).mono ?_; rintro e w1 ⟨rfl, hg1⟩; (try simp only [R.v, V]); (first | (have A1 := hid (At.after3 hg1)) | (have A1 := hid (At.after2 hg1)) | (have A1 := hid (At.after hg1))); obtain ⟨l1, c10, c11, c12, f1⟩ := A1.out; have H1 := hid hg1; clear hg1))
    all_goals first
      | (exfalso; omega)
      | (apply post1; exact Tryd.results13; rfl; (first | exact At.new3 _ _ _ _ _ _ | exact At.new2 _ _ _ _ _ | exact At.alloc _ _ _ _ | exact At.set (Hid.out (by assumption)) _ _ _ | exact (At.set (Hid.out (by assumption)) _ _ _).more _); refine And.intro ?eq ?gg; case gg => (repeat first | exact G.refl _ | refine G.then ?_ (by assumption) | refine G.alloc ?_ _ | refine G.set ?_ (by simp <;> omega) _)
         case eq => (first | rfl | (simp_all [signR, boolR, noR, R.u, V, R.v]; all_goals first | rfl | (unfold wrap64; omega) | omega ))))

theorem rsign_any (g : ByteArray) (t n : Int) (s : ByteArray) (w : World) : Calls Tryd.prog 25 #[.string g, V t n s] w fun e w' => e = .returned ((signR g t n).u) ∧ G w w' := by
  rcases (show t = 1 ∨ t = 2 ∨ (t ≠ 1 ∧ t ≠ 2) by omega) with rfl | rfl | ⟨hr, hs⟩
  all_goals (
    unfold V
    go_enter Tryd.func25, Tryd.ntmps25
    go_wp2_with (first | (go_at_call 20; refine (rbool_any _ _).mono ?_; rintro e w1 ⟨rfl, hg1⟩; (try simp only [R.v, V]); (first | (have A1 := hid (At.after3 hg1)) | (have A1 := hid (At.after2 hg1)) | (have A1 := hid (At.after hg1))); obtain ⟨l1, c10, c11, c12, f1⟩ := A1.out; have H1 := hid hg1; clear hg1) | (go_at_call 19; refine (rint_any _ _).mono ?_; rintro e w1 ⟨rfl, hg1⟩; (try simp only [R.v, V]); (first | (have A1 := hid (At.after3 hg1)) | (have A1 := hid (At.after2 hg1)) | (have A1 := hid (At.after hg1))); obtain ⟨l1, c10, c11, c12, f1⟩ := A1.out; have H1 := hid hg1; clear hg1))
    all_goals first
      | (exfalso; omega)
      | (apply post1; exact Tryd.results25; rfl; (first | exact At.new3 _ _ _ _ _ _ | exact At.new2 _ _ _ _ _ | exact At.alloc _ _ _ _ | exact At.set (Hid.out (by assumption)) _ _ _ | exact (At.set (Hid.out (by assumption)) _ _ _).more _); refine And.intro ?eq ?gg; case gg => (repeat first | exact G.refl _ | refine G.then ?_ (by assumption) | refine G.alloc ?_ _ | refine G.set ?_ (by simp <;> omega) _)
         case eq => (first | rfl | (simp_all [signR, boolR, noR, R.u, V, R.v]; all_goals first | rfl | (unfold wrap64; omega) | omega ))))

end Go.Proofs.YtlmmpcoakemooaaDoor
