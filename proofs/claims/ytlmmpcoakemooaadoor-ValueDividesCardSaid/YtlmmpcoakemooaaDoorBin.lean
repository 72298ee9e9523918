/-
  What each function of the values gives, and of the reference's. No conditions.
-/
import Derived.Test.YtlmmpcoakemooaaDoorSpec
namespace Go.Proofs.YtlmmpcoakemooaaDoor
open Go.RowKit

set_option maxHeartbeats 4000000 in
theorem bin_any (g : ByteArray) (t1 n1 : Int) (s1 : ByteArray) (t2 n2 : Int) (s2 : ByteArray) (w : World) (ha : s1.size ≤ 60) (hb : s2.size ≤ 60) : Calls Tryd.prog 12 #[.string g, V t1 n1 s1, V t2 n2 s2] w fun e w' => e = .returned ((binR g t1 n1 s1 t2 n2 s2).v) ∧ G w w' := by
  rcases (show t1 ≠ t2 ∨ (t1 = t2 ∧ (t1 < 1 ∨ 4 < t1 ∨ t1 = 1 ∨ t1 = 2 ∨ t1 = 3 ∨ t1 = 4)) by omega) with hq | ⟨rfl, hr | hr | rfl | rfl | rfl | rfl⟩
  all_goals (
    unfold V
    go_enter Tryd.func12, Tryd.ntmps12
    go_wp2_with (first | (go_at_call 14; refine (bool_any _ _).mono ?_; rintro e w1 ⟨rfl, hg1⟩; (try simp only [R.v, V]); (first | (have A1 := hid (At.after3 hg1)) | (have A1 := hid (At.after2 hg1)) | (have A1 := hid (At.after hg1))); obtain ⟨l1, c10, c11, c12, f1⟩ := A1.out; have H1 := hid hg1; clear hg1) | (go_at_call 31; refine (numbers_any _ _ _ _).mono ?_; rintro e w1 ⟨rfl, hg1⟩; (try simp only [R.v, V]); (first | (have A1 := hid (At.after3 hg1)) | (have A1 := hid (At.after2 hg1)) | (have A1 := hid (At.after hg1))); obtain ⟨l1, c10, c11, c12, f1⟩ := A1.out; have H1 := hid hg1; clear hg1) | (go_at_call 32; refine (both_any _ _ _ _).mono ?_; rintro e w1 ⟨rfl, hg1⟩; (try simp only [R.v, V]); (first | (have A1 := hid (At.after3 hg1)) | (have A1 := hid (At.after2 hg1)) | (have A1 := hid (At.after hg1))); obtain ⟨l1, c10, c11, c12, f1⟩ := A1.out; have H1 := hid hg1; clear hg1) | (go_at_call 33; refine (texts_any _ _ _ _ (by assumption) (by assumption)).mono ?_; rintro e w1 ⟨rfl, hg1⟩; (try simp only [R.v, V]); (first | (have A1 := hid (At.after3 hg1)) | (have A1 := hid (At.after2 hg1)) | (have A1 := hid (At.after hg1))); obtain ⟨l1, c10, c11, c12, f1⟩ := A1.out; have H1 := hid hg1; clear hg1))
    all_goals first
      | (exfalso; omega)
      | (apply post2; exact Tryd.results12; rfl; rfl; (first | exact At.new3 _ _ _ _ _ _ | exact At.new2 _ _ _ _ _ | exact At.alloc _ _ _ _ | exact At.set (Hid.out (by assumption)) _ _ _ | exact (At.set (Hid.out (by assumption)) _ _ _).more _); refine And.intro ?eq ?gg; case gg => (repeat first | exact G.refl _ | refine G.then ?_ (by assumption) | refine G.alloc ?_ _ | refine G.set ?_ (by simp <;> omega) _)
         case eq => (first | rfl | (simp_all [binR, boolR, noR, V, R.v]; all_goals first | rfl | (unfold wrap64; omega) | omega | (rw [if_neg (by omega)]; simp)))))

end Go.Proofs.YtlmmpcoakemooaaDoor
