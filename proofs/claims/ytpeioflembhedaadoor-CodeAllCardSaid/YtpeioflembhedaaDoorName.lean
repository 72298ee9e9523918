/-
  An instruction's name: what the split row of names holds at its kind. No conditions but that the library's own variable holds a number.
-/
import Derived.Test.YtpeioflembhedaaDoorVals
import Derived.Test.YtpeioflembhedaaDoorShelf
namespace Go.Proofs.YtpeioflembhedaaDoor
open Go.RowKit

/-- The library's variable internal/bytealg.MaxLen holds some number. -/
def Max (w : World) : Prop := ∃ m, w.cell? ⟨0, 0, none⟩ = some (.int .i64 m)
theorem max_on {w w' : World} (h : Max w) (k : G w w') : Max w' := let ⟨m, e⟩ := h; ⟨m, k.cell e⟩
def namesL : List ByteArray := [⟨#[109, 97, 114, 107]⟩, ⟨#[105, 110, 116]⟩, ⟨#[98, 111, 111, 108]⟩, ⟨#[116, 101, 120, 116]⟩, ⟨#[108, 111, 97, 100]⟩, ⟨#[115, 116, 111, 114, 101]⟩, ⟨#[98, 105, 110]⟩, ⟨#[110, 101, 103]⟩, ⟨#[110, 111, 116]⟩, ⟨#[108, 101, 110]⟩, ⟨#[105, 110, 100, 101, 120]⟩, ⟨#[112, 117, 116]⟩, ⟨#[110, 101, 119]⟩, ⟨#[105, 110, 112, 117, 116]⟩, ⟨#[112, 114, 105, 110, 116]⟩, ⟨#[106, 117, 109, 112]⟩, ⟨#[102, 97, 108, 115, 101]⟩, ⟨#[97, 110, 100]⟩, ⟨#[111, 114]⟩, ⟨#[99, 97, 108, 108]⟩, ⟨#[114, 101, 116]⟩, ⟨#[110, 111, 110, 101]⟩, ⟨#[112, 111, 112]⟩]
def nameR (o : Int) : ByteArray := if 1 ≤ o ∧ o ≤ 23 then namesL.getD (o - 1).toNat E else E
set_option maxRecDepth 100000 in
theorem split_any (w : World) (hm : Max w) : Calls Tryd.prog 21 #[.string ⟨#[109, 97, 114, 107, 32, 105, 110, 116, 32, 98, 111, 111, 108, 32, 116, 101, 120, 116, 32, 108, 111, 97, 100, 32, 115, 116, 111, 114, 101, 32, 98, 105, 110, 32, 110, 101, 103, 32, 110, 111, 116, 32, 108, 101, 110, 32, 105, 110, 100, 101, 120, 32, 112, 117, 116, 32, 110, 101, 119, 32, 105, 110, 112, 117, 116, 32, 112, 114, 105, 110, 116, 32, 106, 117, 109, 112, 32, 102, 97, 108, 115, 101, 32, 97, 110, 100, 32, 111, 114, 32, 99, 97, 108, 108, 32, 114, 101, 116, 32, 110, 111, 110, 101, 32, 112, 111, 112]⟩, .string ⟨#[32]⟩] w fun e w' => ∃ b, e = .returned (.slice (some ⟨b, 0, none⟩) 23 23) ∧ G w w' ∧ ∀ k : Nat, k < 23 → w'.cell? ⟨b, k, none⟩ = some (.string (namesL.getD k E)) := by
  obtain ⟨m, hm⟩ := hm
  refine (Tryd.strings_Split _ _ m w (by decide) hm (by decide)).mono ?_
  rintro e w' ⟨rfl, rfl⟩
  have hc : Lib.countB ⟨#[109, 97, 114, 107, 32, 105, 110, 116, 32, 98, 111, 111, 108, 32, 116, 101, 120, 116, 32, 108, 111, 97, 100, 32, 115, 116, 111, 114, 101, 32, 98, 105, 110, 32, 110, 101, 103, 32, 110, 111, 116, 32, 108, 101, 110, 32, 105, 110, 100, 101, 120, 32, 112, 117, 116, 32, 110, 101, 119, 32, 105, 110, 112, 117, 116, 32, 112, 114, 105, 110, 116, 32, 106, 117, 109, 112, 32, 102, 97, 108, 115, 101, 32, 97, 110, 100, 32, 111, 114, 32, 99, 97, 108, 108, 32, 114, 101, 116, 32, 110, 111, 110, 101, 32, 112, 111, 112]⟩ ⟨#[32]⟩ = 22 := by kernel_rfl
  have hs : (Lib.splitB ⟨#[32]⟩ 0 22 ⟨#[109, 97, 114, 107, 32, 105, 110, 116, 32, 98, 111, 111, 108, 32, 116, 101, 120, 116, 32, 108, 111, 97, 100, 32, 115, 116, 111, 114, 101, 32, 98, 105, 110, 32, 110, 101, 103, 32, 110, 111, 116, 32, 108, 101, 110, 32, 105, 110, 100, 101, 120, 32, 112, 117, 116, 32, 110, 101, 119, 32, 105, 110, 112, 117, 116, 32, 112, 114, 105, 110, 116, 32, 106, 117, 109, 112, 32, 102, 97, 108, 115, 101, 32, 97, 110, 100, 32, 111, 114, 32, 99, 97, 108, 108, 32, 114, 101, 116, 32, 110, 111, 110, 101, 32, 112, 111, 112]⟩) = namesL := by kernel_rfl
  rw [hc, hs]
  refine ⟨w.heap.size, rfl, (G.refl w).alloc _, fun k hk => ?_⟩
  rcases (show k = 0 ∨ k = 1 ∨ k = 2 ∨ k = 3 ∨ k = 4 ∨ k = 5 ∨ k = 6 ∨ k = 7 ∨ k = 8 ∨ k = 9 ∨ k = 10 ∨ k = 11 ∨ k = 12 ∨ k = 13 ∨ k = 14 ∨ k = 15 ∨ k = 16 ∨ k = 17 ∨ k = 18 ∨ k = 19 ∨ k = 20 ∨ k = 21 ∨ k = 22 by omega) with rfl | rfl | rfl | rfl | rfl | rfl | rfl | rfl | rfl | rfl | rfl | rfl | rfl | rfl | rfl | rfl | rfl | rfl | rfl | rfl | rfl | rfl | rfl
  all_goals simp [go_sem, namesL]
set_option maxRecDepth 100000 in
theorem name_any (o : Int) (w : World) (hm : Max w) : Calls Tryd.prog 9 #[.int .i64 o] w fun e w' => e = .returned (.string (nameR o)) ∧ G w w' := by
  by_cases h : 1 ≤ o ∧ o ≤ 23
  · obtain ⟨k, hk, rfl⟩ : ∃ k : Nat, k < 23 ∧ o = (k : Int) + 1 := ⟨(o - 1).toNat, by omega, by omega⟩
    unfold nameR
    rw [if_pos h, show ((k : Int) + 1 - 1).toNat = k by omega]
    go_enter Tryd.func9, Tryd.ntmps9
    go_wp2_with fail
    refine (split_any _ hm).mono ?_
    rintro e w1 ⟨b, rfl, hg, hs⟩
    have hs0 := hs k hk
    have HG := hid hg
    clear hs hg
    have hi : wrap64 ((k : Int) + 1 - 1) = k := by unfold wrap64; omega
    go_wp2_with fail
    go_ret
    exact ⟨rfl, HG.out⟩
  · unfold nameR
    rw [if_neg h]
    rcases (show o < 1 ∨ (1 ≤ o ∧ 23 < o) by omega) with k | k
    all_goals (
      go_enter Tryd.func9, Tryd.ntmps9
      go_wp2_with fail
      all_goals (go_ret; exact ⟨rfl, G.refl _⟩))
end Go.Proofs.YtpeioflembhedaaDoor
