/-
  What the table of the check holds. No conditions.
-/
import Derived.Test.YtoodfngcfdhnfaaRows
import Derived.Test.YtoodfngcfdhnfaaBase
namespace Go.Proofs.Ytoodfngcfdhnfaa
open Go.RowKit Go.Proofs.Ytoodfngcfdhnfaa.Crc

def tabAt (k i : Nat) : Value := .int .u32 ((if i < k then halves 8 i else 0 : Nat) : Int)
def tab (k : Nat) : Array Value := ((List.range 256).map (tabAt k)).toArray
theorem tab_size (k : Nat) : (tab k).size = 256 := by simp [tab]
theorem tab_get (k i : Nat) (h : i < 256) : (tab k)[i]? = some (tabAt k i) := by simp [tab, h]
theorem tab_set (k : Nat) : (tab k).setIfInBounds k (.int .u32 ((halves 8 k : Nat) : Int)) = tab (k + 1) := by
  apply Array.ext_getElem?
  intro i
  rw [Array.getElem?_setIfInBounds]
  by_cases hi : i < 256
  · rw [tab_get _ _ hi, tab_get _ _ hi]
    by_cases hk : k = i
    · subst hk
      rw [if_pos rfl, if_pos (by rw [tab_size]; exact hi)]
      simp [tabAt]
    · rw [if_neg hk]
      unfold tabAt
      by_cases h : i < k
      · rw [if_pos h, if_pos (by omega)]
      · rw [if_neg h, if_neg (by omega)]
  · have h1 : ∀ k, (tab k)[i]? = none := fun k => Array.getElem?_eq_none (by rw [tab_size]; omega)
    rw [h1, h1]
    split
    · rw [if_neg (by rw [tab_size]; omega)]
    · rfl

theorem tab_one (k : Nat) : ∀ v ∈ (tab k).toList, v.oneCell' = true := by
  intro v hv
  simp only [tab, List.mem_map] at hv
  obtain ⟨i, _, rfl⟩ := hv
  rfl
theorem zero35 : (Try.prog.info? 35).map (·.zero) = some (some (.agg (tab 0))) := by kernel_rfl

theorem half_u32 (r : Nat) (h : r < 4294967296) :
    bits .xor .u32 ((r : Int) / 2) (bits .and .u32 3988292384 (-bits .and .u32 (r : Int) 1 % 4294967296)) = ((half r : Nat) : Int) := by
  rw [show (1 : Int) = ((1 : Nat) : Int) from rfl, u32_and_nat r 1 h (by decide), nat_mask1]
  have hd : ((r : Int) / 2) = ((r / 2 : Nat) : Int) := by omega
  rw [hd]
  unfold half
  rcases Nat.mod_two_eq_zero_or_one r with h1 | h1
  · rw [h1, if_neg (by decide)]
    rw [show ((-((0 : Nat) : Int)) % 4294967296) = ((0 : Nat) : Int) from rfl, show (3988292384 : Int) = ((3988292384 : Nat) : Int) from rfl, u32_and_nat _ _ (by decide) (by decide), u32_xor_nat _ _ (by omega) (by decide)]
    simp
  · rw [h1, if_pos rfl]
    rw [show ((-((1 : Nat) : Int)) % 4294967296) = ((4294967295 : Nat) : Int) from rfl, show (3988292384 : Int) = ((3988292384 : Nat) : Int) from rfl, u32_and_nat _ _ (by decide) (by decide), u32_xor_nat _ _ (by omega) (by decide)]
    rfl

set_option maxRecDepth 100000 in
set_option maxHeartbeats 400000 in
theorem table_any (w : World) : Calls Try.prog 20 #[] w fun e w' => e = .returned (.agg (tab 256)) ∧ G w w' := by
  go_enter Try.func20, Try.ntmps20
  go_wp2_with (refine wpList_alloc_big rfl 35 rfl (tab 0) zero35 ?_)
  have hB0 := heap_alloc2_old w (.cells (tab 0) 35) (.cells (tab 0) 35)
  have hB1 := heap_alloc2_new w (.cells (tab 0) 35) (.cells (tab 0) 35)
  have hg0 : Below w.heap.size w ((w.alloc (.cells (tab 0) 35)).alloc (.cells (tab 0) 35)) := ((Below.refl _ w).alloc (Nat.le_refl _) _).alloc (by simp) _
  go_loopw [4] (fun i wr => ∃ k : Nat, k ≤ 256 ∧ i = .int .i64 k ∧ wr.heap[w.heap.size]? = some (.cells (tab 0) 35 (0, 0)) ∧ wr.heap[w.heap.size + 1]? = some (.cells (tab k) 35 (0, 0)) ∧ Below w.heap.size w wr)
    (fun i _ => 256 - (intOf i).toNat)
  case atStart => exact ⟨0, by omega, rfl, hB0, hB1, hg0⟩
  case round =>
    clear hB0 hB1 hg0
    obtain ⟨k, hk, rfl, hA, hT, hbel⟩ := hrel
    by_cases hlt : k < 256
    · have hcell : wr.cell? ⟨w.heap.size + 1, k, none⟩ = some (tabAt k k) := by rw [cell_of_row wr _ _ _ _ _ hT, tab_get _ _ hlt]
      have hfro := frozen_of_row wr (w.heap.size + 1) k _ _ hT
      have HA := hid hA; clear hA
      have HT := hid hT; clear hT
      go_wp2_with fail
      go_loop [3, 9] (fun r j => ∃ m : Nat, m ≤ 8 ∧ j = .int .i64 m ∧ r = .int .u32 ((halves m k : Nat) : Int)) (fun _ j => 8 - (intOf j).toNat)
      case atStart => exact ⟨0, by omega, rfl, rfl⟩
      case round =>
        obtain ⟨m, hm, rfl, rfl⟩ := hrel
        have hlt8 : halves m k < 4294967296 := halves_lt m (by omega)
        have hs : halves (m + 1) k = half (halves m k) := halves_add m 1 k
        have HS := hid hs; clear hs
        have hu := half_u32 (halves m k) hlt8
        generalize hR : halves m k = R at *
        have HR := hid hR; clear hR
        by_cases hm8 : m < 8
        · go_wp2_with fail
          go_round
          case rel =>
            exact ⟨m + 1, by omega, by go_num, by rw [HS.out, ← hu]⟩
          case measure => simp [intOf]; omega
        · obtain rfl : m = 8 := by omega
          go_wp2_with fail
          go_roundw
          case rel =>
            refine ⟨k + 1, by omega, by go_num, ?_, ?_, hbel.setCell (by simp) _⟩
            · rw [heap_setCell_other _ _ _ _ (by simp)]; exact HA.out
            · rw [heap_setCell_same wr _ k _ _ _ HT.out, ← tab_set k, HR.out]
          case measure => simp [intOf]; omega
    · obtain rfl : k = 256 := by omega
      have HA := hid hA; clear hA
      go_wp2_with (first
        | (refine wpList_load_row rfl 35 _ rfl (w.heap.size + 1) rfl 35 (tab 256) (0, 0) _ hT Try.underlying35 rfl (by rw [tab_size]; kernel_rfl) ?_)
        | (refine wpList_store_big rfl 35 _ _ rfl w.heap.size rfl (tab 256) (tab 0) 35 rfl HA.out rfl (by rw [tab_size]; kernel_rfl) (tab_one 256) ?_))
      refine bodyPost_ret (results_cell_row rfl _ _ w.heap.size 35 (tab 256) (0, 0) _ rfl (setRow_heap wr w.heap.size _ _ 35 _ HA.out) Try.underlying35 rfl (by rw [tab_size]; kernel_rfl)) rfl ⟨rfl, ?_⟩
      exact hbel.setRow (Nat.le_refl _) _
end Go.Proofs.Ytoodfngcfdhnfaa
