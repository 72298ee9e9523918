/-
  What the check's register comes to: the walk over the program's loop and over the reference's. No conditions.
-/
import Derived.Test.YtoodfngcfdhnfaaTable
namespace Go.Proofs.Ytoodfngcfdhnfaa
open Go.RowKit Go.Proofs.Ytoodfngcfdhnfaa.Crc

theorem not_u32 (n : Nat) (h : n < 4294967296) : bits .xor .u32 IntKind.u32.max (n : Int) = ((n ^^^ full : Nat) : Int) := by
  rw [show IntKind.u32.max = ((4294967295 : Nat) : Int) from rfl, u32_xor_nat _ _ (by decide) h, Nat.xor_comm]
  rfl

theorem low_u8 (R x : Nat) (hx : x < 256) : bits .xor .u8 ((R : Int) % 256) (x : Int) = ((R % 256 ^^^ x : Nat) : Int) := by
  rw [show ((R : Int) % 256) = ((R % 256 : Nat) : Int) by omega, u8_xor_nat _ _ (by omega) hx]

theorem step_u32 (R x : Nat) (hR : R < 4294967296) (hx : x < 256) : bits .xor .u32 ((R : Int) / 256) ((halves 8 (R % 256 ^^^ x) : Nat) : Int) = ((stepB R x : Nat) : Int) := by
  rw [show ((R : Int) / 256) = ((R / 256 : Nat) : Int) by omega, u32_xor_nat _ _ (by omega) (halves_lt 8 (xor_lt (by omega) (by omega))), step_table hx]

theorem reg_succ (r : Nat) (ns : List Nat) (k : Nat) (h : k < ns.length) : reg r (ns.take (k + 1)) = stepB (reg r (ns.take k)) (ns.getD k 0) := by
  rw [List.take_succ_eq_append_getElem h, reg_append]
  simp [reg, List.getD, h]

set_option maxRecDepth 100000 in
set_option maxHeartbeats 400000 in
theorem go_any (n : Nat) (p : Option Addr) (c : Nat) (ns : List Nat) (w : World) (hn : n < 4294967296) (hr : RowAt w p c ns) (hlen : ns.length ≤ 140737488355328) :
    Calls Try.prog 13 #[.int .u32 n, .slice p ns.length c] w fun e w' => e = .returned (.int .u32 ((go n ns : Nat) : Int)) ∧ G w w' := by
  have h1 := not_u32 n hn
  have hI : n ^^^ full < 4294967296 := xor_lt hn full_lt
  go_enter Try.func13, Try.ntmps13
  go_wp2_with (first
    | (go_at_call 20; refine (table_any _).mono ?_; rintro e w1 ⟨rfl, hg1⟩)
    | (refine wpList_alloc_big rfl 35 rfl (tab 0) zero35 ?_)
    | (refine wpList_store_big rfl 35 _ _ rfl w1.heap.size rfl (tab 256) (tab 0) 35 rfl (heap_alloc_new w1 _) rfl (by rw [tab_size]; kernel_rfl) (tab_one 256) ?_))
  clear h1
  have hB := setRow_heap (w1.alloc (.cells (tab 0) 35)) w1.heap.size _ (tab 256) 35 _ (heap_alloc_new w1 _)
  have hg2 : G w ((w1.alloc (.cells (tab 0) 35)).setRow w1.heap.size (tab 256)) := hg1.trans (Below.setRow (Below.alloc (Below.refl _ w1) (Nat.le_refl _) _) (Nat.le_refl _) _)
  obtain ⟨w2, hw2⟩ : ∃ w2, w2 = (w1.alloc (.cells (tab 0) 35)).setRow w1.heap.size (tab 256) := ⟨_, rfl⟩
  rw [← hw2] at hB hg2 ⊢
  have hr2 := hr.mono hg2
  clear hr hw2 hg1
  have HB := hid hB; clear hB
  go_loop [6, 14] (fun r i => ∃ k : Nat, k ≤ ns.length ∧ i = .int .i64 k ∧ r = .int .u32 ((reg (n ^^^ full) (ns.take k) : Nat) : Int)) (fun _ i => ns.length - (intOf i).toNat)
  case atStart => exact ⟨0, by omega, rfl, rfl⟩
  case round =>
    obtain ⟨k, hk, rfl, rfl⟩ := hrel
    have hR : reg (n ^^^ full) (ns.take k) < 4294967296 := reg_lt _ hI (fun x hx => hr2.bytes x (List.mem_of_mem_take hx))
    by_cases hlt : k < ns.length
    · obtain ⟨b, o, rfl, hc⟩ := hr2.lies (by omega)
      have hx : ns.getD k 0 < 256 := by
        rw [List.getD_eq_getElem?_getD, List.getElem?_eq_getElem hlt]; exact hr2.bytes _ (List.getElem_mem hlt)
      have hcell := hc k hlt
      have hs := reg_succ (n ^^^ full) ns k hlt
      clear hc
      generalize ns.getD k 0 = x at *
      generalize hRR : reg (n ^^^ full) (ns.take k) = R at *
      clear hRR
      have HS := hid hs; clear hs
      have e1 := low_u8 R x hx
      have e2 := step_u32 R x hR hx
      have hi : R % 256 ^^^ x < 256 := Nat.xor_lt_two_pow (n := 8) (by omega) hx
      have hcT : w2.cell? ⟨w1.heap.size, R % 256 ^^^ x, none⟩ = some (.int .u32 ((halves 8 (R % 256 ^^^ x) : Nat) : Int)) := by
        rw [cell_of_row w2 _ _ _ _ _ HB.out, tab_get _ _ hi, tabAt, if_pos hi]
      go_wp2_with fail
      go_round
      case rel => exact ⟨k + 1, by omega, by go_num, by rw [HS.out]⟩
      case measure => simp [intOf]; omega
    · obtain rfl : k = ns.length := by omega
      rw [List.take_length] at *
      have hd : decide ((ns.length : Int) < (ns.length : Int)) = false := by simp
      have e1 := not_u32 _ hR
      have HR := hid hR; clear hR
      go_wp2_with fail
      go_ret
      exact ⟨rfl, hg2⟩

theorem halve_u32 (R : Nat) (h : R < 4294967296) (h1 : ((R : Int) % 2 == 1) = true) : bits .xor .u32 ((R : Int) / 2) 3988292384 = ((half R : Nat) : Int) := by
  have h2 : R % 2 = 1 := by simp at h1; omega
  rw [show ((R : Int) / 2) = ((R / 2 : Nat) : Int) by omega, show (3988292384 : Int) = ((3988292384 : Nat) : Int) from rfl, u32_xor_nat _ _ (by omega) (by decide)]
  unfold half
  rw [if_pos h2]
  rfl
theorem halve_u32' (R : Nat) (h1 : ((R : Int) % 2 == 1) = false) : ((R : Int) / 2) = ((half R : Nat) : Int) := by
  have h2 : ¬ R % 2 = 1 := by simp at h1; omega
  unfold half
  rw [if_neg h2]
  omega

set_option maxRecDepth 100000 in
set_option maxHeartbeats 400000 in
theorem rgo_any (n : Nat) (p : Option Addr) (c : Nat) (ns : List Nat) (w : World) (hn : n < 4294967296) (hr : RowAt w p c ns) (hlen : ns.length ≤ 140737488355328) :
    Calls Try.prog 14 #[.int .u32 n, .slice p ns.length c] w fun e w' => e = .returned (.int .u32 ((go n ns : Nat) : Int)) ∧ w = w' := by
  have h1 := not_u32 n hn
  have hI : n ^^^ full < 4294967296 := xor_lt hn full_lt
  go_enter Try.func14, Try.ntmps14
  go_wp2_with fail
  clear h1
  go_loop [5, 6] (fun r i => ∃ k : Nat, k ≤ ns.length ∧ i = .int .i64 k ∧ r = .int .u32 ((reg (n ^^^ full) (ns.take k) : Nat) : Int)) (fun _ i => ns.length - (intOf i).toNat)
  case atStart => exact ⟨0, by omega, rfl, rfl⟩
  case round =>
    obtain ⟨k, hk, rfl, rfl⟩ := hrel
    have hR : reg (n ^^^ full) (ns.take k) < 4294967296 := reg_lt _ hI (fun x hx => hr.bytes x (List.mem_of_mem_take hx))
    by_cases hlt : k < ns.length
    · obtain ⟨b, o, rfl, hc⟩ := hr.lies (by omega)
      have hx : ns.getD k 0 < 256 := by
        rw [List.getD_eq_getElem?_getD, List.getElem?_eq_getElem hlt]; exact hr.bytes _ (List.getElem_mem hlt)
      have hcell := hc k hlt
      have hs := reg_succ (n ^^^ full) ns k hlt
      clear hc
      generalize ns.getD k 0 = x at *
      generalize hRR : reg (n ^^^ full) (ns.take k) = R at *
      clear hRR
      have HS := hid hs; clear hs
      have e1 : bits .xor .u32 (R : Int) (x : Int) = ((R ^^^ x : Nat) : Int) := u32_xor_nat _ _ hR (by omega)
      have hX : R ^^^ x < 4294967296 := xor_lt hR (by omega)
      go_wp2_with fail
      clear e1
      go_loop [5, 7] (fun r j => ∃ m : Nat, m ≤ 8 ∧ j = .int .i64 m ∧ r = .int .u32 ((halves m (R ^^^ x) : Nat) : Int)) (fun _ j => 8 - (intOf j).toNat)
      case atStart => exact ⟨0, by omega, rfl, rfl⟩
      case round =>
        obtain ⟨m, hm, rfl, rfl⟩ := hrel
        have hlt8 : halves m (R ^^^ x) < 4294967296 := halves_lt m hX
        have hs : halves (m + 1) (R ^^^ x) = half (halves m (R ^^^ x)) := halves_add m 1 (R ^^^ x)
        have HS2 := hid hs; clear hs
        generalize hR : halves m (R ^^^ x) = T at *
        have HR := hid hR; clear hR
        by_cases hm8 : m < 8
        · cases ho : ((T : Int) % 2 == 1) with
          | true =>
            have hu := halve_u32 T hlt8 ho
            go_wp2_with fail
            go_round
            case rel => exact ⟨m + 1, by omega, by go_num, by rw [HS2.out]⟩
            case measure => simp [intOf]; omega
          | false =>
            have hu := halve_u32' T ho
            have HU := hid hu; clear hu
            go_wp2_with fail
            go_round
            case rel => exact ⟨m + 1, by omega, by go_num, by rw [HS2.out, HU.out]⟩
            case measure => simp [intOf]; omega
        · obtain rfl : m = 8 := by omega
          go_wp2_with fail
          go_round
          case rel => exact ⟨k + 1, by omega, by go_num, by rw [HS.out, ← HR.out]; rfl⟩
          case measure => simp [intOf]; omega
    · obtain rfl : k = ns.length := by omega
      rw [List.take_length] at *
      have hd : decide ((ns.length : Int) < (ns.length : Int)) = false := by simp
      have e1 := not_u32 _ hR
      have HR := hid hR; clear hR
      go_wp2_with fail
      go_ret
      exact ⟨rfl, rfl⟩
end Go.Proofs.Ytoodfngcfdhnfaa
