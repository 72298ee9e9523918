/-
  The walk over CrcBursts: it returns true, and writes nothing that was there. No conditions.
-/
import Derived.Test.YtoodfngcfdhnfaaOps
import Derived.Deep.Cut
namespace Go.Proofs.Ytoodfngcfdhnfaa
open Go.RowKit Go.Proofs.Ytoodfngcfdhnfaa.Crc

theorem _root_.Go.World.ownsRow.mono' {w w' : World} {B e size n : Nat} {v : Value} {xs : List Value} (h : w.ownsRow B e size v n xs) (hg : G w w') : w'.ownsRow B e size v n xs := by
  refine ⟨h.1, ?_⟩
  rcases h.2 with h2 | ⟨g, cap, cur, hv, hb, hh, r⟩
  · exact .inl h2
  · exact .inr ⟨g, cap, cur, hv, hb, by rw [Below.block hg g (Array.getElem?_eq_some_iff.1 hh).1]; exact hh, r⟩

theorem low_i64 (a : Int) : ∃ A : Nat, A ≤ 1048575 ∧ bits .and .i64 a 1048575 = (A : Int) := by
  have hlt : (BitVec.ofInt 64 a &&& BitVec.ofInt 64 1048575).toNat ≤ 1048575 := by
    rw [BitVec.toNat_and]
    exact Nat.le_trans Nat.and_le_right (by decide)
  refine ⟨(BitVec.ofInt 64 a &&& BitVec.ofInt 64 1048575).toNat, hlt, ?_⟩
  show IntKind.i64.wrap ((BitVec.ofInt 64 a &&& BitVec.ofInt 64 1048575).toNat : Int) = _
  exact IntWalk.i64_in _ (by omega)

set_option maxRecDepth 100000 in
set_option maxHeartbeats 2000000 in
theorem bursts_any (u : Value) (ns : List Nat) (at0 : Int) (wh : Nat) (w : World) (hu : IsRow ns u w) (hat : -9223372036854775808 ≤ at0 ∧ at0 ≤ 9223372036854775807) (hwh : wh < 4294967296) :
    Calls Try.prog 6 #[u, .int .i64 at0, .int .u32 wh] w fun e w' => e = .returned (.bool true) ∧ G w w' := by
  obtain ⟨p0, c0, rfl, hc0, hr0⟩ := hu
  have HR0 := hid hr0; clear hr0
  obtain ⟨A, hA, hAe⟩ := low_i64 at0
  go_enter Try.func6, Try.ntmps6
  go_wp2_with fail
  refine (shown_any _).mono ?_
  rintro e w1 ⟨rfl, hg1⟩
  go_wp2_with fail
  refine (short_say (ns := ns) ⟨p0, c0, rfl, hc0, HR0.out.mono hg1⟩).mono ?_
  rintro e w1' ⟨p, c, rfl, hc, hr, rfl⟩
  have hl := short_len ns
  generalize ns.take 2000 = ms at *
  have hb := hr.bytes
  have HR := hid hr; clear hr
  go_wp2_with fail
  refine (put_say (ns := ms) ⟨p, c, rfl, hc, HR.out⟩ (by omega)).mono ?_
  rintro e w2 ⟨_, rfl, hg2, q, e, rfl, hce, hP0⟩
  have hPb := hP0.bytes
  have hle := hP0.le
  rw [put_length] at *
  have HP := hid hP0; clear hP0
  have hg12 := hg1.trans hg2
  have hO0 : Owns w2.heap.size (w2.alloc (.cells #[] 5)) (.slice (some ⟨w2.heap.size, 0, none⟩) 0 0) [] := World.ownsRow_made w2 #[] 0 (Nat.le_refl _) (Nat.zero_le _) rfl
  have HO := hid hO0; clear hO0 hg1 hg2
  go_wp2_with (at_builtin; refine wpList_append_row rfl (.tmp 28) (.tmp 29) rfl w2.heap.size _ [] rfl HO.out q _ e (put ms) rfl (put_length ms) (HP.out.mono ((G.refl w2).alloc _)) (by rw [put_length]; simp; omega) (by simp) ?_)
  intro v1 w3 hown1 hbel1
  have hown1 : Owns w2.heap.size w3 v1 (put ms) := by simpa using hown1
  have hg3 : G w2 w3 := ((G.refl w2).alloc _).trans' hbel1 (Nat.le_refl _)
  obtain ⟨g, cap, e1, hgB, _⟩ := hown1.at (by rw [put_length]; omega)
  rw [put_length] at e1
  subst e1
  have HO1 := hid hown1; have HG3 := hid hg3; clear hown1 hbel1 hg3
  obtain ⟨K, hK⟩ : ∃ K : Nat, K = A % (8 * (ms.length + 4)) := ⟨_, rfl⟩
  have hKe : (A : Int) % (8 * ((ms.length : Int) + 4)) = (K : Int) := by rw [hK]; simp
  have hKl : K < 8 * (ms.length + 4) := by rw [hK]; exact Nat.mod_lt _ (by omega)
  clear hK
  go_wp2_with fail
  rw [hKe]
  clear hKe hAe hA
  have hPn : Bytes (put ms) := hPb
  go_loopw [12] (fun i wr => ∃ (k : Nat) (xs : List Nat) (W : Nat), k ≤ 32 ∧ i = .int .i64 k ∧ Owns w2.heap.size wr (.slice (some ⟨g, 0, none⟩) (ms.length + 4) cap) xs ∧ xs.length = ms.length + 4 ∧ Bytes xs ∧ val xs = val (put ms) ^^^ 2 ^ K * W ∧ W < 4294967296 ∧ G w2 wr) (fun i _ => 32 - (intOf i).toNat)
  case atStart => exact ⟨0, put ms, 0, by omega, rfl, HO1.out, put_length ms, hPb, by simp, by decide, HG3.out⟩
  case round =>
    obtain ⟨i, xs, W, hi, rfl, hown, hxl, hxb, hval, hW, hgr⟩ := hrel
    have HV := hid hval; have HX := hid hown; have HXL := hid hxl
    clear hval hown hxl
    by_cases hlt : i < 32
    · go_upto_region 12 with (fail)
      · have hKi : K + i < 8 * (ms.length + 4) := by
          have h : (K : Int) + (i : Int) < 8 * ((ms.length : Int) + 4) := by assumption
          omega
        have hj : (K + i) / 8 < xs.length := by rw [HXL.out]; omega
        obtain ⟨x8, hx8⟩ : ∃ x8, x8 = xs.getD ((K + i) / 8) 0 := ⟨_, rfl⟩
        have hxj : x8 < 256 := by rw [hx8, List.getD_eq_getElem?_getD, List.getElem?_eq_getElem hj]; exact hxb _ (List.getElem_mem hj)
        have hown : wr.ownsRow w2.heap.size 5 1 (.slice (some ⟨g, 0, none⟩) (ms.length + 4) cap) (ms.length + 4) (cells xs) := by
          have h := HX.out
          unfold Owns at h
          rw [HXL.out] at h
          exact h
        have hcell : wr.cell? ⟨g, (K + i) / 8, none⟩ = some (.int .u8 (x8 : Int)) := by
          rw [hx8, hown.cellAt _ (by rw [HXL.out] at hj; omega)]
          simp [cells, List.getD, hj]
        have HC := hid hcell; have HO2 := hid hown; have HX8 := hid hx8
        clear hcell hown hx8
        refine wp_region_tail (says [Say.is (.slice (some ⟨g, 0, none⟩) (ms.length + 4) cap), Say.is (.int .i64 ((K : Nat) : Int)), Say.is (.int .i64 ((i : Nat) : Int)), Say.is (.int .i64 ((K + i : Nat) : Int)), Say.is (.int .i64 (((K + i) / 8 : Nat) : Int)), Say.is (.slice (some ⟨g, 0, none⟩) (ms.length + 4) cap), Say.is (.int .i64 ((K : Nat) : Int)), Say.is (.int .i64 ((i : Nat) : Int)), Say.is (.int .i64 ((K + i : Nat) : Int)), Say.is (.int .i64 (((K + i) / 8 : Nat) : Int)), Say.is (.pointer (some ⟨g, (K + i) / 8, none⟩)), Say.is (.int .u8 (x8 : Int)), Say.is (.int .i64 ((K : Nat) : Int)), Say.is (.int .i64 ((i : Nat) : Int)), Say.is (.int .i64 ((K + i : Nat) : Int)), Say.is (.int .i64 (((K + i) % 8 : Nat) : Int)), Say.is (.int .u8 ((2 ^ ((K + i) % 8) : Nat) : Int)), Say.is (.int .u8 ((x8 ^^^ 2 ^ ((K + i) % 8) : Nat) : Int)), Say.is (.pointer (some ⟨g, (K + i) / 8, none⟩))]) 19 82 (by kernel_rfl) (by kernel_rfl) rfl (says_mono _) (allSteps_take ⟨?_, ?_, ?_, ?_, ?_, ?_, ?_, ?_, ?_, ?_, ?_, ?_, ?_, ?_, ?_, ?_, ?_, ?_, ?_, trivial⟩) ?_
        · intro a w1 hG hin
          have h11 : a.eval (.tmp 11) = .slice (some ⟨g, 0, none⟩) (ms.length + 4) cap := slot_out (hin 11 (by decide)) rfl
          clear hin
          exact .inl ⟨wanted_none rfl, grow_move rfl h11⟩
        · intro a w1 hG hin
          have h10 : a.eval (.tmp 10) = .int .i64 ((K : Nat) : Int) := slot_out (hin 10 (by decide)) rfl
          clear hin
          exact .inl ⟨wanted_none rfl, grow_move rfl h10⟩
        · intro a w1 hG hin
          have h12 : a.eval (.tmp 12) = .int .i64 ((i : Nat) : Int) := slot_out (hin 12 (by decide)) rfl
          clear hin
          exact .inl ⟨wanted_none rfl, grow_move rfl h12⟩
        · intro a w1 hG hin
          have h48 : a.eval (.tmp 48) = .int .i64 ((K : Nat) : Int) := slot_in (hin 48 (by decide)) rfl
          have h49 : a.eval (.tmp 49) = .int .i64 ((i : Nat) : Int) := slot_in (hin 49 (by decide)) rfl
          clear hin
          refine .inl ⟨wanted_none rfl, ?_⟩
          exact grow_addi rfl h48 h49 (by omega) rfl
        · intro a w1 hG hin
          have h50 : a.eval (.tmp 50) = .int .i64 ((K + i : Nat) : Int) := slot_in (hin 50 (by decide)) rfl
          clear hin
          refine .inl ⟨wanted_none rfl, ?_⟩
          exact grow_quo8 rfl h50 (by omega) rfl
        · intro a w1 hG hin
          have h11 : a.eval (.tmp 11) = .slice (some ⟨g, 0, none⟩) (ms.length + 4) cap := slot_out (hin 11 (by decide)) rfl
          clear hin
          exact .inl ⟨wanted_none rfl, grow_move rfl h11⟩
        · intro a w1 hG hin
          have h10 : a.eval (.tmp 10) = .int .i64 ((K : Nat) : Int) := slot_out (hin 10 (by decide)) rfl
          clear hin
          exact .inl ⟨wanted_none rfl, grow_move rfl h10⟩
        · intro a w1 hG hin
          have h12 : a.eval (.tmp 12) = .int .i64 ((i : Nat) : Int) := slot_out (hin 12 (by decide)) rfl
          clear hin
          exact .inl ⟨wanted_none rfl, grow_move rfl h12⟩
        · intro a w1 hG hin
          have h53 : a.eval (.tmp 53) = .int .i64 ((K : Nat) : Int) := slot_in (hin 53 (by decide)) rfl
          have h54 : a.eval (.tmp 54) = .int .i64 ((i : Nat) : Int) := slot_in (hin 54 (by decide)) rfl
          clear hin
          refine .inl ⟨wanted_none rfl, ?_⟩
          exact grow_addi rfl h53 h54 (by omega) rfl
        · intro a w1 hG hin
          have h55 : a.eval (.tmp 55) = .int .i64 ((K + i : Nat) : Int) := slot_in (hin 55 (by decide)) rfl
          clear hin
          refine .inl ⟨wanted_none rfl, ?_⟩
          exact grow_quo8 rfl h55 (by omega) rfl
        · intro a w1 hG hin
          have h52 : a.eval (.tmp 52) = .slice (some ⟨g, 0, none⟩) (ms.length + 4) cap := slot_in (hin 52 (by decide)) rfl
          have h56 : a.eval (.tmp 56) = .int .i64 (((K + i) / 8 : Nat) : Int) := slot_in (hin 56 (by decide)) rfl
          clear hin
          refine .inl ⟨wanted_none rfl, ?_⟩
          exact grow_index rfl h52 h56 (by omega) (congrArg (fun z => Value.pointer (some ⟨g, z, none⟩)) (Nat.zero_add _))
        · intro a w1 hG hin
          have h57 : a.eval (.tmp 57) = .pointer (some ⟨g, (K + i) / 8, none⟩) := slot_in (hin 57 (by decide)) rfl
          clear hin
          refine .inl ⟨wanted_none rfl, ?_⟩
          exact grow_load8 rfl h57 (hG.cell HC.out) rfl
        · intro a w1 hG hin
          have h10 : a.eval (.tmp 10) = .int .i64 ((K : Nat) : Int) := slot_out (hin 10 (by decide)) rfl
          clear hin
          exact .inl ⟨wanted_none rfl, grow_move rfl h10⟩
        · intro a w1 hG hin
          have h12 : a.eval (.tmp 12) = .int .i64 ((i : Nat) : Int) := slot_out (hin 12 (by decide)) rfl
          clear hin
          exact .inl ⟨wanted_none rfl, grow_move rfl h12⟩
        · intro a w1 hG hin
          have h59 : a.eval (.tmp 59) = .int .i64 ((K : Nat) : Int) := slot_in (hin 59 (by decide)) rfl
          have h60 : a.eval (.tmp 60) = .int .i64 ((i : Nat) : Int) := slot_in (hin 60 (by decide)) rfl
          clear hin
          refine .inl ⟨wanted_none rfl, ?_⟩
          exact grow_addi rfl h59 h60 (by omega) rfl
        · intro a w1 hG hin
          have h61 : a.eval (.tmp 61) = .int .i64 ((K + i : Nat) : Int) := slot_in (hin 61 (by decide)) rfl
          clear hin
          refine .inl ⟨wanted_none rfl, ?_⟩
          exact grow_rem8 rfl h61 (by omega) rfl
        · intro a w1 hG hin
          have h62 : a.eval (.tmp 62) = .int .i64 (((K + i) % 8 : Nat) : Int) := slot_in (hin 62 (by decide)) rfl
          clear hin
          refine .inl ⟨wanted_none rfl, ?_⟩
          exact grow_shl1 rfl h62 (by omega) rfl
        · intro a w1 hG hin
          have h58 : a.eval (.tmp 58) = .int .u8 (x8 : Int) := slot_in (hin 58 (by decide)) rfl
          have h63 : a.eval (.tmp 63) = .int .u8 ((2 ^ ((K + i) % 8) : Nat) : Int) := slot_in (hin 63 (by decide)) rfl
          clear hin
          refine .inl ⟨wanted_none rfl, ?_⟩
          exact grow_xoru8 rfl h58 h63 hxj (Nat.pow_lt_pow_right (a := 2) (by decide) (show (K + i) % 8 < 8 by omega)) rfl
        · intro a w1 hG hin
          have h47 : a.eval (.tmp 47) = .slice (some ⟨g, 0, none⟩) (ms.length + 4) cap := slot_in (hin 47 (by decide)) rfl
          have h51 : a.eval (.tmp 51) = .int .i64 (((K + i) / 8 : Nat) : Int) := slot_in (hin 51 (by decide)) rfl
          clear hin
          refine .inl ⟨wanted_none rfl, ?_⟩
          exact grow_index rfl h47 h51 (by omega) (congrArg (fun z => Value.pointer (some ⟨g, z, none⟩)) (Nat.zero_add _))
        · intro s wz hG hin hs
          have f0 : s 0 = .slice p0 ns.length c0 := (hs 0 (by decide)).symm.trans (slot_out (hin 0) rfl)
          have f1 : s 1 = .int .i64 at0 := (hs 1 (by decide)).symm.trans (slot_out (hin 1) rfl)
          have f2 : s 2 = .int .u32 (wh : Int) := (hs 2 (by decide)).symm.trans (slot_out (hin 2) rfl)
          have f3 : s 3 = undef := (hs 3 (by decide)).symm.trans (slot_out (hin 3) rfl)
          have f4 : s 4 = undef := (hs 4 (by decide)).symm.trans (slot_out (hin 4) rfl)
          have f5 : s 5 = undef := (hs 5 (by decide)).symm.trans (slot_out (hin 5) rfl)
          have f6 : s 6 = .bool false := (hs 6 (by decide)).symm.trans (slot_out (hin 6) rfl)
          have f7 : s 7 = .bool true := (hs 7 (by decide)).symm.trans (slot_out (hin 7) rfl)
          have f8 : s 8 = .slice q (ms.length + 4) e := (hs 8 (by decide)).symm.trans (slot_out (hin 8) rfl)
          have f9 : s 9 = .int .i64 (8 * ((ms.length : Int) + 4)) := (hs 9 (by decide)).symm.trans (slot_out (hin 9) rfl)
          have f10 : s 10 = .int .i64 ((K : Nat) : Int) := (hs 10 (by decide)).symm.trans (slot_out (hin 10) rfl)
          have f11 : s 11 = .slice (some ⟨g, 0, none⟩) (ms.length + 4) cap := (hs 11 (by decide)).symm.trans (slot_out (hin 11) rfl)
          have f12 : s 12 = .int .i64 ((i : Nat) : Int) := (hs 12 (by decide)).symm.trans (slot_out (hin 12) rfl)
          have f13 : s 13 = undef := (hs 13 (by decide)).symm.trans (slot_out (hin 13) rfl)
          have f14 : s 14 = undef := (hs 14 (by decide)).symm.trans (slot_out (hin 14) rfl)
          have f15 : s 15 = .bool true := (hs 15 (by decide)).symm.trans (slot_out (hin 15) rfl)
          have f16 : s 16 = .slice p0 ns.length c0 := (hs 16 (by decide)).symm.trans (slot_out (hin 16) rfl)
          have f17 : s 17 = .slice p ms.length c := (hs 17 (by decide)).symm.trans (slot_out (hin 17) rfl)
          have f18 : s 18 = .slice q (ms.length + 4) e := (hs 18 (by decide)).symm.trans (slot_out (hin 18) rfl)
          have f19 : s 19 = .slice q (ms.length + 4) e := (hs 19 (by decide)).symm.trans (slot_out (hin 19) rfl)
          have f20 : s 20 = .int .i64 ((ms.length : Int) + 4) := (hs 20 (by decide)).symm.trans (slot_out (hin 20) rfl)
          have f21 : s 21 = .int .i64 (8 * ((ms.length : Int) + 4)) := (hs 21 (by decide)).symm.trans (slot_out (hin 21) rfl)
          have f22 : s 22 = .int .i64 (8 * ((ms.length : Int) + 4)) := (hs 22 (by decide)).symm.trans (slot_out (hin 22) rfl)
          have f23 : s 23 = .bool (decide (8 * ((ms.length : Int) + 4) < 32)) := (hs 23 (by decide)).symm.trans (slot_out (hin 23) rfl)
          have f24 : s 24 = .int .i64 at0 := (hs 24 (by decide)).symm.trans (slot_out (hin 24) rfl)
          have f25 : s 25 = .int .i64 ((A : Nat) : Int) := (hs 25 (by decide)).symm.trans (slot_out (hin 25) rfl)
          have f26 : s 26 = .int .i64 (8 * ((ms.length : Int) + 4)) := (hs 26 (by decide)).symm.trans (slot_out (hin 26) rfl)
          have f27 : s 27 = .int .i64 ((K : Nat) : Int) := (hs 27 (by decide)).symm.trans (slot_out (hin 27) rfl)
          have f28 : s 28 = .slice (some ⟨w2.heap.size, 0, none⟩) 0 0 := (hs 28 (by decide)).symm.trans (slot_out (hin 28) rfl)
          have f29 : s 29 = .slice q (ms.length + 4) e := (hs 29 (by decide)).symm.trans (slot_out (hin 29) rfl)
          have f30 : s 30 = .slice (some ⟨g, 0, none⟩) (ms.length + 4) cap := (hs 30 (by decide)).symm.trans (slot_out (hin 30) rfl)
          have f66 : s 66 = undef := (hs 66 (by decide)).symm.trans (slot_out (hin 66) rfl)
          have f67 : s 67 = undef := (hs 67 (by decide)).symm.trans (slot_out (hin 67) rfl)
          have f68 : s 68 = undef := (hs 68 (by decide)).symm.trans (slot_out (hin 68) rfl)
          have f69 : s 69 = undef := (hs 69 (by decide)).symm.trans (slot_out (hin 69) rfl)
          have f70 : s 70 = undef := (hs 70 (by decide)).symm.trans (slot_out (hin 70) rfl)
          have f71 : s 71 = undef := (hs 71 (by decide)).symm.trans (slot_out (hin 71) rfl)
          have f72 : s 72 = undef := (hs 72 (by decide)).symm.trans (slot_out (hin 72) rfl)
          have f73 : s 73 = undef := (hs 73 (by decide)).symm.trans (slot_out (hin 73) rfl)
          have f74 : s 74 = undef := (hs 74 (by decide)).symm.trans (slot_out (hin 74) rfl)
          have f75 : s 75 = undef := (hs 75 (by decide)).symm.trans (slot_out (hin 75) rfl)
          have f76 : s 76 = undef := (hs 76 (by decide)).symm.trans (slot_out (hin 76) rfl)
          have f77 : s 77 = undef := (hs 77 (by decide)).symm.trans (slot_out (hin 77) rfl)
          have f78 : s 78 = undef := (hs 78 (by decide)).symm.trans (slot_out (hin 78) rfl)
          have f79 : s 79 = undef := (hs 79 (by decide)).symm.trans (slot_out (hin 79) rfl)
          have f80 : s 80 = undef := (hs 80 (by decide)).symm.trans (slot_out (hin 80) rfl)
          have f81 : s 81 = undef := (hs 81 (by decide)).symm.trans (slot_out (hin 81) rfl)
          have f64 : s 64 = .int .u8 ((x8 ^^^ 2 ^ ((K + i) % 8) : Nat) : Int) := (hs 64 (by decide)).symm.trans (slot_in (hin 64) rfl)
          have f65 : s 65 = .pointer (some ⟨g, (K + i) / 8, none⟩) := (hs 65 (by decide)).symm.trans (slot_in (hin 65) rfl)
          clear hin hs
          rw [show List.range 82 = [0, 1, 2, 3, 4, 5, 6, 7, 8, 9, 10, 11, 12, 13, 14, 15, 16, 17, 18, 19, 20, 21, 22, 23, 24, 25, 26, 27, 28, 29, 30, 31, 32, 33, 34, 35, 36, 37, 38, 39, 40, 41, 42, 43, 44, 45, 46, 47, 48, 49, 50, 51, 52, 53, 54, 55, 56, 57, 58, 59, 60, 61, 62, 63, 64, 65, 66, 67, 68, 69, 70, 71, 72, 73, 74, 75, 76, 77, 78, 79, 80, 81] from rfl]
          simp only [List.map_cons, List.map_nil]
          rw [f0, f1, f2, f3, f4, f5, f6, f7, f8, f9, f10, f11, f12, f13, f14, f15, f16, f17, f18, f19, f20, f21, f22, f23, f24, f25, f26, f27, f28, f29, f30, f66, f67, f68, f69, f70, f71, f72, f73, f74, f75, f76, f77, f78, f79, f80, f81, f64, f65]
          have hown := World.ownsRow.mono' HO2.out hG
          have hfro := hown.frozenAt ((K + i) / 8)
          have hcell := hG.cell HC.out
          have hst := hown.stored ((K + i) / 8) (.int .u8 ((x8 ^^^ 2 ^ ((K + i) % 8) : Nat) : Int))
          have HST := hid hst
          clear hst hown f0 f1 f2 f3 f4 f5 f6 f7 f8 f9 f10 f11 f12 f13 f14 f15 f16 f17 f18 f19 f20 f21 f22 f23 f24 f25 f26 f27 f28 f29 f30 f66 f67 f68 f69 f70 f71 f72 f73 f74 f75 f76 f77 f78 f79 f80 f81 f64 f65
          simp only [List.drop_succ_cons, List.drop_zero]
          go_wp2_with fail
          go_roundw
          case rel =>
            refine ⟨i + 1, xs.set ((K + i) / 8) (xs.getD ((K + i) / 8) 0 ^^^ 2 ^ ((K + i) % 8)), W ^^^ 2 ^ i, by omega, by go_num, ?_, by rw [List.length_set]; exact HXL.out, flip_bytes hxb (by omega), flip_val hxb (by rw [HXL.out]; exact hKi) HV.out,
              Nat.xor_lt_two_pow (n := 32) hW (Nat.pow_lt_pow_right (a := 2) (by decide) hlt), ?_⟩
            · unfold Owns
              rw [List.length_set, HXL.out]
              have h := HST.out.1
              rw [← HX8.out]
              unfold cells at h ⊢
              rw [List.map_set]
              exact h
            · refine (hgr.trans hG).grown HST.out.2 (fun k hk => ?_)
              cases hk
              exact hgB
          case measure => simp [intOf]; omega
      · have hKi : 8 * ((ms.length : Int) + 4) ≤ (K : Int) + (i : Int) := by assumption
        go_roundw
        case rel => exact ⟨i + 1, xs, W, by omega, by go_num, HX.out, HXL.out, hxb, HV.out, hW, hgr⟩
        case measure => simp [intOf]; omega
      · go_roundw
        case rel => exact ⟨i + 1, xs, W, by omega, by go_num, HX.out, HXL.out, hxb, HV.out, hW, hgr⟩
        case measure => simp [intOf]; omega
    · obtain rfl : i = 32 := by omega
      have hXR : IsRow xs (.slice (some ⟨g, 0, none⟩) (ms.length + 4) cap) wr := owns_isRow hxb HX.out
      have hPR : IsRow (put ms) (.slice q (ms.length + 4) e) wr := ⟨q, e, by rw [put_length], hce, HP.out.mono hgr⟩
      have H1 := hid hXR; have H2 := hid hPR
      clear hXR hPR
      go_upto_region 13 with (fail)
      have hXR := H1.out; have hPR := H2.out
      refine wp_region_lines (says [Say.row xs, Say.is (.string (str xs)), Say.row (put ms), Say.is (.string (str (put ms))), Say.is (.bool (decide (xs = put ms)))]) 82 (by kernel_rfl) rfl (says_mono _) (allSteps_take ⟨?_, ?_, ?_, ?_, ?_, trivial⟩) ?_
      · intro a w1 hG hin
        have h11 : a.eval (.tmp 11) = .slice (some ⟨g, 0, none⟩) (ms.length + 4) cap := slot_out (hin 11 (by decide)) rfl
        clear hin
        refine .inl ⟨wanted_none rfl, ?_⟩
        refine grow_move rfl ?_
        rw [h11]
        exact hXR.mono hG
      · intro a w1 hG hin
        have h66 : IsRow xs (a.eval (.tmp 66)) w1 := slot_in (hin 66 (by decide)) rfl
        clear hin
        exact .inl ⟨wanted_none rfl, grow_convert rfl Try.underlying22 Try.underlying5 Try.underlying9 h66 rfl⟩
      · intro a w1 hG hin
        have h8 : a.eval (.tmp 8) = .slice q (ms.length + 4) e := slot_out (hin 8 (by decide)) rfl
        clear hin
        refine .inl ⟨wanted_none rfl, ?_⟩
        refine grow_move rfl ?_
        rw [h8]
        exact hPR.mono hG
      · intro a w1 hG hin
        have h68 : IsRow (put ms) (a.eval (.tmp 68)) w1 := slot_in (hin 68 (by decide)) rfl
        clear hin
        exact .inl ⟨wanted_none rfl, grow_convert rfl Try.underlying22 Try.underlying5 Try.underlying9 h68 rfl⟩
      · intro a w1 hG hin
        have h67 : a.eval (.tmp 67) = .string (str xs) := slot_in (hin 67 (by decide)) rfl
        have h69 : a.eval (.tmp 69) = .string (str (put ms)) := slot_in (hin 69 (by decide)) rfl
        clear hin
        refine .inl ⟨wanted_none rfl, ?_⟩
        exact grow_eqstr rfl hxb hPn h67 h69 rfl
      · intro s wz hG hin hs
        have f6 : s 6 = .bool false := (hs 6 (by decide)).symm.trans (slot_out (hin 6) rfl)
        have f7 : s 7 = .bool true := (hs 7 (by decide)).symm.trans (slot_out (hin 7) rfl)
        have f8 : s 8 = .slice q (ms.length + 4) e := (hs 8 (by decide)).symm.trans (slot_out (hin 8) rfl)
        have f11 : s 11 = .slice (some ⟨g, 0, none⟩) (ms.length + 4) cap := (hs 11 (by decide)).symm.trans (slot_out (hin 11) rfl)
        have f70 : s 70 = .bool (decide (xs = put ms)) := (hs 70 (by decide)).symm.trans (slot_in (hin 70) rfl)
        clear hin hs
        rw [show List.range 82 = [0, 1, 2, 3, 4, 5, 6, 7, 8, 9, 10, 11, 12, 13, 14, 15, 16, 17, 18, 19, 20, 21, 22, 23, 24, 25, 26, 27, 28, 29, 30, 31, 32, 33, 34, 35, 36, 37, 38, 39, 40, 41, 42, 43, 44, 45, 46, 47, 48, 49, 50, 51, 52, 53, 54, 55, 56, 57, 58, 59, 60, 61, 62, 63, 64, 65, 66, 67, 68, 69, 70, 71, 72, 73, 74, 75, 76, 77, 78, 79, 80, 81] from rfl]
        simp only [List.map_cons, List.map_nil]
        rw [f6, f7, f8, f11, f70]
        have hGw : G w _ := hg12.trans (hgr.trans hG)
        clear f6 f7 f8 f11 f70 hXR hPR
        cases hD : decide (xs = put ms) with
        | true =>
          go_wp2_with fail
          go_ret
          exact ⟨rfl, hGw⟩
        | false =>
          have hne : ¬ xs = put ms := of_decide_eq_false hD
          have hok := burst_seen hb hxb HXL.out hW (by omega) HV.out hne
          have HOK := hid hok
          clear hok hne
          go_wp2_with fail
          refine (take_say (H1.out.mono hG) (by rw [HXL.out]; omega)).mono ?_
          rintro e9 w9 ⟨_, rfl, hg9, x9, rfl, _⟩
          rw [HOK.out]
          go_wp2_with fail
          go_ret
          exact ⟨rfl, hGw.trans hg9⟩
end Go.Proofs.Ytoodfngcfdhnfaa
