/-
  The walk over CrcLinear: it returns true, and writes nothing that was there. No conditions.
-/
import Derived.Test.YtoodfngcfdhnfaaSay2
import Derived.Deep.Cut
namespace Go.Proofs.Ytoodfngcfdhnfaa
open Go.RowKit Go.Proofs.Ytoodfngcfdhnfaa.Crc

theorem zip_succ (xs ys : List Nat) (N k : Nat) (hx : N ≤ xs.length) (hy : N ≤ ys.length) (hk : k < N) :
    (zipX (xs.take N) (ys.take N)).take (k + 1) = (zipX (xs.take N) (ys.take N)).take k ++ [xs.getD k 0 ^^^ ys.getD k 0] := by
  have hl : k < (zipX (xs.take N) (ys.take N)).length := by simp [zipX]; omega
  rw [List.take_succ_eq_append_getElem hl]
  congr 2
  have h1 : k < xs.length := by omega
  have h2 : k < ys.length := by omega
  simp [zipX, List.getD, h1, h2]
theorem getD_lt {ns : List Nat} (h : Bytes ns) {k : Nat} (hk : k < ns.length) : ns.getD k 0 < 256 := by
  rw [List.getD_eq_getElem?_getD, List.getElem?_eq_getElem hk]; exact h _ (List.getElem_mem hk)

set_option maxRecDepth 100000 in
set_option maxHeartbeats 2000000 in
theorem linear_any (u v0 : Value) (xs ys : List Nat) (w : World) (hu : IsRow xs u w) (hv : IsRow ys v0 w) :
    Calls Try.prog 3 #[u, v0] w fun e w' => e = .returned (.bool true) ∧ G w w' := by
  obtain ⟨p, c, rfl, hc, hr⟩ := hu
  obtain ⟨q, d, rfl, hd, hr2⟩ := hv
  have HR0 := hid hr; have HR20 := hid hr2; clear hr hr2
  go_enter Try.func3, Try.ntmps3
  go_wp2_with fail
  refine (shown_any _).mono ?_
  rintro e w1 ⟨rfl, hg1⟩
  go_wp2_with fail
  refine (short_say (ns := xs) ⟨p, c, rfl, hc, HR0.out.mono hg1⟩).mono ?_
  rintro e w1' ⟨p3, c3, rfl, hc3, _, rfl⟩
  go_wp2_with fail
  refine (short_say (ns := ys) ⟨q, d, rfl, hd, HR20.out.mono hg1⟩).mono ?_
  rintro e w1' ⟨p4, c4, rfl, hc4, _, rfl⟩
  have hN : ∃ N : Nat, N = min (xs.take 2000).length (ys.take 2000).length := ⟨_, rfl⟩
  obtain ⟨N, hN⟩ := hN
  have hNx : N ≤ xs.length := by rw [hN, List.length_take, List.length_take]; omega
  have hNy : N ≤ ys.length := by rw [hN, List.length_take, List.length_take]; omega
  have hN2 : N ≤ 2000 := by rw [hN, List.length_take, List.length_take]; omega
  have HR := hid (HR0.out.mono hg1); have HR2 := hid (HR20.out.mono hg1); clear HR0 HR20
  have hcl := HR.out.le
  have hdl := HR2.out.le
  have HN := hid hN; clear hN
  go_upto_region 4 with (fail)
  have he : (if min 2000 ys.length < min 2000 xs.length then ((min 2000 ys.length : Nat) : Int) else ((min 2000 xs.length : Nat) : Int)) = (N : Int) := by
    rw [HN.out, List.length_take, List.length_take]
    split <;> omega
  rw [he]
  clear he HN
  have hlin := Crc.linear (xs.take N) (ys.take N) (by rw [List.length_take, List.length_take]; omega)
  rw [show (xs.take N).length = N by rw [List.length_take]; omega] at hlin
  have hzl : (zipX (xs.take N) (ys.take N)).length = N := by rw [zip_length _ _ (by rw [List.length_take, List.length_take]; omega), List.length_take]; omega
  have hzb : Bytes (zipX (xs.take N) (ys.take N)) := by
    intro z hz
    unfold zipX at hz
    obtain ⟨i, hi, rfl⟩ := List.getElem_of_mem hz
    rw [List.getElem_zipWith]
    exact Nat.xor_lt_two_pow (n := 8) (bytes_take HR.out.bytes N _ (List.getElem_mem _)) (bytes_take HR2.out.bytes N _ (List.getElem_mem _))
  have HZB := hid hzb; have HL := hid hlin; have HZL := hid hzl
  clear hzb hlin hzl
  go_wp2_with fail
  have hg1a : G w1 (w1.alloc (.cells #[] 5)) := (G.refl w1).alloc _
  go_loopw [7, 8] (fun v i wr => ∃ k : Nat, k ≤ N ∧ i = .int .i64 k ∧ Owns w1.heap.size wr v ((zipX (xs.take N) (ys.take N)).take k) ∧ G w1 wr) (fun _ i _ => N - (intOf i).toNat)
  case atStart => exact ⟨0, by omega, rfl, World.ownsRow_made w1 #[] 0 (Nat.le_refl _) (Nat.zero_le _) rfl, hg1a⟩
  case round =>
    clear hg1a
    obtain ⟨k, hk, rfl, hown, hgr⟩ := hrel
    obtain ⟨v, hv7⟩ : ∃ v, v = u7 := ⟨_, rfl⟩
    rw [← hv7] at hown ⊢
    clear hv7
    by_cases hlt : k < N
    · obtain ⟨b, o, rfl, hcx0⟩ := HR.out.lies (by omega)
      obtain ⟨b2, o2, rfl, hcy0⟩ := HR2.out.lies (by omega)
      have hcx := hgr.cell (hcx0 k (by omega))
      have hcy := hgr.cell (hcy0 k (by omega))
      have hx : xs.getD k 0 < 256 := getD_lt HR.out.bytes (by omega)
      have hy : ys.getD k 0 < 256 := getD_lt HR2.out.bytes (by omega)
      have hs := zip_succ xs ys N k hNx hNy hlt
      have hlenk : ((zipX (xs.take N) (ys.take N)).take k).length = k := by rw [List.length_take, HZL.out]; omega
      clear hcx0 hcy0
      generalize xs.getD k 0 = x at *
      generalize ys.getD k 0 = y at *
      have hxy : x ^^^ y < 256 := Nat.xor_lt_two_pow (n := 8) hx hy
      have HS := hid hs; have HLK := hid hlenk; have HO := hid hown
      clear hs hlenk hown
      go_upto_region 7 with (fail)
      refine wp_region_tail (says [Say.is (v), Say.is (.slice (some ⟨b, o, none⟩) xs.length c), Say.is (.int .i64 (k : Int)), Say.is (.pointer (some ⟨b, o + k, none⟩)), Say.is (.int .u8 (x : Int)), Say.is (.slice (some ⟨b2, o2, none⟩) ys.length d), Say.is (.int .i64 (k : Int)), Say.is (.pointer (some ⟨b2, o2 + k, none⟩)), Say.is (.int .u8 (y : Int)), Say.is (.int .u8 ((x ^^^ y : Nat) : Int)), Say.row [x ^^^ y]]) 11 54 (by kernel_rfl) (by kernel_rfl) rfl (says_mono _) (allSteps_take ⟨?_, ?_, ?_, ?_, ?_, ?_, ?_, ?_, ?_, ?_, ?_, trivial⟩) ?_
      · intro a w1 hG hin
        have h7 : a.eval (.tmp 7) = v := slot_out (hin 7 (by decide)) rfl
        clear hin
        exact .inl ⟨wanted_none rfl, grow_move rfl h7⟩
      · intro a w1 hG hin
        have h0 : a.eval (.tmp 0) = .slice (some ⟨b, o, none⟩) xs.length c := slot_out (hin 0 (by decide)) rfl
        clear hin
        exact .inl ⟨wanted_none rfl, grow_move rfl h0⟩
      · intro a w1 hG hin
        have h8 : a.eval (.tmp 8) = .int .i64 (k : Int) := slot_out (hin 8 (by decide)) rfl
        clear hin
        exact .inl ⟨wanted_none rfl, grow_move rfl h8⟩
      · intro a w1 hG hin
        have h24 : a.eval (.tmp 24) = .slice (some ⟨b, o, none⟩) xs.length c := slot_in (hin 24 (by decide)) rfl
        have h25 : a.eval (.tmp 25) = .int .i64 (k : Int) := slot_in (hin 25 (by decide)) rfl
        clear hin
        refine .inl ⟨wanted_none rfl, ?_⟩
        exact grow_index rfl h24 h25 (by omega) rfl
      · intro a w1 hG hin
        have h26 : a.eval (.tmp 26) = .pointer (some ⟨b, o + k, none⟩) := slot_in (hin 26 (by decide)) rfl
        clear hin
        refine .inl ⟨wanted_none rfl, ?_⟩
        exact grow_load8 rfl h26 (hG.cell hcx) rfl
      · intro a w1 hG hin
        have h1 : a.eval (.tmp 1) = .slice (some ⟨b2, o2, none⟩) ys.length d := slot_out (hin 1 (by decide)) rfl
        clear hin
        exact .inl ⟨wanted_none rfl, grow_move rfl h1⟩
      · intro a w1 hG hin
        have h8 : a.eval (.tmp 8) = .int .i64 (k : Int) := slot_out (hin 8 (by decide)) rfl
        clear hin
        exact .inl ⟨wanted_none rfl, grow_move rfl h8⟩
      · intro a w1 hG hin
        have h28 : a.eval (.tmp 28) = .slice (some ⟨b2, o2, none⟩) ys.length d := slot_in (hin 28 (by decide)) rfl
        have h29 : a.eval (.tmp 29) = .int .i64 (k : Int) := slot_in (hin 29 (by decide)) rfl
        clear hin
        refine .inl ⟨wanted_none rfl, ?_⟩
        exact grow_index rfl h28 h29 (by omega) rfl
      · intro a w1 hG hin
        have h30 : a.eval (.tmp 30) = .pointer (some ⟨b2, o2 + k, none⟩) := slot_in (hin 30 (by decide)) rfl
        clear hin
        refine .inl ⟨wanted_none rfl, ?_⟩
        exact grow_load8 rfl h30 (hG.cell hcy) rfl
      · intro a w1 hG hin
        have h27 : a.eval (.tmp 27) = .int .u8 (x : Int) := slot_in (hin 27 (by decide)) rfl
        have h31 : a.eval (.tmp 31) = .int .u8 (y : Int) := slot_in (hin 31 (by decide)) rfl
        clear hin
        refine .inl ⟨wanted_none rfl, ?_⟩
        exact grow_xoru8 rfl h27 h31 hx hy rfl
      · intro a w1 hG hin
        have h32 : a.eval (.tmp 32) = .int .u8 ((x ^^^ y : Nat) : Int) := slot_in (hin 32 (by decide)) rfl
        clear hin
        refine .inl ⟨wanted_none rfl, ?_⟩
        exact grow_made_one rfl h32 hxy fun _ _ h => h
      · intro s w2 hG hin hs
        have f0 : s 0 = .slice (some ⟨b, o, none⟩) xs.length c := (hs 0 (by decide)).symm.trans (slot_out (hin 0) rfl)
        have f1 : s 1 = .slice (some ⟨b2, o2, none⟩) ys.length d := (hs 1 (by decide)).symm.trans (slot_out (hin 1) rfl)
        have f2 : s 2 = undef := (hs 2 (by decide)).symm.trans (slot_out (hin 2) rfl)
        have f3 : s 3 = undef := (hs 3 (by decide)).symm.trans (slot_out (hin 3) rfl)
        have f4 : s 4 = .bool false := (hs 4 (by decide)).symm.trans (slot_out (hin 4) rfl)
        have f5 : s 5 = .bool true := (hs 5 (by decide)).symm.trans (slot_out (hin 5) rfl)
        have f6 : s 6 = .int .i64 (N : Int) := (hs 6 (by decide)).symm.trans (slot_out (hin 6) rfl)
        have f8 : s 8 = .int .i64 (k : Int) := (hs 8 (by decide)).symm.trans (slot_out (hin 8) rfl)
        have f9 : s 9 = .bool true := (hs 9 (by decide)).symm.trans (slot_out (hin 9) rfl)
        have f10 : s 10 = .slice (some ⟨b, o, none⟩) xs.length c := (hs 10 (by decide)).symm.trans (slot_out (hin 10) rfl)
        have f11 : s 11 = .slice p3 (min 2000 xs.length) c3 := (hs 11 (by decide)).symm.trans (slot_out (hin 11) rfl)
        have f12 : s 12 = .int .i64 ((min 2000 xs.length : Nat) : Int) := (hs 12 (by decide)).symm.trans (slot_out (hin 12) rfl)
        have f13 : s 13 = .slice (some ⟨b2, o2, none⟩) ys.length d := (hs 13 (by decide)).symm.trans (slot_out (hin 13) rfl)
        have f14 : s 14 = .slice p4 (min 2000 ys.length) c4 := (hs 14 (by decide)).symm.trans (slot_out (hin 14) rfl)
        have f15 : s 15 = .int .i64 ((min 2000 ys.length : Nat) : Int) := (hs 15 (by decide)).symm.trans (slot_out (hin 15) rfl)
        have f16 : s 16 = .int .i64 (N : Int) := (hs 16 (by decide)).symm.trans (slot_out (hin 16) rfl)
        have f17 : s 17 = .slice (some ⟨w1.heap.size, 0, none⟩) 0 0 := (hs 17 (by decide)).symm.trans (slot_out (hin 17) rfl)
        have f35 : s 35 = undef := (hs 35 (by decide)).symm.trans (slot_out (hin 35) rfl)
        have f36 : s 36 = undef := (hs 36 (by decide)).symm.trans (slot_out (hin 36) rfl)
        have f37 : s 37 = undef := (hs 37 (by decide)).symm.trans (slot_out (hin 37) rfl)
        have f38 : s 38 = undef := (hs 38 (by decide)).symm.trans (slot_out (hin 38) rfl)
        have f39 : s 39 = undef := (hs 39 (by decide)).symm.trans (slot_out (hin 39) rfl)
        have f40 : s 40 = undef := (hs 40 (by decide)).symm.trans (slot_out (hin 40) rfl)
        have f41 : s 41 = undef := (hs 41 (by decide)).symm.trans (slot_out (hin 41) rfl)
        have f42 : s 42 = undef := (hs 42 (by decide)).symm.trans (slot_out (hin 42) rfl)
        have f43 : s 43 = undef := (hs 43 (by decide)).symm.trans (slot_out (hin 43) rfl)
        have f44 : s 44 = undef := (hs 44 (by decide)).symm.trans (slot_out (hin 44) rfl)
        have f45 : s 45 = undef := (hs 45 (by decide)).symm.trans (slot_out (hin 45) rfl)
        have f46 : s 46 = undef := (hs 46 (by decide)).symm.trans (slot_out (hin 46) rfl)
        have f47 : s 47 = undef := (hs 47 (by decide)).symm.trans (slot_out (hin 47) rfl)
        have f48 : s 48 = undef := (hs 48 (by decide)).symm.trans (slot_out (hin 48) rfl)
        have f49 : s 49 = undef := (hs 49 (by decide)).symm.trans (slot_out (hin 49) rfl)
        have f50 : s 50 = undef := (hs 50 (by decide)).symm.trans (slot_out (hin 50) rfl)
        have f51 : s 51 = undef := (hs 51 (by decide)).symm.trans (slot_out (hin 51) rfl)
        have f52 : s 52 = undef := (hs 52 (by decide)).symm.trans (slot_out (hin 52) rfl)
        have f53 : s 53 = undef := (hs 53 (by decide)).symm.trans (slot_out (hin 53) rfl)
        have f23 : s 23 = v := (hs 23 (by decide)).symm.trans (slot_in (hin 23) rfl)
        have f33 : IsRow [x ^^^ y] (s 33) w2 := by have h := slot_in (hin 33) rfl; rw [hs 33 (by decide)] at h; exact h
        clear hin hs
        rw [show List.range 54 = [0, 1, 2, 3, 4, 5, 6, 7, 8, 9, 10, 11, 12, 13, 14, 15, 16, 17, 18, 19, 20, 21, 22, 23, 24, 25, 26, 27, 28, 29, 30, 31, 32, 33, 34, 35, 36, 37, 38, 39, 40, 41, 42, 43, 44, 45, 46, 47, 48, 49, 50, 51, 52, 53] from rfl]
        simp only [List.map_cons, List.map_nil]
        rw [f0, f1, f2, f3, f4, f5, f6, f8, f9, f10, f11, f12, f13, f14, f15, f16, f17, f35, f36, f37, f38, f39, f40, f41, f42, f43, f44, f45, f46, f47, f48, f49, f50, f51, f52, f53, f23]
        obtain ⟨pn, cn, e33, hcn, hrn⟩ := f33
        rw [e33]
        clear f0 f1 f2 f3 f4 f5 f6 f8 f9 f10 f11 f12 f13 f14 f15 f16 f17 f23 f35 f36 f37 f38 f39 f40 f41 f42 f43 f44 f45 f46 f47 f48 f49 f50 f51 f52 f53 e33
        have HRN := hid hrn; clear hrn
        simp only [List.drop_succ_cons, List.drop_zero]
        go_wp2_with (at_builtin; refine wpList_append_row rfl (.tmp 23) (.tmp 33) rfl w1.heap.size _ ((zipX (xs.take N) (ys.take N)).take k) rfl (HO.out.mono hG) pn _ cn [x ^^^ y] rfl rfl HRN.out (by rw [HLK.out]; simp; omega) ?qs ?_)
        case qs => have h1 := hgr.size; have h2 := hG.size; omega
        intro v9 w9 hown9 hbel9
        rw [← HS.out] at hown9
        have hg9 : G w1 w9 := (hgr.trans hG).trans' hbel9 (Nat.le_refl _)
        clear hbel9
        go_wp2_with fail
        go_roundw
        case rel => exact ⟨k + 1, by omega, by go_num, hown9, hg9⟩
        case measure => simp [intOf]; omega
    · obtain rfl : N = k := by omega
      have hlin := HL.out; have hzl := HZL.out
      have hZ : IsRow (zipX (xs.take N) (ys.take N)) v wr := by
        have h := owns_isRow (fun b hb => HZB.out b (List.mem_of_mem_take hb)) hown
        rw [List.take_of_length_le (by omega)] at h
        exact h
      have HLI := hid hlin; have HZ2 := hid hzl; have HZ3 := hid hZ
      clear hlin hzl hZ hown
      go_wp2_with fail
      have hlin := HLI.out; have hzl := HZ2.out; have hZ := HZ3.out
      clear HLI HZ2 HZ3
      refine wp_region_grows (says [Say.is (.bool true), Say.is (.bool true), Say.is (.slice p xs.length c), Say.is (.int .i64 (N : Int)), Say.row (xs.take N), Say.is (.int .u32 ((go 0 (xs.take N) : Nat) : Int)), Say.is (.slice q ys.length d), Say.is (.int .i64 (N : Int)), Say.row (ys.take N), Say.is (.int .u32 ((go 0 (ys.take N) : Nat) : Int)), Say.is (.int .u32 ((go 0 (xs.take N) ^^^ go 0 (ys.take N) : Nat) : Int)), Say.row (zipX (xs.take N) (ys.take N)), Say.is (.int .u32 ((go 0 (zipX (xs.take N) (ys.take N)) : Nat) : Int)), Say.is (.int .u32 ((go 0 (xs.take N) ^^^ go 0 (ys.take N) ^^^ go 0 (zipX (xs.take N) (ys.take N)) : Nat) : Int)), Say.is (.int .i64 (N : Int)), Say.row (List.replicate N 0), Say.is (.int .u32 ((go 0 (List.replicate N 0) : Nat) : Int)), Say.is (.bool true), Say.is (.bool true), Say.is (.bool true)]) 54 (by kernel_rfl) (by kernel_rfl) rfl (says_mono _) (allSteps_take ⟨?_, ?_, ?_, ?_, ?_, ?_, ?_, ?_, ?_, ?_, ?_, ?_, ?_, ?_, ?_, ?_, ?_, ?_, ?_, ?_, trivial⟩) ?_
      · intro a w1 hG hin
        have h5 : a.eval (.tmp 5) = .bool true := slot_out (hin 5 (by decide)) rfl
        clear hin
        exact .inl ⟨wanted_none rfl, grow_move rfl h5⟩
      · intro a w1 hG hin
        have h35 : a.eval (.tmp 35) = .bool true := slot_in (hin 35 (by decide)) rfl
        clear hin
        exact .inl ⟨wanted_none rfl, grow_move rfl h35⟩
      · intro a w1 hG hin
        have h0 : a.eval (.tmp 0) = .slice p xs.length c := slot_out (hin 0 (by decide)) rfl
        have h36 : a.eval (.tmp 36) = .bool true := slot_in (hin 36 (by decide)) rfl
        clear hin
        exact .inl ⟨wanted_yes rfl rfl h36, grow_move rfl h0⟩
      · intro a w1 hG hin
        have h6 : a.eval (.tmp 6) = .int .i64 (N : Int) := slot_out (hin 6 (by decide)) rfl
        have h36 : a.eval (.tmp 36) = .bool true := slot_in (hin 36 (by decide)) rfl
        clear hin
        exact .inl ⟨wanted_yes rfl rfl h36, grow_move rfl h6⟩
      · intro a w1 hG hin
        have h37 : a.eval (.tmp 37) = .slice p xs.length c := slot_in (hin 37 (by decide)) rfl
        have h38 : a.eval (.tmp 38) = .int .i64 (N : Int) := slot_in (hin 38 (by decide)) rfl
        have h36 : a.eval (.tmp 36) = .bool true := slot_in (hin 36 (by decide)) rfl
        clear hin
        refine .inl ⟨wanted_yes rfl rfl h36, ?_⟩
        refine grow_slice_to (k := N) (ns := xs) rfl h37 h38 (by omega) ?_
        exact ⟨p, c, by rw [List.length_take]; congr <;> omega, hc, ((HR.out.mono hgr).mono hG).take _⟩
      · intro a w1 hG hin
        have h39 : IsRow (xs.take N) (a.eval (.tmp 39)) w1 := slot_in (hin 39 (by decide)) rfl
        have h36 : a.eval (.tmp 36) = .bool true := slot_in (hin 36 (by decide)) rfl
        clear hin
        exact .inl ⟨wanted_yes rfl rfl h36, grow_call Try.call10 #[a.eval (.tmp 39)] (by simp only [List.map_toArray, List.map_cons, List.map_nil]) (of_say h39 (by rw [List.length_take]; omega))⟩
      · intro a w1 hG hin
        have h1 : a.eval (.tmp 1) = .slice q ys.length d := slot_out (hin 1 (by decide)) rfl
        have h36 : a.eval (.tmp 36) = .bool true := slot_in (hin 36 (by decide)) rfl
        clear hin
        exact .inl ⟨wanted_yes rfl rfl h36, grow_move rfl h1⟩
      · intro a w1 hG hin
        have h6 : a.eval (.tmp 6) = .int .i64 (N : Int) := slot_out (hin 6 (by decide)) rfl
        have h36 : a.eval (.tmp 36) = .bool true := slot_in (hin 36 (by decide)) rfl
        clear hin
        exact .inl ⟨wanted_yes rfl rfl h36, grow_move rfl h6⟩
      · intro a w1 hG hin
        have h41 : a.eval (.tmp 41) = .slice q ys.length d := slot_in (hin 41 (by decide)) rfl
        have h42 : a.eval (.tmp 42) = .int .i64 (N : Int) := slot_in (hin 42 (by decide)) rfl
        have h36 : a.eval (.tmp 36) = .bool true := slot_in (hin 36 (by decide)) rfl
        clear hin
        refine .inl ⟨wanted_yes rfl rfl h36, ?_⟩
        refine grow_slice_to (k := N) (ns := ys) rfl h41 h42 (by omega) ?_
        exact ⟨q, d, by rw [List.length_take]; congr <;> omega, hd, ((HR2.out.mono hgr).mono hG).take _⟩
      · intro a w1 hG hin
        have h43 : IsRow (ys.take N) (a.eval (.tmp 43)) w1 := slot_in (hin 43 (by decide)) rfl
        have h36 : a.eval (.tmp 36) = .bool true := slot_in (hin 36 (by decide)) rfl
        clear hin
        exact .inl ⟨wanted_yes rfl rfl h36, grow_call Try.call10 #[a.eval (.tmp 43)] (by simp only [List.map_toArray, List.map_cons, List.map_nil]) (of_say h43 (by rw [List.length_take]; omega))⟩
      · intro a w1 hG hin
        have h40 : a.eval (.tmp 40) = .int .u32 ((go 0 (xs.take N) : Nat) : Int) := slot_in (hin 40 (by decide)) rfl
        have h44 : a.eval (.tmp 44) = .int .u32 ((go 0 (ys.take N) : Nat) : Int) := slot_in (hin 44 (by decide)) rfl
        have h36 : a.eval (.tmp 36) = .bool true := slot_in (hin 36 (by decide)) rfl
        clear hin
        refine .inl ⟨wanted_yes rfl rfl h36, ?_⟩
        exact grow_xoru32 rfl h40 h44 (go_lt (by decide) (bytes_take HR.out.bytes _)) (go_lt (by decide) (bytes_take HR2.out.bytes _)) rfl
      · intro a w1 hG hin
        have h7 : a.eval (.tmp 7) = v := slot_out (hin 7 (by decide)) rfl
        have h36 : a.eval (.tmp 36) = .bool true := slot_in (hin 36 (by decide)) rfl
        clear hin
        refine .inl ⟨wanted_yes rfl rfl h36, ?_⟩
        refine grow_move rfl ?_
        rw [h7]
        exact hZ.mono hG
      · intro a w1 hG hin
        have h46 : IsRow (zipX (xs.take N) (ys.take N)) (a.eval (.tmp 46)) w1 := slot_in (hin 46 (by decide)) rfl
        have h36 : a.eval (.tmp 36) = .bool true := slot_in (hin 36 (by decide)) rfl
        clear hin
        exact .inl ⟨wanted_yes rfl rfl h36, grow_call Try.call10 #[a.eval (.tmp 46)] (by simp only [List.map_toArray, List.map_cons, List.map_nil]) (of_say h46 (by rw [hzl]; omega))⟩
      · intro a w1 hG hin
        have h45 : a.eval (.tmp 45) = .int .u32 ((go 0 (xs.take N) ^^^ go 0 (ys.take N) : Nat) : Int) := slot_in (hin 45 (by decide)) rfl
        have h47 : a.eval (.tmp 47) = .int .u32 ((go 0 (zipX (xs.take N) (ys.take N)) : Nat) : Int) := slot_in (hin 47 (by decide)) rfl
        have h36 : a.eval (.tmp 36) = .bool true := slot_in (hin 36 (by decide)) rfl
        clear hin
        refine .inl ⟨wanted_yes rfl rfl h36, ?_⟩
        exact grow_xoru32 rfl h45 h47 (xor_lt (go_lt (by decide) (bytes_take HR.out.bytes _)) (go_lt (by decide) (bytes_take HR2.out.bytes _))) (go_lt (by decide) hZ.bytes) rfl
      · intro a w1 hG hin
        have h6 : a.eval (.tmp 6) = .int .i64 (N : Int) := slot_out (hin 6 (by decide)) rfl
        have h36 : a.eval (.tmp 36) = .bool true := slot_in (hin 36 (by decide)) rfl
        clear hin
        exact .inl ⟨wanted_yes rfl rfl h36, grow_move rfl h6⟩
      · intro a w1 hG hin
        have h49 : a.eval (.tmp 49) = .int .i64 (N : Int) := slot_in (hin 49 (by decide)) rfl
        have h36 : a.eval (.tmp 36) = .bool true := slot_in (hin 36 (by decide)) rfl
        clear hin
        refine .inl ⟨wanted_yes rfl rfl h36, ?_⟩
        exact grow_made_zeros rfl h49 h49 (by omega) fun _ _ h => h
      · intro a w1 hG hin
        have h50 : IsRow (List.replicate N 0) (a.eval (.tmp 50)) w1 := slot_in (hin 50 (by decide)) rfl
        have h36 : a.eval (.tmp 36) = .bool true := slot_in (hin 36 (by decide)) rfl
        clear hin
        exact .inl ⟨wanted_yes rfl rfl h36, grow_call Try.call10 #[a.eval (.tmp 50)] (by simp only [List.map_toArray, List.map_cons, List.map_nil]) (of_say h50 (by rw [List.length_replicate]; omega))⟩
      · intro a w1 hG hin
        have h48 : a.eval (.tmp 48) = .int .u32 ((go 0 (xs.take N) ^^^ go 0 (ys.take N) ^^^ go 0 (zipX (xs.take N) (ys.take N)) : Nat) : Int) := slot_in (hin 48 (by decide)) rfl
        have h51 : a.eval (.tmp 51) = .int .u32 ((go 0 (List.replicate N 0) : Nat) : Int) := slot_in (hin 51 (by decide)) rfl
        have h36 : a.eval (.tmp 36) = .bool true := slot_in (hin 36 (by decide)) rfl
        clear hin
        refine .inl ⟨wanted_yes rfl rfl h36, ?_⟩
        exact grow_equ32 rfl Try.underlying25 h48 h51 (by rw [hlin, decide_eq_true rfl]; rfl)
      · intro a w1 hG hin
        have h36 : a.eval (.tmp 36) = .bool true := slot_in (hin 36 (by decide)) rfl
        have h52 : a.eval (.tmp 52) = .bool true := slot_in (hin 52 (by decide)) rfl
        clear hin
        exact .inl ⟨wanted_none rfl, grow_pick rfl h36 h52⟩
      · intro a w1 hG hin
        have h53 : a.eval (.tmp 53) = .bool true := slot_in (hin 53 (by decide)) rfl
        clear hin
        exact .inl ⟨wanted_none rfl, grow_assign rfl h53⟩
      · intro s w2 hG hin hs
        have f4 : s 4 = .bool true := (hs 4 (by decide)).symm.trans (slot_in (hin 4) rfl)
        clear hin hs
        rw [show List.range 54 = [0, 1, 2, 3, 4, 5, 6, 7, 8, 9, 10, 11, 12, 13, 14, 15, 16, 17, 18, 19, 20, 21, 22, 23, 24, 25, 26, 27, 28, 29, 30, 31, 32, 33, 34, 35, 36, 37, 38, 39, 40, 41, 42, 43, 44, 45, 46, 47, 48, 49, 50, 51, 52, 53] from rfl]
        simp only [List.map_cons, List.map_nil]
        rw [f4]
        go_wp2_with fail
        go_ret
        exact ⟨rfl, hg1.trans (hgr.trans hG)⟩
end Go.Proofs.Ytoodfngcfdhnfaa
