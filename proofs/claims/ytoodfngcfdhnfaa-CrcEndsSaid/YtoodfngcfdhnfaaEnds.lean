/-
  The walk over CrcEnds: it returns true, and writes nothing that was there. No conditions.
-/
import Derived.Test.YtoodfngcfdhnfaaSay2
import Derived.Deep.Cut
namespace Go.Proofs.Ytoodfngcfdhnfaa
open Go.RowKit Go.Proofs.Ytoodfngcfdhnfaa.Crc

theorem row_one (w : World) (k : Nat) (hk : k < 256) : RowAt (w.alloc (.cells #[.int .u8 (k : Int)] 5)) (some ⟨w.heap.size, 0, none⟩) 1 [k] := by
  refine ⟨by simp, ?_, (fun h => by cases h), fun _ => ⟨_, _, rfl, fun i hi => ?_⟩⟩
  · intro v hv
    simp only [List.mem_cons, List.mem_nil_iff, or_false] at hv
    omega
  · rw [Nat.zero_add, World.cell?_alloc_new]
    simp only [List.length_cons, List.length_nil] at hi
    obtain rfl : i = 0 := by omega
    rfl
theorem ok_three (ms : List Nat) : okB ((put ms).take 3) = false := by
  unfold okB
  have : ((put ms).take 3).length ≤ 3 := List.length_take_le _ _
  rw [decide_eq_false (by omega)]
  rfl
theorem ok_ahead {ms : List Nat} (h : Bytes ms) : okB ([0] ++ put ms) = false := by
  have h0 : [0] ++ put ms = (0 :: ms) ++ le4 (go 0 ms) := by simp [put]
  have hl : ([0] ++ put ms).length - 4 = (0 :: ms).length := by simp [put_length]
  unfold okB
  rw [hl, h0, List.take_left, List.drop_left]
  have : ¬ le4 (go 0 (0 :: ms)) = le4 (go 0 ms) := fun e => Crc.ahead h (le4_inj (go_lt (by decide) (fun b hb => by
    rcases List.mem_cons.1 hb with h1 | h1
    · omega
    · exact h b h1)) (go_lt (by decide) h) e)
  rw [decide_eq_false this]
  simp
theorem taken_more {ms : List Nat} {k : Nat} (h : okB (put ms ++ [k]) = true) : taken (put ms ++ [k]) = (put ms).take (ms.length + 1) := by
  unfold taken
  rw [if_pos h, List.length_append, put_length, show ms.length + 4 + [k].length - 4 = ms.length + 1 by simp]
  exact List.take_append_of_le_length (by rw [put_length]; omega)

set_option maxRecDepth 100000 in
set_option maxHeartbeats 2000000 in
theorem ends_any (v : Value) (ns : List Nat) (k : Nat) (w : World) (hv : IsRow ns v w) (hk : k < 256) :
    Calls Try.prog 7 #[v, .int .u8 k] w fun e w' => e = .returned (.bool true) ∧ G w w' := by
  go_enter Try.func7, Try.ntmps7
  go_wp2_with fail
  refine (shown_any _).mono ?_
  rintro e w1 ⟨rfl, hg1⟩
  go_wp2_with fail
  refine (short_say (hv.mono hg1)).mono ?_
  rintro e w1' ⟨p, c, rfl, hc, hr, rfl⟩
  have hl := short_len ns
  generalize ns.take 2000 = ms at *
  have hb := hr.bytes
  have HR := hid hr; clear hr
  go_wp2_with fail
  refine (put_say (ns := ms) ⟨p, c, rfl, hc, HR.out⟩ (by omega)).mono ?_
  rintro e w2 ⟨_, rfl, hg2, q, e, rfl, hce, hP0⟩
  have hPb := hP0.bytes
  have hle := hP0.le
  rw [put_length] at *
  have HP := hid hP0; clear hP0
  have hg12 := hg1.trans hg2
  have hO0 : Owns w2.heap.size (w2.alloc (.cells #[] 5)) (.slice (some ⟨w2.heap.size, 0, none⟩) 0 0) [] := World.ownsRow_made w2 #[] 0 (Nat.le_refl _) (Nat.zero_le _) rfl
  have HO := hid hO0; clear hO0 hg1 hg2
  go_wp2_with (at_builtin; refine wpList_append_row rfl (.tmp 25) (.tmp 26) rfl w2.heap.size _ [] rfl HO.out q _ e (put ms) rfl (put_length ms) (HP.out.mono ((G.refl w2).alloc _)) (by rw [put_length]; simp; omega) (by simp) ?_)
  intro v1 w3 hown1 hbel1
  have hown1 : Owns w2.heap.size w3 v1 (put ms) := by simpa using hown1
  have hg3 : G w2 w3 := ((G.refl w2).alloc _).trans' hbel1 (Nat.le_refl _)
  have HO1 := hid hown1; have HG3 := hid hg3; clear hown1 hbel1 hg3
  go_wp2_with (at_builtin; refine wpList_append_row rfl (.tmp 27) (.tmp 29) rfl w2.heap.size _ (put ms) rfl (HO1.out.mono ((G.refl w3).alloc _)) _ 1 1 [k] rfl rfl (row_one w3 k hk) (by rw [put_length]; simp; omega) ?qs ?_)
  case qs => have := HG3.out.size; simp; omega
  intro v2 w4 hown2 hbel2
  have hg4 : G w2 w4 := (HG3.out.alloc _).trans' hbel2 (Nat.le_refl _)
  have hXb : Bytes (put ms ++ [k]) := bytes_append hPb (fun b hb' => by simp at hb'; omega)
  have hX0 : IsRow (put ms ++ [k]) v2 w4 := owns_isRow hXb hown2
  have HX0 := hid hX0; have HG4 := hid hg4
  clear hown2 hbel2 hX0 hg4 hown1 HO HO1 HG3
  go_wp2_with fail
  refine (take_say HX0.out (by rw [List.length_append, put_length]; simp; omega)).mono ?_
  rintro e1 w5 ⟨_, rfl, hg5, x, rfl, hX⟩
  have hP : IsRow (put ms) (.slice q (ms.length + 4) e) w5 := ⟨q, e, by rw [put_length], hce, (HP.out.mono HG4.out).mono hg5⟩
  have hP1 : RowAt w5 q e (put ms) := (HP.out.mono HG4.out).mono hg5
  have hG05 : G w w5 := hg12.trans (HG4.out.trans hg5)
  have hm := @taken_more ms k
  clear HP HX0 HG4 hg5 hg12
  cases hok : okB (put ms ++ [k]) with
  | true =>
    have hZ := hm hok
    go_wp2_with fail
    refine wp_region_grows (says [Say.is (.bool true), Say.is (.bool true), Say.row (taken (put ms ++ [k])), Say.is (.string (str (taken (put ms ++ [k])))), Say.is (.slice q (ms.length + 4) e), Say.is (.slice q (ms.length + 4) e), Say.is (.int .i64 ((ms.length : Int) + 4)), Say.is (.int .i64 ((ms.length : Int) + 1)), Say.row ((put ms).take (ms.length + 1)), Say.is (.string (str ((put ms).take (ms.length + 1)))), Say.is (.bool false), Say.is (.bool false)]) 71 (by kernel_rfl) (by kernel_rfl) rfl (says_mono _) (allSteps_take ⟨?_, ?_, ?_, ?_, ?_, ?_, ?_, ?_, ?_, ?_, ?_, ?_, trivial⟩) ?_
    · intro a w1 hG hin
      have h8 : a.eval (.tmp 8) = .bool true := slot_out (hin 8 (by decide)) rfl
      clear hin
      exact .inl ⟨wanted_none rfl, grow_move rfl h8⟩
    · intro a w1 hG hin
      have h34 : a.eval (.tmp 34) = .bool true := slot_in (hin 34 (by decide)) rfl
      clear hin
      exact .inl ⟨wanted_none rfl, grow_move rfl h34⟩
    · intro a w1 hG hin
      have h7 : a.eval (.tmp 7) = x := slot_out (hin 7 (by decide)) rfl
      have h35 : a.eval (.tmp 35) = .bool true := slot_in (hin 35 (by decide)) rfl
      clear hin
      refine .inl ⟨wanted_yes rfl rfl h35, ?_⟩
      refine grow_move rfl ?_
      rw [h7]
      exact hX.mono hG
    · intro a w1 hG hin
      have h36 : IsRow (taken (put ms ++ [k])) (a.eval (.tmp 36)) w1 := slot_in (hin 36 (by decide)) rfl
      have h35 : a.eval (.tmp 35) = .bool true := slot_in (hin 35 (by decide)) rfl
      clear hin
      exact .inl ⟨wanted_yes rfl rfl h35, grow_convert rfl Try.underlying22 Try.underlying5 Try.underlying9 h36 rfl⟩
    · intro a w1 hG hin
      have h6 : a.eval (.tmp 6) = .slice q (ms.length + 4) e := slot_out (hin 6 (by decide)) rfl
      have h35 : a.eval (.tmp 35) = .bool true := slot_in (hin 35 (by decide)) rfl
      clear hin
      exact .inl ⟨wanted_yes rfl rfl h35, grow_move rfl h6⟩
    · intro a w1 hG hin
      have h6 : a.eval (.tmp 6) = .slice q (ms.length + 4) e := slot_out (hin 6 (by decide)) rfl
      have h35 : a.eval (.tmp 35) = .bool true := slot_in (hin 35 (by decide)) rfl
      clear hin
      exact .inl ⟨wanted_yes rfl rfl h35, grow_move rfl h6⟩
    · intro a w1 hG hin
      have h39 : a.eval (.tmp 39) = .slice q (ms.length + 4) e := slot_in (hin 39 (by decide)) rfl
      have h35 : a.eval (.tmp 35) = .bool true := slot_in (hin 35 (by decide)) rfl
      clear hin
      refine .inl ⟨wanted_yes rfl rfl h35, ?_⟩
      exact grow_len h39 (by rw [show (((ms.length + 4 : Nat)) : Int) = (ms.length : Int) + 4 from by omega]; rfl)
    · intro a w1 hG hin
      have h40 : a.eval (.tmp 40) = .int .i64 ((ms.length : Int) + 4) := slot_in (hin 40 (by decide)) rfl
      have h35 : a.eval (.tmp 35) = .bool true := slot_in (hin 35 (by decide)) rfl
      clear hin
      refine .inl ⟨wanted_yes rfl rfl h35, ?_⟩
      refine grow_run ?_ rfl
      unfold execOp
      simp only [h40]
      simp [go_sem]
      exact (IntWalk.i64_in _ (by omega)).trans (by omega)
    · intro a w1 hG hin
      have h38 : a.eval (.tmp 38) = .slice q (ms.length + 4) e := slot_in (hin 38 (by decide)) rfl
      have h41 : a.eval (.tmp 41) = .int .i64 ((ms.length : Int) + 1) := slot_in (hin 41 (by decide)) rfl
      have h35 : a.eval (.tmp 35) = .bool true := slot_in (hin 35 (by decide)) rfl
      clear hin
      refine .inl ⟨wanted_yes rfl rfl h35, ?_⟩
      refine grow_run (v := .slice q (ms.length + 1) e) ?_ ?_
      · unfold execOp
        simp only [h38, h41, Option.map_some, Option.map_none]
        simp [go_sem]
        intro hh
        have := hh (by omega)
        omega
      · exact ⟨q, e, by rw [List.length_take, put_length]; congr; omega, hce, (hP1.mono hG).take _⟩
    · intro a w1 hG hin
      have h42 : IsRow ((put ms).take (ms.length + 1)) (a.eval (.tmp 42)) w1 := slot_in (hin 42 (by decide)) rfl
      have h35 : a.eval (.tmp 35) = .bool true := slot_in (hin 35 (by decide)) rfl
      clear hin
      exact .inl ⟨wanted_yes rfl rfl h35, grow_convert rfl Try.underlying22 Try.underlying5 Try.underlying9 h42 rfl⟩
    · intro a w1 hG hin
      have h37 : a.eval (.tmp 37) = .string (str (taken (put ms ++ [k]))) := slot_in (hin 37 (by decide)) rfl
      have h43 : a.eval (.tmp 43) = .string (str ((put ms).take (ms.length + 1))) := slot_in (hin 43 (by decide)) rfl
      have h35 : a.eval (.tmp 35) = .bool true := slot_in (hin 35 (by decide)) rfl
      clear hin
      refine .inl ⟨wanted_yes rfl rfl h35, ?_⟩
      exact grow_nestr rfl (taken_bytes hXb) (bytes_take hPb _) h37 h43 (by rw [hZ, decide_eq_true rfl]; rfl)
    · intro a w1 hG hin
      have h35 : a.eval (.tmp 35) = .bool true := slot_in (hin 35 (by decide)) rfl
      have h44 : a.eval (.tmp 44) = .bool false := slot_in (hin 44 (by decide)) rfl
      clear hin
      exact .inl ⟨wanted_none rfl, grow_pick rfl h35 h44⟩
    · intro s w2 hG hin hs
      have f4 : s 4 = .bool false := (hs 4 (by decide)).symm.trans (slot_out (hin 4) rfl)
      have f5 : s 5 = .bool true := (hs 5 (by decide)).symm.trans (slot_out (hin 5) rfl)
      have f6 : s 6 = .slice q (ms.length + 4) e := (hs 6 (by decide)).symm.trans (slot_out (hin 6) rfl)
      have f45 : s 45 = .bool false := (hs 45 (by decide)).symm.trans (slot_in (hin 45) rfl)
      clear hin hs
      rw [show List.range 71 = [0, 1, 2, 3, 4, 5, 6, 7, 8, 9, 10, 11, 12, 13, 14, 15, 16, 17, 18, 19, 20, 21, 22, 23, 24, 25, 26, 27, 28, 29, 30, 31, 32, 33, 34, 35, 36, 37, 38, 39, 40, 41, 42, 43, 44, 45, 46, 47, 48, 49, 50, 51, 52, 53, 54, 55, 56, 57, 58, 59, 60, 61, 62, 63, 64, 65, 66, 67, 68, 69, 70] from rfl]
      simp only [List.map_cons, List.map_nil]
      rw [f4, f5, f6, f45]
      go_wp2_with fail
      have hP2 : RowAt w2 q e (put ms) := hP1.mono hG
      have hT3 : IsRow ((put ms).take 3) (.slice q 3 e) w2 := ⟨q, e, by rw [List.length_take, put_length]; congr <;> omega, hce, hP2.take _⟩
      refine (take_say hT3 (by rw [List.length_take]; omega)).mono ?_
      rintro e2 w6 ⟨_, rfl, hg6, x2, rfl, _⟩
      rw [ok_three]
      have hP6 : RowAt w6 q e (put ms) := hP2.mono hg6
      have hO6 := owns_one w6 0 0 rfl
      have HO6 := hid hO6; have HP6 := hid hP6
      have hG06 : G w w6 := hG05.trans (hG.trans hg6)
      clear hO6 hP6 hP2 hT3 hg6 hG hG05 hP hP1 hX hm
      go_wp2_with (at_builtin; refine wpList_append_row rfl (.tmp 56) (.tmp 57) rfl w6.heap.size _ [0] rfl HO6.out q _ e (put ms) rfl (put_length ms) (HP6.out.mono ((G.refl w6).alloc _)) (by rw [put_length]; simp; omega) (by simp) ?_)
      intro v7 w7 hown7 hbel7
      have hV7 : IsRow ([0] ++ put ms) v7 w7 := owns_isRow (bytes_append (fun b hb' => by simp at hb'; omega) hPb) hown7
      have HV7 := hid hV7
      have hG07 : G w w7 := (hG06.alloc _).trans' hbel7 hG06.size
      clear hV7 hown7 hbel7 HO6 HP6 hG06
      go_wp2_with fail
      refine (take_say HV7.out (by rw [List.length_append, put_length]; simp; omega)).mono ?_
      rintro e3 w8 ⟨_, rfl, hg8, x3, rfl, _⟩
      rw [ok_ahead hb]
      go_wp2_with fail
      go_ret
      exact ⟨rfl, hG07.trans hg8⟩
  | false =>
    go_wp2_with fail
    refine wp_region_grows (says [Say.is (.bool false), Say.is (.bool false), Say.is (undef), Say.is (undef), Say.is (undef), Say.is (undef), Say.is (undef), Say.is (undef), Say.is (undef), Say.is (undef), Say.is (undef), Say.is (.bool false)]) 71 (by kernel_rfl) (by kernel_rfl) rfl (says_mono _) (allSteps_take ⟨?_, ?_, ?_, ?_, ?_, ?_, ?_, ?_, ?_, ?_, ?_, ?_, trivial⟩) ?_
    · intro a w1 hG hin
      have h8 : a.eval (.tmp 8) = .bool false := slot_out (hin 8 (by decide)) rfl
      clear hin
      exact .inl ⟨wanted_none rfl, grow_move rfl h8⟩
    · intro a w1 hG hin
      have h34 : a.eval (.tmp 34) = .bool false := slot_in (hin 34 (by decide)) rfl
      clear hin
      exact .inl ⟨wanted_none rfl, grow_move rfl h34⟩
    · intro a w1 hG hin
      have h7 : a.eval (.tmp 7) = x := slot_out (hin 7 (by decide)) rfl
      have h35 : a.eval (.tmp 35) = .bool false := slot_in (hin 35 (by decide)) rfl
      clear hin
      exact .inr ⟨wanted_no rfl rfl h35, fun _ _ => rfl⟩
    · intro a w1 hG hin
      have h36 : a.eval (.tmp 36) = undef := slot_in (hin 36 (by decide)) rfl
      have h35 : a.eval (.tmp 35) = .bool false := slot_in (hin 35 (by decide)) rfl
      clear hin
      exact .inr ⟨wanted_no rfl rfl h35, fun _ _ => rfl⟩
    · intro a w1 hG hin
      have h6 : a.eval (.tmp 6) = .slice q (ms.length + 4) e := slot_out (hin 6 (by decide)) rfl
      have h35 : a.eval (.tmp 35) = .bool false := slot_in (hin 35 (by decide)) rfl
      clear hin
      exact .inr ⟨wanted_no rfl rfl h35, fun _ _ => rfl⟩
    · intro a w1 hG hin
      have h6 : a.eval (.tmp 6) = .slice q (ms.length + 4) e := slot_out (hin 6 (by decide)) rfl
      have h35 : a.eval (.tmp 35) = .bool false := slot_in (hin 35 (by decide)) rfl
      clear hin
      exact .inr ⟨wanted_no rfl rfl h35, fun _ _ => rfl⟩
    · intro a w1 hG hin
      have h39 : a.eval (.tmp 39) = undef := slot_in (hin 39 (by decide)) rfl
      have h35 : a.eval (.tmp 35) = .bool false := slot_in (hin 35 (by decide)) rfl
      clear hin
      exact .inr ⟨wanted_no rfl rfl h35, fun _ _ => rfl⟩
    · intro a w1 hG hin
      have h40 : a.eval (.tmp 40) = undef := slot_in (hin 40 (by decide)) rfl
      have h35 : a.eval (.tmp 35) = .bool false := slot_in (hin 35 (by decide)) rfl
      clear hin
      exact .inr ⟨wanted_no rfl rfl h35, fun _ _ => rfl⟩
    · intro a w1 hG hin
      have h38 : a.eval (.tmp 38) = undef := slot_in (hin 38 (by decide)) rfl
      have h41 : a.eval (.tmp 41) = undef := slot_in (hin 41 (by decide)) rfl
      have h35 : a.eval (.tmp 35) = .bool false := slot_in (hin 35 (by decide)) rfl
      clear hin
      exact .inr ⟨wanted_no rfl rfl h35, fun _ _ => rfl⟩
    · intro a w1 hG hin
      have h42 : a.eval (.tmp 42) = undef := slot_in (hin 42 (by decide)) rfl
      have h35 : a.eval (.tmp 35) = .bool false := slot_in (hin 35 (by decide)) rfl
      clear hin
      exact .inr ⟨wanted_no rfl rfl h35, fun _ _ => rfl⟩
    · intro a w1 hG hin
      have h37 : a.eval (.tmp 37) = undef := slot_in (hin 37 (by decide)) rfl
      have h43 : a.eval (.tmp 43) = undef := slot_in (hin 43 (by decide)) rfl
      have h35 : a.eval (.tmp 35) = .bool false := slot_in (hin 35 (by decide)) rfl
      clear hin
      exact .inr ⟨wanted_no rfl rfl h35, fun _ _ => rfl⟩
    · intro a w1 hG hin
      have h35 : a.eval (.tmp 35) = .bool false := slot_in (hin 35 (by decide)) rfl
      have h44 : a.eval (.tmp 44) = undef := slot_in (hin 44 (by decide)) rfl
      clear hin
      exact .inl ⟨wanted_none rfl, grow_pick rfl h35 rfl⟩
    · intro s w2 hG hin hs
      have f4 : s 4 = .bool false := (hs 4 (by decide)).symm.trans (slot_out (hin 4) rfl)
      have f5 : s 5 = .bool true := (hs 5 (by decide)).symm.trans (slot_out (hin 5) rfl)
      have f6 : s 6 = .slice q (ms.length + 4) e := (hs 6 (by decide)).symm.trans (slot_out (hin 6) rfl)
      have f45 : s 45 = .bool false := (hs 45 (by decide)).symm.trans (slot_in (hin 45) rfl)
      clear hin hs
      rw [show List.range 71 = [0, 1, 2, 3, 4, 5, 6, 7, 8, 9, 10, 11, 12, 13, 14, 15, 16, 17, 18, 19, 20, 21, 22, 23, 24, 25, 26, 27, 28, 29, 30, 31, 32, 33, 34, 35, 36, 37, 38, 39, 40, 41, 42, 43, 44, 45, 46, 47, 48, 49, 50, 51, 52, 53, 54, 55, 56, 57, 58, 59, 60, 61, 62, 63, 64, 65, 66, 67, 68, 69, 70] from rfl]
      simp only [List.map_cons, List.map_nil]
      rw [f4, f5, f6, f45]
      go_wp2_with fail
      have hP2 : RowAt w2 q e (put ms) := hP1.mono hG
      have hT3 : IsRow ((put ms).take 3) (.slice q 3 e) w2 := ⟨q, e, by rw [List.length_take, put_length]; congr <;> omega, hce, hP2.take _⟩
      refine (take_say hT3 (by rw [List.length_take]; omega)).mono ?_
      rintro e2 w6 ⟨_, rfl, hg6, x2, rfl, _⟩
      rw [ok_three]
      have hP6 : RowAt w6 q e (put ms) := hP2.mono hg6
      have hO6 := owns_one w6 0 0 rfl
      have HO6 := hid hO6; have HP6 := hid hP6
      have hG06 : G w w6 := hG05.trans (hG.trans hg6)
      clear hO6 hP6 hP2 hT3 hg6 hG hG05 hP hP1 hX hm
      go_wp2_with (at_builtin; refine wpList_append_row rfl (.tmp 56) (.tmp 57) rfl w6.heap.size _ [0] rfl HO6.out q _ e (put ms) rfl (put_length ms) (HP6.out.mono ((G.refl w6).alloc _)) (by rw [put_length]; simp; omega) (by simp) ?_)
      intro v7 w7 hown7 hbel7
      have hV7 : IsRow ([0] ++ put ms) v7 w7 := owns_isRow (bytes_append (fun b hb' => by simp at hb'; omega) hPb) hown7
      have HV7 := hid hV7
      have hG07 : G w w7 := (hG06.alloc _).trans' hbel7 hG06.size
      clear hV7 hown7 hbel7 HO6 HP6 hG06
      go_wp2_with fail
      refine (take_say HV7.out (by rw [List.length_append, put_length]; simp; omega)).mono ?_
      rintro e3 w8 ⟨_, rfl, hg8, x3, rfl, _⟩
      rw [ok_ahead hb]
      go_wp2_with fail
      go_ret
      exact ⟨rfl, hG07.trans hg8⟩
end Go.Proofs.Ytoodfngcfdhnfaa
