/-
  The walk over CrcAll: it returns true, and writes nothing that was there. No conditions.
-/
import Derived.Test.YtoodfngcfdhnfaaSay2
namespace Go.Proofs.Ytoodfngcfdhnfaa
open Go.RowKit Go.Proofs.Ytoodfngcfdhnfaa.Crc

set_option maxRecDepth 100000 in
set_option maxHeartbeats 2000000 in
theorem all_any (v : Value) (ns : List Nat) (n : Nat) (w : World) (hv : IsRow ns v w) (hn : n < 4294967296) :
    Calls Try.prog 4 #[v, .int .u32 n] w fun e w' => e = .returned (.bool true) ∧ G w w' := by
  go_enter Try.func4, Try.ntmps4
  go_wp2_with fail
  refine (shown_any _).mono ?_
  rintro e w1 ⟨rfl, hg1⟩
  go_wp2_with fail
  refine (short_say (hv.mono hg1)).mono ?_
  rintro e w1' ⟨p, c, rfl, hc, hr, rfl⟩
  have hl := short_len ns
  generalize ns.take 2000 = ms at *
  have hO0 : Owns w1.heap.size (w1.alloc (.cells #[] 5)) (.slice (some ⟨w1.heap.size, 0, none⟩) 0 0) [] := World.ownsRow_made w1 #[] 0 (Nat.le_refl _) (Nat.zero_le _) rfl
  have HO := hid hO0; clear hO0
  have HR0 := hid hr; clear hr
  go_wp2_with (at_builtin; refine wpList_append_row rfl (.tmp 14) (.tmp 15) rfl w1.heap.size _ [] rfl HO.out p _ c ms rfl rfl (HR0.out.mono ((G.refl w1).alloc _)) (by simp; omega) (by simp) ?_)
  intro v1 w2 hown1 hbel1
  have hown1 : Owns w1.heap.size w2 v1 ms := by simpa using hown1
  have hg2 : G w1 w2 := ((G.refl w1).alloc _).trans' hbel1 (Nat.le_refl _)
  have hr1 : IsRow ms v1 w2 := owns_isRow HR0.out.bytes hown1
  have HR1 := hid hr1; clear hr1 hown1 hbel1
  have HG2 := hid hg2; clear hg2
  go_wp2_with fail
  refine (take_say HR1.out (by omega)).mono ?_
  rintro e w3 ⟨_, rfl, hg3, x, rfl, hX⟩
  have HX := hid hX; clear hX
  go_wp2_with fail
  have hR0 : IsRow ms (.slice p ms.length c) w3 := ⟨p, c, rfl, hc, (HR0.out.mono HG2.out).mono hg3⟩
  refine (rtake_say hR0 (by omega)).mono ?_
  rintro e w4 ⟨_, rfl, hg4, y, rfl, hY⟩
  have hR : IsRow ms (.slice p ms.length c) w4 := hR0.mono hg4
  have hX : IsRow (taken ms) x w4 := HX.out.mono hg4
  have hG04 : G w w4 := hg1.trans (HG2.out.trans (hg3.trans hg4))
  clear HR0 HO HR1 HX hR0 hg3 hg4 HG2 hg1
  go_wp2_with fail
  refine wp_region_grows (says [Say.is (.bool true), Say.is (.bool true), Say.is (.int .u32 ((n : Nat) : Int)), Say.row ms, Say.is (.int .u32 ((go n ms : Nat) : Int)), Say.is (.int .u32 ((n : Nat) : Int)), Say.row ms, Say.is (.int .u32 ((go n ms : Nat) : Int)), Say.is (.bool true), Say.is (.bool true), Say.is (.bool true), Say.row ms, Say.is (.int .u32 ((go 0 ms : Nat) : Int)), Say.row ms, Say.is (.int .u32 ((go 0 ms : Nat) : Int)), Say.is (.bool true), Say.is (.bool true), Say.is (.bool true), Say.row ms, Say.row (put ms), Say.is (.string (str (put ms))), Say.row ms, Say.row (put ms), Say.is (.string (str (put ms))), Say.is (.bool true), Say.is (.bool true), Say.is (.bool true), Say.row (taken ms), Say.is (.string (str (taken ms))), Say.row (taken ms), Say.is (.string (str (taken ms))), Say.is (.bool true), Say.is (.bool true), Say.is (.bool true), Say.is (.bool (okB ms)), Say.is (.bool (okB ms)), Say.is (.bool true), Say.is (.bool true), Say.is (.bool true)]) 63 (by kernel_rfl) (by kernel_rfl) rfl (says_mono _) (allSteps_take ⟨?_, ?_, ?_, ?_, ?_, ?_, ?_, ?_, ?_, ?_, ?_, ?_, ?_, ?_, ?_, ?_, ?_, ?_, ?_, ?_, ?_, ?_, ?_, ?_, ?_, ?_, ?_, ?_, ?_, ?_, ?_, ?_, ?_, ?_, ?_, ?_, ?_, ?_, ?_, trivial⟩) ?_
  · intro a w1 hG hin
    have h5 : a.eval (.tmp 5) = .bool true := slot_out (hin 5 (by decide)) rfl
    clear hin
    exact .inl ⟨wanted_none rfl, grow_move rfl h5⟩
  · intro a w1 hG hin
    have h25 : a.eval (.tmp 25) = .bool true := slot_in (hin 25 (by decide)) rfl
    clear hin
    exact .inl ⟨wanted_none rfl, grow_move rfl h25⟩
  · intro a w1 hG hin
    have h1 : a.eval (.tmp 1) = .int .u32 ((n : Nat) : Int) := slot_out (hin 1 (by decide)) rfl
    have h26 : a.eval (.tmp 26) = .bool true := slot_in (hin 26 (by decide)) rfl
    clear hin
    exact .inl ⟨wanted_yes rfl rfl h26, grow_move rfl h1⟩
  · intro a w1 hG hin
    have h0 : a.eval (.tmp 0) = .slice p ms.length c := slot_out (hin 0 (by decide)) rfl
    have h26 : a.eval (.tmp 26) = .bool true := slot_in (hin 26 (by decide)) rfl
    clear hin
    refine .inl ⟨wanted_yes rfl rfl h26, ?_⟩
    refine grow_move rfl ?_
    rw [h0]
    exact hR.mono hG
  · intro a w1 hG hin
    have h27 : a.eval (.tmp 27) = .int .u32 ((n : Nat) : Int) := slot_in (hin 27 (by decide)) rfl
    have h28 : IsRow ms (a.eval (.tmp 28)) w1 := slot_in (hin 28 (by decide)) rfl
    have h26 : a.eval (.tmp 26) = .bool true := slot_in (hin 26 (by decide)) rfl
    clear hin
    exact .inl ⟨wanted_yes rfl rfl h26, grow_call Try.call13 #[a.eval (.tmp 27), a.eval (.tmp 28)] (by simp only [List.map_toArray, List.map_cons, List.map_nil]) (go_say h27 h28 hn (by omega))⟩
  · intro a w1 hG hin
    have h1 : a.eval (.tmp 1) = .int .u32 ((n : Nat) : Int) := slot_out (hin 1 (by decide)) rfl
    have h26 : a.eval (.tmp 26) = .bool true := slot_in (hin 26 (by decide)) rfl
    clear hin
    exact .inl ⟨wanted_yes rfl rfl h26, grow_move rfl h1⟩
  · intro a w1 hG hin
    have h0 : a.eval (.tmp 0) = .slice p ms.length c := slot_out (hin 0 (by decide)) rfl
    have h26 : a.eval (.tmp 26) = .bool true := slot_in (hin 26 (by decide)) rfl
    clear hin
    refine .inl ⟨wanted_yes rfl rfl h26, ?_⟩
    refine grow_move rfl ?_
    rw [h0]
    exact hR.mono hG
  · intro a w1 hG hin
    have h30 : a.eval (.tmp 30) = .int .u32 ((n : Nat) : Int) := slot_in (hin 30 (by decide)) rfl
    have h31 : IsRow ms (a.eval (.tmp 31)) w1 := slot_in (hin 31 (by decide)) rfl
    have h26 : a.eval (.tmp 26) = .bool true := slot_in (hin 26 (by decide)) rfl
    clear hin
    exact .inl ⟨wanted_yes rfl rfl h26, grow_call Try.call14 #[a.eval (.tmp 30), a.eval (.tmp 31)] (by simp only [List.map_toArray, List.map_cons, List.map_nil]) (rgo_say h30 h31 hn (by omega))⟩
  · intro a w1 hG hin
    have h29 : a.eval (.tmp 29) = .int .u32 ((go n ms : Nat) : Int) := slot_in (hin 29 (by decide)) rfl
    have h32 : a.eval (.tmp 32) = .int .u32 ((go n ms : Nat) : Int) := slot_in (hin 32 (by decide)) rfl
    have h26 : a.eval (.tmp 26) = .bool true := slot_in (hin 26 (by decide)) rfl
    clear hin
    refine .inl ⟨wanted_yes rfl rfl h26, ?_⟩
    exact grow_equ32 rfl Try.underlying25 h29 h32 (by rw [decide_eq_true rfl]; rfl)
  · intro a w1 hG hin
    have h26 : a.eval (.tmp 26) = .bool true := slot_in (hin 26 (by decide)) rfl
    have h33 : a.eval (.tmp 33) = .bool true := slot_in (hin 33 (by decide)) rfl
    clear hin
    exact .inl ⟨wanted_none rfl, grow_pick rfl h26 h33⟩
  · intro a w1 hG hin
    have h34 : a.eval (.tmp 34) = .bool true := slot_in (hin 34 (by decide)) rfl
    clear hin
    exact .inl ⟨wanted_none rfl, grow_move rfl h34⟩
  · intro a w1 hG hin
    have h0 : a.eval (.tmp 0) = .slice p ms.length c := slot_out (hin 0 (by decide)) rfl
    have h35 : a.eval (.tmp 35) = .bool true := slot_in (hin 35 (by decide)) rfl
    clear hin
    refine .inl ⟨wanted_yes rfl rfl h35, ?_⟩
    refine grow_move rfl ?_
    rw [h0]
    exact hR.mono hG
  · intro a w1 hG hin
    have h36 : IsRow ms (a.eval (.tmp 36)) w1 := slot_in (hin 36 (by decide)) rfl
    have h35 : a.eval (.tmp 35) = .bool true := slot_in (hin 35 (by decide)) rfl
    clear hin
    exact .inl ⟨wanted_yes rfl rfl h35, grow_call Try.call10 #[a.eval (.tmp 36)] (by simp only [List.map_toArray, List.map_cons, List.map_nil]) (of_say h36 (by omega))⟩
  · intro a w1 hG hin
    have h0 : a.eval (.tmp 0) = .slice p ms.length c := slot_out (hin 0 (by decide)) rfl
    have h35 : a.eval (.tmp 35) = .bool true := slot_in (hin 35 (by decide)) rfl
    clear hin
    refine .inl ⟨wanted_yes rfl rfl h35, ?_⟩
    refine grow_move rfl ?_
    rw [h0]
    exact hR.mono hG
  · intro a w1 hG hin
    have h38 : IsRow ms (a.eval (.tmp 38)) w1 := slot_in (hin 38 (by decide)) rfl
    have h35 : a.eval (.tmp 35) = .bool true := slot_in (hin 35 (by decide)) rfl
    clear hin
    exact .inl ⟨wanted_yes rfl rfl h35, grow_call Try.call14 #[a.eval (.const (.int .u32 0)), a.eval (.tmp 38)] (by simp only [List.map_toArray, List.map_cons, List.map_nil]) (rgo_say (n := 0) rfl h38 (by decide) (by omega))⟩
  · intro a w1 hG hin
    have h37 : a.eval (.tmp 37) = .int .u32 ((go 0 ms : Nat) : Int) := slot_in (hin 37 (by decide)) rfl
    have h39 : a.eval (.tmp 39) = .int .u32 ((go 0 ms : Nat) : Int) := slot_in (hin 39 (by decide)) rfl
    have h35 : a.eval (.tmp 35) = .bool true := slot_in (hin 35 (by decide)) rfl
    clear hin
    refine .inl ⟨wanted_yes rfl rfl h35, ?_⟩
    exact grow_equ32 rfl Try.underlying25 h37 h39 (by rw [decide_eq_true rfl]; rfl)
  · intro a w1 hG hin
    have h35 : a.eval (.tmp 35) = .bool true := slot_in (hin 35 (by decide)) rfl
    have h40 : a.eval (.tmp 40) = .bool true := slot_in (hin 40 (by decide)) rfl
    clear hin
    exact .inl ⟨wanted_none rfl, grow_pick rfl h35 h40⟩
  · intro a w1 hG hin
    have h41 : a.eval (.tmp 41) = .bool true := slot_in (hin 41 (by decide)) rfl
    clear hin
    exact .inl ⟨wanted_none rfl, grow_move rfl h41⟩
  · intro a w1 hG hin
    have h0 : a.eval (.tmp 0) = .slice p ms.length c := slot_out (hin 0 (by decide)) rfl
    have h42 : a.eval (.tmp 42) = .bool true := slot_in (hin 42 (by decide)) rfl
    clear hin
    refine .inl ⟨wanted_yes rfl rfl h42, ?_⟩
    refine grow_move rfl ?_
    rw [h0]
    exact hR.mono hG
  · intro a w1 hG hin
    have h43 : IsRow ms (a.eval (.tmp 43)) w1 := slot_in (hin 43 (by decide)) rfl
    have h42 : a.eval (.tmp 42) = .bool true := slot_in (hin 42 (by decide)) rfl
    clear hin
    exact .inl ⟨wanted_yes rfl rfl h42, grow_call Try.call15 #[a.eval (.tmp 43)] (by simp only [List.map_toArray, List.map_cons, List.map_nil]) (put_say h43 (by omega))⟩
  · intro a w1 hG hin
    have h44 : IsRow (put ms) (a.eval (.tmp 44)) w1 := slot_in (hin 44 (by decide)) rfl
    have h42 : a.eval (.tmp 42) = .bool true := slot_in (hin 42 (by decide)) rfl
    clear hin
    exact .inl ⟨wanted_yes rfl rfl h42, grow_convert rfl Try.underlying22 Try.underlying5 Try.underlying9 h44 rfl⟩
  · intro a w1 hG hin
    have h0 : a.eval (.tmp 0) = .slice p ms.length c := slot_out (hin 0 (by decide)) rfl
    have h42 : a.eval (.tmp 42) = .bool true := slot_in (hin 42 (by decide)) rfl
    clear hin
    refine .inl ⟨wanted_yes rfl rfl h42, ?_⟩
    refine grow_move rfl ?_
    rw [h0]
    exact hR.mono hG
  · intro a w1 hG hin
    have h46 : IsRow ms (a.eval (.tmp 46)) w1 := slot_in (hin 46 (by decide)) rfl
    have h42 : a.eval (.tmp 42) = .bool true := slot_in (hin 42 (by decide)) rfl
    clear hin
    exact .inl ⟨wanted_yes rfl rfl h42, grow_call Try.call16 #[a.eval (.tmp 46)] (by simp only [List.map_toArray, List.map_cons, List.map_nil]) (rput_say h46 (by omega))⟩
  · intro a w1 hG hin
    have h47 : IsRow (put ms) (a.eval (.tmp 47)) w1 := slot_in (hin 47 (by decide)) rfl
    have h42 : a.eval (.tmp 42) = .bool true := slot_in (hin 42 (by decide)) rfl
    clear hin
    exact .inl ⟨wanted_yes rfl rfl h42, grow_convert rfl Try.underlying22 Try.underlying5 Try.underlying9 h47 rfl⟩
  · intro a w1 hG hin
    have h45 : a.eval (.tmp 45) = .string (str (put ms)) := slot_in (hin 45 (by decide)) rfl
    have h48 : a.eval (.tmp 48) = .string (str (put ms)) := slot_in (hin 48 (by decide)) rfl
    have h42 : a.eval (.tmp 42) = .bool true := slot_in (hin 42 (by decide)) rfl
    clear hin
    refine .inl ⟨wanted_yes rfl rfl h42, ?_⟩
    exact grow_eqstr rfl (put_bytes hR.bytes) (put_bytes hR.bytes) h45 h48 (by rw [decide_eq_true rfl]; rfl)
  · intro a w1 hG hin
    have h42 : a.eval (.tmp 42) = .bool true := slot_in (hin 42 (by decide)) rfl
    have h49 : a.eval (.tmp 49) = .bool true := slot_in (hin 49 (by decide)) rfl
    clear hin
    exact .inl ⟨wanted_none rfl, grow_pick rfl h42 h49⟩
  · intro a w1 hG hin
    have h50 : a.eval (.tmp 50) = .bool true := slot_in (hin 50 (by decide)) rfl
    clear hin
    exact .inl ⟨wanted_none rfl, grow_move rfl h50⟩
  · intro a w1 hG hin
    have h6 : a.eval (.tmp 6) = x := slot_out (hin 6 (by decide)) rfl
    have h51 : a.eval (.tmp 51) = .bool true := slot_in (hin 51 (by decide)) rfl
    clear hin
    refine .inl ⟨wanted_yes rfl rfl h51, ?_⟩
    refine grow_move rfl ?_
    rw [h6]
    exact hX.mono hG
  · intro a w1 hG hin
    have h52 : IsRow (taken ms) (a.eval (.tmp 52)) w1 := slot_in (hin 52 (by decide)) rfl
    have h51 : a.eval (.tmp 51) = .bool true := slot_in (hin 51 (by decide)) rfl
    clear hin
    exact .inl ⟨wanted_yes rfl rfl h51, grow_convert rfl Try.underlying22 Try.underlying5 Try.underlying9 h52 rfl⟩
  · intro a w1 hG hin
    have h8 : a.eval (.tmp 8) = y := slot_out (hin 8 (by decide)) rfl
    have h51 : a.eval (.tmp 51) = .bool true := slot_in (hin 51 (by decide)) rfl
    clear hin
    refine .inl ⟨wanted_yes rfl rfl h51, ?_⟩
    refine grow_move rfl ?_
    rw [h8]
    exact hY.mono hG
  · intro a w1 hG hin
    have h54 : IsRow (taken ms) (a.eval (.tmp 54)) w1 := slot_in (hin 54 (by decide)) rfl
    have h51 : a.eval (.tmp 51) = .bool true := slot_in (hin 51 (by decide)) rfl
    clear hin
    exact .inl ⟨wanted_yes rfl rfl h51, grow_convert rfl Try.underlying22 Try.underlying5 Try.underlying9 h54 rfl⟩
  · intro a w1 hG hin
    have h53 : a.eval (.tmp 53) = .string (str (taken ms)) := slot_in (hin 53 (by decide)) rfl
    have h55 : a.eval (.tmp 55) = .string (str (taken ms)) := slot_in (hin 55 (by decide)) rfl
    have h51 : a.eval (.tmp 51) = .bool true := slot_in (hin 51 (by decide)) rfl
    clear hin
    refine .inl ⟨wanted_yes rfl rfl h51, ?_⟩
    exact grow_eqstr rfl (taken_bytes hR.bytes) (taken_bytes hR.bytes) h53 h55 (by rw [decide_eq_true rfl]; rfl)
  · intro a w1 hG hin
    have h51 : a.eval (.tmp 51) = .bool true := slot_in (hin 51 (by decide)) rfl
    have h56 : a.eval (.tmp 56) = .bool true := slot_in (hin 56 (by decide)) rfl
    clear hin
    exact .inl ⟨wanted_none rfl, grow_pick rfl h51 h56⟩
  · intro a w1 hG hin
    have h57 : a.eval (.tmp 57) = .bool true := slot_in (hin 57 (by decide)) rfl
    clear hin
    exact .inl ⟨wanted_none rfl, grow_move rfl h57⟩
  · intro a w1 hG hin
    have h7 : a.eval (.tmp 7) = .bool (okB ms) := slot_out (hin 7 (by decide)) rfl
    have h58 : a.eval (.tmp 58) = .bool true := slot_in (hin 58 (by decide)) rfl
    clear hin
    exact .inl ⟨wanted_yes rfl rfl h58, grow_move rfl h7⟩
  · intro a w1 hG hin
    have h9 : a.eval (.tmp 9) = .bool (okB ms) := slot_out (hin 9 (by decide)) rfl
    have h58 : a.eval (.tmp 58) = .bool true := slot_in (hin 58 (by decide)) rfl
    clear hin
    exact .inl ⟨wanted_yes rfl rfl h58, grow_move rfl h9⟩
  · intro a w1 hG hin
    have h59 : a.eval (.tmp 59) = .bool (okB ms) := slot_in (hin 59 (by decide)) rfl
    have h60 : a.eval (.tmp 60) = .bool (okB ms) := slot_in (hin 60 (by decide)) rfl
    have h58 : a.eval (.tmp 58) = .bool true := slot_in (hin 58 (by decide)) rfl
    clear hin
    refine .inl ⟨wanted_yes rfl rfl h58, ?_⟩
    exact grow_eqbool rfl Try.underlying4 h59 h60 (by rw [beq_self_eq_true]; rfl)
  · intro a w1 hG hin
    have h58 : a.eval (.tmp 58) = .bool true := slot_in (hin 58 (by decide)) rfl
    have h61 : a.eval (.tmp 61) = .bool true := slot_in (hin 61 (by decide)) rfl
    clear hin
    exact .inl ⟨wanted_none rfl, grow_pick rfl h58 h61⟩
  · intro a w1 hG hin
    have h62 : a.eval (.tmp 62) = .bool true := slot_in (hin 62 (by decide)) rfl
    clear hin
    exact .inl ⟨wanted_none rfl, grow_assign rfl h62⟩
  · intro s w2 hG hin hs
    have f4 : s 4 = .bool true := (hs 4 (by decide)).symm.trans (slot_in (hin 4) rfl)
    clear hin hs
    rw [show List.range 63 = [0, 1, 2, 3, 4, 5, 6, 7, 8, 9, 10, 11, 12, 13, 14, 15, 16, 17, 18, 19, 20, 21, 22, 23, 24, 25, 26, 27, 28, 29, 30, 31, 32, 33, 34, 35, 36, 37, 38, 39, 40, 41, 42, 43, 44, 45, 46, 47, 48, 49, 50, 51, 52, 53, 54, 55, 56, 57, 58, 59, 60, 61, 62] from rfl]
    simp only [List.map_cons, List.map_nil]
    rw [f4]
    go_wp2_with fail
    go_ret
    exact ⟨rfl, hG04.trans hG⟩
end Go.Proofs.Ytoodfngcfdhnfaa
