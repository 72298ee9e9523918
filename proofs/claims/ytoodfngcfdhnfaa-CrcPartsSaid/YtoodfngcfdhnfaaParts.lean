/-
  The walk over CrcParts: it returns true, and writes nothing that was there. No conditions.
-/
import Derived.Test.YtoodfngcfdhnfaaSay2
import Derived.Deep.Cut
namespace Go.Proofs.Ytoodfngcfdhnfaa
open Go.RowKit Go.Proofs.Ytoodfngcfdhnfaa.Crc

set_option maxRecDepth 100000 in
set_option maxHeartbeats 2000000 in
theorem parts_any (u v : Value) (xs0 ys0 : List Nat) (n : Nat) (w : World) (hu : IsRow xs0 u w) (hv : IsRow ys0 v w) (hn : n < 4294967296) :
    Calls Try.prog 5 #[u, v, .int .u32 n] w fun e w' => e = .returned (.bool true) ∧ G w w' := by
  go_enter Try.func5, Try.ntmps5
  go_wp2_with fail
  refine (shown_any _).mono ?_
  rintro e w1 ⟨rfl, hg1⟩
  go_wp2_with fail
  refine (short_say (hu.mono hg1)).mono ?_
  rintro e w1' ⟨p, c, rfl, hc, hr, rfl⟩
  have hl := short_len xs0
  generalize xs0.take 2000 = xs at *
  have HR := hid hr; clear hr
  go_wp2_with fail
  refine (short_say (hv.mono hg1)).mono ?_
  rintro e w1' ⟨q, d, rfl, hd, hr2, rfl⟩
  have hl2 := short_len ys0
  generalize ys0.take 2000 = ys at *
  have HR2 := hid hr2; clear hr2
  have hO0 : Owns w1.heap.size (w1.alloc (.cells #[] 5)) (.slice (some ⟨w1.heap.size, 0, none⟩) 0 0) [] := World.ownsRow_made w1 #[] 0 (Nat.le_refl _) (Nat.zero_le _) rfl
  have HO := hid hO0; clear hO0
  go_wp2_with (at_builtin; refine wpList_append_row rfl (.tmp 16) (.tmp 17) rfl w1.heap.size _ [] rfl HO.out p _ c xs rfl rfl (HR.out.mono ((G.refl w1).alloc _)) (by simp; omega) (by simp) ?_)
  intro v1 w2 hown1 hbel1
  have hown1 : Owns w1.heap.size w2 v1 xs := by simpa using hown1
  have hg2 : G w1 w2 := ((G.refl w1).alloc _).trans' hbel1 (Nat.le_refl _)
  have HO1 := hid hown1; clear hown1 hbel1
  have HG2 := hid hg2; clear hg2
  go_wp2_with (at_builtin; refine wpList_append_row rfl (.tmp 18) (.tmp 19) rfl w1.heap.size _ xs rfl HO1.out q _ d ys rfl rfl (HR2.out.mono HG2.out) (by omega) HG2.out.size ?_)
  intro v2 w3 hown2 hbel2
  have hg3 : G w1 w3 := HG2.out.trans' hbel2 (Nat.le_refl _)
  have hV0 : IsRow (xs ++ ys) v2 w3 := owns_isRow (bytes_append HR.out.bytes HR2.out.bytes) hown2
  have HV := hid hV0; clear hV0 hown2 hbel2
  have HG3 := hid hg3; clear hg3
  go_wp2_with fail
  refine (put_say HV.out (by simp; omega)).mono ?_
  rintro e w4 ⟨y, rfl, hg4, hY⟩
  have HY := hid hY; clear hY
  go_wp2_with fail
  refine (take_say HY.out (by rw [put_length]; simp; omega)).mono ?_
  rintro e w5 ⟨_, rfl, hg5, x, rfl, hX⟩
  rw [take_put, taken_put] at *
  have hA : IsRow xs (.slice p xs.length c) w5 := ⟨p, c, rfl, hc, ((HR.out.mono HG3.out).mono hg4).mono hg5⟩
  have hB : IsRow ys (.slice q ys.length d) w5 := ⟨q, d, rfl, hd, ((HR2.out.mono HG3.out).mono hg4).mono hg5⟩
  have hV : IsRow (xs ++ ys) v2 w5 := (HV.out.mono hg4).mono hg5
  have hG0 : G w w5 := hg1.trans (HG3.out.trans (hg4.trans hg5))
  have HX := hid hX; have HA := hid hA; have HB := hid hB; have HV2 := hid hV
  clear hX hA hB hV HR HR2 HO HO1 HG2 HG3 HV HY hg1 hg4 hg5
  go_upto_region 6 with (fail)
  have hX := HX.out; have hA := HA.out; have hB := HB.out; have hV := HV2.out
  clear HX HA HB HV2
  refine wp_region_lines (says [Say.is (.bool true), Say.is (.bool true), Say.is (.int .u32 ((n : Nat) : Int)), Say.row (xs ++ ys), Say.is (.int .u32 ((go n (xs ++ ys) : Nat) : Int)), Say.is (.int .u32 ((n : Nat) : Int)), Say.row xs, Say.is (.int .u32 ((go n xs : Nat) : Int)), Say.row ys, Say.is (.int .u32 ((go (go n xs) ys : Nat) : Int)), Say.is (.bool true), Say.is (.bool true), Say.is (.bool true), Say.is (.int .u32 ((n : Nat) : Int)), Say.is (.int .u32 ((go n [] : Nat) : Int)), Say.is (.int .u32 ((n : Nat) : Int)), Say.is (.bool true), Say.is (.bool true), Say.is (.bool true), Say.is (.bool true), Say.is (.bool true), Say.is (.bool true), Say.row (xs ++ ys), Say.is (.string (str (xs ++ ys))), Say.row (xs ++ ys), Say.is (.string (str (xs ++ ys))), Say.is (.bool true), Say.is (.bool true), Say.is (.bool true)]) 55 (by kernel_rfl) rfl (says_mono _) (allSteps_take ⟨?_, ?_, ?_, ?_, ?_, ?_, ?_, ?_, ?_, ?_, ?_, ?_, ?_, ?_, ?_, ?_, ?_, ?_, ?_, ?_, ?_, ?_, ?_, ?_, ?_, ?_, ?_, ?_, ?_, trivial⟩) ?_
  · intro a w1 hG hin
    have h7 : a.eval (.tmp 7) = .bool true := slot_out (hin 7 (by decide)) rfl
    clear hin
    exact .inl ⟨wanted_none rfl, grow_move rfl h7⟩
  · intro a w1 hG hin
    have h27 : a.eval (.tmp 27) = .bool true := slot_in (hin 27 (by decide)) rfl
    clear hin
    exact .inl ⟨wanted_none rfl, grow_move rfl h27⟩
  · intro a w1 hG hin
    have h2 : a.eval (.tmp 2) = .int .u32 ((n : Nat) : Int) := slot_out (hin 2 (by decide)) rfl
    have h28 : a.eval (.tmp 28) = .bool true := slot_in (hin 28 (by decide)) rfl
    clear hin
    exact .inl ⟨wanted_yes rfl rfl h28, grow_move rfl h2⟩
  · intro a w1 hG hin
    have h8 : a.eval (.tmp 8) = v2 := slot_out (hin 8 (by decide)) rfl
    have h28 : a.eval (.tmp 28) = .bool true := slot_in (hin 28 (by decide)) rfl
    clear hin
    refine .inl ⟨wanted_yes rfl rfl h28, ?_⟩
    refine grow_move rfl ?_
    rw [h8]
    exact hV.mono hG
  · intro a w1 hG hin
    have h29 : a.eval (.tmp 29) = .int .u32 ((n : Nat) : Int) := slot_in (hin 29 (by decide)) rfl
    have h30 : IsRow (xs ++ ys) (a.eval (.tmp 30)) w1 := slot_in (hin 30 (by decide)) rfl
    have h28 : a.eval (.tmp 28) = .bool true := slot_in (hin 28 (by decide)) rfl
    clear hin
    exact .inl ⟨wanted_yes rfl rfl h28, grow_call Try.call13 #[a.eval (.tmp 29), a.eval (.tmp 30)] (by simp only [List.map_toArray, List.map_cons, List.map_nil]) (go_say h29 h30 hn (by simp; omega))⟩
  · intro a w1 hG hin
    have h2 : a.eval (.tmp 2) = .int .u32 ((n : Nat) : Int) := slot_out (hin 2 (by decide)) rfl
    have h28 : a.eval (.tmp 28) = .bool true := slot_in (hin 28 (by decide)) rfl
    clear hin
    exact .inl ⟨wanted_yes rfl rfl h28, grow_move rfl h2⟩
  · intro a w1 hG hin
    have h0 : a.eval (.tmp 0) = .slice p xs.length c := slot_out (hin 0 (by decide)) rfl
    have h28 : a.eval (.tmp 28) = .bool true := slot_in (hin 28 (by decide)) rfl
    clear hin
    refine .inl ⟨wanted_yes rfl rfl h28, ?_⟩
    refine grow_move rfl ?_
    rw [h0]
    exact hA.mono hG
  · intro a w1 hG hin
    have h32 : a.eval (.tmp 32) = .int .u32 ((n : Nat) : Int) := slot_in (hin 32 (by decide)) rfl
    have h33 : IsRow xs (a.eval (.tmp 33)) w1 := slot_in (hin 33 (by decide)) rfl
    have h28 : a.eval (.tmp 28) = .bool true := slot_in (hin 28 (by decide)) rfl
    clear hin
    exact .inl ⟨wanted_yes rfl rfl h28, grow_call Try.call13 #[a.eval (.tmp 32), a.eval (.tmp 33)] (by simp only [List.map_toArray, List.map_cons, List.map_nil]) (go_say h32 h33 hn (by omega))⟩
  · intro a w1 hG hin
    have h1 : a.eval (.tmp 1) = .slice q ys.length d := slot_out (hin 1 (by decide)) rfl
    have h28 : a.eval (.tmp 28) = .bool true := slot_in (hin 28 (by decide)) rfl
    clear hin
    refine .inl ⟨wanted_yes rfl rfl h28, ?_⟩
    refine grow_move rfl ?_
    rw [h1]
    exact hB.mono hG
  · intro a w1 hG hin
    have h34 : a.eval (.tmp 34) = .int .u32 ((go n xs : Nat) : Int) := slot_in (hin 34 (by decide)) rfl
    have h35 : IsRow ys (a.eval (.tmp 35)) w1 := slot_in (hin 35 (by decide)) rfl
    have h28 : a.eval (.tmp 28) = .bool true := slot_in (hin 28 (by decide)) rfl
    clear hin
    exact .inl ⟨wanted_yes rfl rfl h28, grow_call Try.call13 #[a.eval (.tmp 34), a.eval (.tmp 35)] (by simp only [List.map_toArray, List.map_cons, List.map_nil]) (go_say h34 h35 (go_lt hn hA.bytes) (by omega))⟩
  · intro a w1 hG hin
    have h31 : a.eval (.tmp 31) = .int .u32 ((go n (xs ++ ys) : Nat) : Int) := slot_in (hin 31 (by decide)) rfl
    have h36 : a.eval (.tmp 36) = .int .u32 ((go (go n xs) ys : Nat) : Int) := slot_in (hin 36 (by decide)) rfl
    have h28 : a.eval (.tmp 28) = .bool true := slot_in (hin 28 (by decide)) rfl
    clear hin
    refine .inl ⟨wanted_yes rfl rfl h28, ?_⟩
    exact grow_equ32 rfl Try.underlying25 h31 h36 (by rw [go_append, decide_eq_true rfl]; rfl)
  · intro a w1 hG hin
    have h28 : a.eval (.tmp 28) = .bool true := slot_in (hin 28 (by decide)) rfl
    have h37 : a.eval (.tmp 37) = .bool true := slot_in (hin 37 (by decide)) rfl
    clear hin
    exact .inl ⟨wanted_none rfl, grow_pick rfl h28 h37⟩
  · intro a w1 hG hin
    have h38 : a.eval (.tmp 38) = .bool true := slot_in (hin 38 (by decide)) rfl
    clear hin
    exact .inl ⟨wanted_none rfl, grow_move rfl h38⟩
  · intro a w1 hG hin
    have h2 : a.eval (.tmp 2) = .int .u32 ((n : Nat) : Int) := slot_out (hin 2 (by decide)) rfl
    have h39 : a.eval (.tmp 39) = .bool true := slot_in (hin 39 (by decide)) rfl
    clear hin
    exact .inl ⟨wanted_yes rfl rfl h39, grow_move rfl h2⟩
  · intro a w1 hG hin
    have h40 : a.eval (.tmp 40) = .int .u32 ((n : Nat) : Int) := slot_in (hin 40 (by decide)) rfl
    have h39 : a.eval (.tmp 39) = .bool true := slot_in (hin 39 (by decide)) rfl
    clear hin
    exact .inl ⟨wanted_yes rfl rfl h39, grow_call Try.call13 #[a.eval (.tmp 40), a.eval (.const (Value.slice none 0 0))] (by simp only [List.map_toArray, List.map_cons, List.map_nil]) (go_say h40 ⟨none, 0, rfl, Nat.zero_le _, RowAt.empty _⟩ hn (by simp))⟩
  · intro a w1 hG hin
    have h2 : a.eval (.tmp 2) = .int .u32 ((n : Nat) : Int) := slot_out (hin 2 (by decide)) rfl
    have h39 : a.eval (.tmp 39) = .bool true := slot_in (hin 39 (by decide)) rfl
    clear hin
    exact .inl ⟨wanted_yes rfl rfl h39, grow_move rfl h2⟩
  · intro a w1 hG hin
    have h41 : a.eval (.tmp 41) = .int .u32 ((go n [] : Nat) : Int) := slot_in (hin 41 (by decide)) rfl
    have h42 : a.eval (.tmp 42) = .int .u32 ((n : Nat) : Int) := slot_in (hin 42 (by decide)) rfl
    have h39 : a.eval (.tmp 39) = .bool true := slot_in (hin 39 (by decide)) rfl
    clear hin
    refine .inl ⟨wanted_yes rfl rfl h39, ?_⟩
    exact grow_equ32 rfl Try.underlying25 h41 h42 (by rw [go_nil, decide_eq_true rfl]; rfl)
  · intro a w1 hG hin
    have h39 : a.eval (.tmp 39) = .bool true := slot_in (hin 39 (by decide)) rfl
    have h43 : a.eval (.tmp 43) = .bool true := slot_in (hin 43 (by decide)) rfl
    clear hin
    exact .inl ⟨wanted_none rfl, grow_pick rfl h39 h43⟩
  · intro a w1 hG hin
    have h44 : a.eval (.tmp 44) = .bool true := slot_in (hin 44 (by decide)) rfl
    clear hin
    exact .inl ⟨wanted_none rfl, grow_move rfl h44⟩
  · intro a w1 hG hin
    have h10 : a.eval (.tmp 10) = .bool true := slot_out (hin 10 (by decide)) rfl
    have h45 : a.eval (.tmp 45) = .bool true := slot_in (hin 45 (by decide)) rfl
    clear hin
    exact .inl ⟨wanted_yes rfl rfl h45, grow_move rfl h10⟩
  · intro a w1 hG hin
    have h45 : a.eval (.tmp 45) = .bool true := slot_in (hin 45 (by decide)) rfl
    have h46 : a.eval (.tmp 46) = .bool true := slot_in (hin 46 (by decide)) rfl
    clear hin
    exact .inl ⟨wanted_none rfl, grow_pick rfl h45 h46⟩
  · intro a w1 hG hin
    have h47 : a.eval (.tmp 47) = .bool true := slot_in (hin 47 (by decide)) rfl
    clear hin
    exact .inl ⟨wanted_none rfl, grow_move rfl h47⟩
  · intro a w1 hG hin
    have h9 : a.eval (.tmp 9) = x := slot_out (hin 9 (by decide)) rfl
    have h48 : a.eval (.tmp 48) = .bool true := slot_in (hin 48 (by decide)) rfl
    clear hin
    refine .inl ⟨wanted_yes rfl rfl h48, ?_⟩
    refine grow_move rfl ?_
    rw [h9]
    exact hX.mono hG
  · intro a w1 hG hin
    have h49 : IsRow (xs ++ ys) (a.eval (.tmp 49)) w1 := slot_in (hin 49 (by decide)) rfl
    have h48 : a.eval (.tmp 48) = .bool true := slot_in (hin 48 (by decide)) rfl
    clear hin
    exact .inl ⟨wanted_yes rfl rfl h48, grow_convert rfl Try.underlying22 Try.underlying5 Try.underlying9 h49 rfl⟩
  · intro a w1 hG hin
    have h8 : a.eval (.tmp 8) = v2 := slot_out (hin 8 (by decide)) rfl
    have h48 : a.eval (.tmp 48) = .bool true := slot_in (hin 48 (by decide)) rfl
    clear hin
    refine .inl ⟨wanted_yes rfl rfl h48, ?_⟩
    refine grow_move rfl ?_
    rw [h8]
    exact hV.mono hG
  · intro a w1 hG hin
    have h51 : IsRow (xs ++ ys) (a.eval (.tmp 51)) w1 := slot_in (hin 51 (by decide)) rfl
    have h48 : a.eval (.tmp 48) = .bool true := slot_in (hin 48 (by decide)) rfl
    clear hin
    exact .inl ⟨wanted_yes rfl rfl h48, grow_convert rfl Try.underlying22 Try.underlying5 Try.underlying9 h51 rfl⟩
  · intro a w1 hG hin
    have h50 : a.eval (.tmp 50) = .string (str (xs ++ ys)) := slot_in (hin 50 (by decide)) rfl
    have h52 : a.eval (.tmp 52) = .string (str (xs ++ ys)) := slot_in (hin 52 (by decide)) rfl
    have h48 : a.eval (.tmp 48) = .bool true := slot_in (hin 48 (by decide)) rfl
    clear hin
    refine .inl ⟨wanted_yes rfl rfl h48, ?_⟩
    exact grow_eqstr rfl hV.bytes hV.bytes h50 h52 (by rw [decide_eq_true rfl]; rfl)
  · intro a w1 hG hin
    have h48 : a.eval (.tmp 48) = .bool true := slot_in (hin 48 (by decide)) rfl
    have h53 : a.eval (.tmp 53) = .bool true := slot_in (hin 53 (by decide)) rfl
    clear hin
    exact .inl ⟨wanted_none rfl, grow_pick rfl h48 h53⟩
  · intro a w1 hG hin
    have h54 : a.eval (.tmp 54) = .bool true := slot_in (hin 54 (by decide)) rfl
    clear hin
    exact .inl ⟨wanted_none rfl, grow_assign rfl h54⟩
  · intro s w2 hG hin hs
    have f6 : s 6 = .bool true := (hs 6 (by decide)).symm.trans (slot_in (hin 6) rfl)
    clear hin hs
    rw [show List.range 55 = [0, 1, 2, 3, 4, 5, 6, 7, 8, 9, 10, 11, 12, 13, 14, 15, 16, 17, 18, 19, 20, 21, 22, 23, 24, 25, 26, 27, 28, 29, 30, 31, 32, 33, 34, 35, 36, 37, 38, 39, 40, 41, 42, 43, 44, 45, 46, 47, 48, 49, 50, 51, 52, 53, 54] from rfl]
    simp only [List.map_cons, List.map_nil]
    rw [f6]
    go_wp2_with fail
    go_ret
    exact ⟨rfl, hG0.trans hG⟩
end Go.Proofs.Ytoodfngcfdhnfaa
