/-
  The document's May: whether an instruction may be; its name. No conditions but that the kind is an int.
-/
import Derived.Test.YtpeioflembhedaaDoorRef
import Derived.Test.YtpeioflembhedaaDoorFlow2
namespace Go.Proofs.YtpeioflembhedaaDoor
open Go.RowKit
section
variable {ops : Array Oper} {a : Act} {w : World} {o : Oper}
theorem pure_eqint_to {x y : Operand} {m n : Int} {b : Bool} (hw : Region.wanted o (yielded ops a.tmps) = true) (h : o.op = .binOp .eql 3 x y 3) (hx : a.eval x = .int .i64 m) (hy : a.eval y = .int .i64 n) (hb : decide (m = n) = b) : pureAt Tryd.prog ops o a w (.bool b) := by
  subst hb
  exact pure_eqint hw h hx hy
theorem pure_nebool {x y : Operand} {b : Bool} (hw : Region.wanted o (yielded ops a.tmps) = true) (h : o.op = .binOp .neq 4 x y 4) (hx : a.eval x = .bool b) (hy : a.eval y = .bool b) : pureAt Tryd.prog ops o a w (.bool false) := by
  refine pure_run hw ?_
  unfold execOp
  rw [h]
  simp only [hx, hy]
  cases b <;> simp [go_sem, Tryd.underlying4]
theorem pure_netext {x y : Operand} {s : ByteArray} (hw : Region.wanted o (yielded ops a.tmps) = true) (h : o.op = .binOp .neq 9 x y 9) (hx : a.eval x = .string s) (hy : a.eval y = .string s) : pureAt Tryd.prog ops o a w (.bool false) := by
  refine pure_run hw ?_
  unfold execOp
  rw [h]
  simp only [hx, hy]
  simp [go_sem, Tryd.underlying9]
theorem pure_addr23_0 {x : Operand} {b off : Nat} (hw : Region.wanted o (yielded ops a.tmps) = true) (h : o.op = .fieldAddr 23 x 0) (hx : a.eval x = .pointer (some ⟨b, off, none⟩)) : pureAt Tryd.prog ops o a w (.pointer (some ⟨b, off, none⟩)) := by
  refine pure_run hw ?_
  unfold execOp
  rw [h]
  simp only [hx]
  simp [go_sem]
end
theorem numb_to2 {had : Bool} {n : Int} {y : Bool} (h : numR had n = y) (w : World) : Calls Tryd.prog 45 #[.bool had, .int .i64 n] w fun e w' => e = .returned (.bool y) ∧ w = w' := by
  subst h
  exact numb_ref had n w
theorem hasS_to {o : Int} {y : Bool} (h : hasS o = y) (w : World) : Calls Tryd.prog 35 #[.int .i64 o] w fun e w' => e = .returned (.bool y) ∧ w = w' := by
  subst h
  exact hasS_any o w

set_option maxRecDepth 100000 in
set_option maxHeartbeats 2000000 in
theorem may_ref (o a b : Int) (s : ByteArray) (w : World) : Calls Tryd.prog 18 #[V o a b s] w fun e w' => e = .returned (.bool (mayR o a b s)) ∧ G w w' := by
  have HM : Hid (mayR o a b s = (decide (1 ≤ o) && decide (o ≤ 23) && (decide (o = 2) || numR (hasA o) a) && numR (hasB o) b && ((hasS o && decide (s.size ≤ 40)) || s.toList == []))) := hid (by
    unfold mayR
    congr 1
    exact Bool.or_comm _ _)
  rw [HM.out]
  clear HM
  unfold V
  have BX := hid (At.alloc w o a b s)
  have HG := hid ((G.refl w).alloc (.cells #[.int .i64 o, .int .i64 a, .int .i64 b, .string s] 23))
  rcases (show o < 1 ∨ (1 ≤ o ∧ 23 < o) ∨ (1 ≤ o ∧ o ≤ 23) by omega) with h | ⟨h, h2⟩ | ⟨h, h2⟩
  · rw [decide_eq_false (show ¬ 1 ≤ o by omega)]
    go_enter Tryd.func18, Tryd.ntmps18
    go_wp2_with fail
    go_ret
    exact ⟨rfl, HG.out⟩
  · rw [decide_eq_false (show ¬ o ≤ 23 by omega), Bool.and_false]
    go_enter Tryd.func18, Tryd.ntmps18
    go_wp2_with fail
    go_ret
    exact ⟨rfl, HG.out⟩
  · rw [decide_eq_true h, decide_eq_true h2]
    obtain ⟨zs, hzs⟩ : ∃ z, Hid (hasS o = z) := ⟨_, rfl⟩
    obtain ⟨zl, hzl⟩ : ∃ z, decide (s.size ≤ 40) = z := ⟨_, rfl⟩
    have hzl2 : decide ((s.size : Int) ≤ 40) = zl := by rw [← hzl]; exact decide_eq_decide.2 (by omega)
    obtain ⟨ze, hze⟩ : ∃ z, (s.toList == []) = z := ⟨_, rfl⟩
    obtain ⟨t, ht⟩ : ∃ t, Hid ((zs && zl || ze) = t) := ⟨_, rfl⟩
    rw [hzs.out, hzl, hze, ht.out]
    obtain ⟨y, HY⟩ : ∃ y, Hid (numR (hasB o) b = y) := ⟨_, rfl⟩
    obtain ⟨z2, HO2⟩ : ∃ z, Hid (decide (o = 2) = z) := ⟨_, rfl⟩
    obtain ⟨x, HX⟩ : ∃ x, Hid ((z2 || numR (hasA o) a) = x) := ⟨_, rfl⟩
    rw [HY.out, HO2.out, HX.out]
    go_enter Tryd.func18, Tryd.ntmps18
    go_upto_region 3 with (fail)
    go_cut [3] from 13 to 26 (fun b3 wc => b3 = .bool t ∧ wc = w.alloc (.cells #[.int .i64 o, .int .i64 a, .int .i64 b, .string s] 23))
    case first =>
      go_wp2_with fail
      refine (hasS_to hzs.out _).mono ?_
      rintro e w1 ⟨rfl, rfl⟩
      have hT := ht.out
      cases zs
      · go_wp2_with fail
        go_meet
        case rel => exact ⟨by rw [← hT]; simp, rfl⟩
      · cases zl
        all_goals (
          go_wp2_with fail
          go_meet
          case rel => exact ⟨by rw [← hT]; simp, rfl⟩)
    case rest =>
      obtain ⟨rfl, rfl⟩ := hcut
      clear hzs hzl hzl2 hze ht
      generalize w.alloc (.cells #[.int .i64 o, .int .i64 a, .int .i64 b, .string s] 23) = w1 at BX HG ⊢
      go_upto_region 4 with (fail)
      go_cut [4] from 27 to 37 (fun b4 wc => b4 = .bool x ∧ At wc w.heap.size 0 o a b s ∧ G w wc)
      case first =>
        have x0 := BX.out.mono (G.drew (G.refl w1))
        have g0 := HG.out.drew
        have hX := HX.out
        cases z2
        · refine wp_region_chainK 50 [0, 1, 2, 3, 4, 5, 7, 8, 10, 11] [6, 9] [0, 2, 3, 4, 7, 10, 11] [6, 9] (fun _ _ => false) [27, 28, 29, 30, 31, 32, 33, 34, 35, 36, 37, 4] (fun j => if j = 0 then [1, 5, 8] else if j = 1 then [8] else []) (fun i => if i = 0 ∨ i = 4 then .pointer (some ⟨w.heap.size, 0, none⟩) else if i = 1 ∨ i = 5 then .int .i64 o else if i = 2 ∨ i = 3 then .bool false else if i = 7 then .pointer (some ⟨w.heap.size, 1, none⟩) else if i = 8 then .int .i64 a else if i = 10 ∨ i = 11 ∨ i = 9 then .bool (numR (hasA o) a) else .bool (hasA o)) (by kernel_rfl) (by kernel_rfl) (by kernel_rfl) rfl ?_ ?_
          · intro w9
            refine ⟨⟨_, rfl, fun ac hin => ?_⟩, ⟨_, rfl, fun ac hin => ?_⟩, ⟨_, rfl, fun ac hin => ?_⟩, ⟨_, rfl, fun ac hin => ?_⟩, ⟨_, rfl, fun ac hin => ?_⟩, ⟨_, rfl, fun ac hin => ?_⟩, ⟨_, rfl, fun ac hin => ?_⟩, trivial⟩
            · have h1 : ac.eval (.tmp 1) = .pointer (some ⟨w.heap.size, 0, none⟩) := hin 1 (by decide)
              exact pure_addr rfl rfl (by decide) h1
            · have h28 : ac.eval (.tmp 28) = .int .i64 o := hin 28 (by decide)
              exact pure_eqint_to rfl rfl h28 rfl HO2.out
            · have h29 : ac.eval (.tmp 29) = .bool false := hin 29 (by decide)
              exact pure_move rfl rfl h29
            · have h1 : ac.eval (.tmp 1) = .pointer (some ⟨w.heap.size, 0, none⟩) := hin 1 (by decide)
              have h30 : ac.eval (.tmp 30) = .bool false := hin 30 (by decide)
              exact pure_addr (wanted_yes rfl rfl h30) rfl (by decide) h1
            · have h1 : ac.eval (.tmp 1) = .pointer (some ⟨w.heap.size, 0, none⟩) := hin 1 (by decide)
              have h30 : ac.eval (.tmp 30) = .bool false := hin 30 (by decide)
              exact pure_addr (wanted_yes rfl rfl h30) rfl (by decide) h1
            · have h30 : ac.eval (.tmp 30) = .bool false := hin 30 (by decide)
              have h36 : ac.eval (.tmp 36) = .bool (numR (hasA o) a) := hin 36 (by decide)
              exact pure_pick rfl rfl h30 h36
            · have h37 : ac.eval (.tmp 37) = .bool (numR (hasA o) a) := hin 37 (by decide)
              exact pure_assign rfl rfl h37
          · skip
            refine ⟨⟨⟨_, rfl, fun ac hin => ?_⟩, ⟨_, rfl, fun ac hin => ?_⟩, ⟨_, rfl, fun ac hin => ?_⟩, trivial⟩, _, rfl, fun ac hin => ?_⟩
            · have h27 : ac.eval (.tmp 27) = .pointer (some ⟨w.heap.size, 0, none⟩) := hin 27 (by decide)
              exact pure_load3 rfl rfl h27 x0.c0
            · have h31 : ac.eval (.tmp 31) = .pointer (some ⟨w.heap.size, 0, none⟩) := hin 31 (by decide)
              have h30 : ac.eval (.tmp 30) = .bool false := hin 30 (by decide)
              exact pure_load3 (wanted_yes rfl rfl h30) rfl h31 x0.c0
            · have h34 : ac.eval (.tmp 34) = .pointer (some ⟨w.heap.size, 1, none⟩) := hin 34 (by decide)
              have h30 : ac.eval (.tmp 30) = .bool false := hin 30 (by decide)
              exact pure_load3 (wanted_yes rfl rfl h30) rfl h34 x0.c1
            have h32 : ac.eval (.tmp 32) = .int .i64 o := hin 32 (by decide)
            have h30 : ac.eval (.tmp 30) = .bool false := hin 30 (by decide)
            refine ⟨(wanted_yes rfl rfl h30), ?_⟩
            refine eff_call Tryd.call33 #[.int .i64 o] (by simp only [List.map_toArray, List.map_cons, List.map_nil, h32]; try rfl) ((hasA_any o _).mono ?_)
            rintro e w4 ⟨rfl, g4⟩
            refine ⟨_, rfl, ?_⟩
            have x1 := x0.mono g4
            refine ⟨fun _ => rfl, ?_⟩
            refine ⟨⟨⟨_, rfl, fun ac hin => ?_⟩, trivial⟩, _, rfl, fun ac hin => ?_⟩
            · have h34 : ac.eval (.tmp 34) = .pointer (some ⟨w.heap.size, 1, none⟩) := hin 34 (by decide)
              have h30 : ac.eval (.tmp 30) = .bool false := hin 30 (by decide)
              exact pure_load3 (wanted_yes rfl rfl h30) rfl h34 x1.c1
            have h33 : ac.eval (.tmp 33) = .bool (hasA o) := hin 33 (by decide)
            have h35 : ac.eval (.tmp 35) = .int .i64 a := hin 35 (by decide)
            have h30 : ac.eval (.tmp 30) = .bool false := hin 30 (by decide)
            refine ⟨(wanted_yes rfl rfl h30), ?_⟩
            refine eff_call Tryd.call45 #[.bool (hasA o), .int .i64 a] (by simp only [List.map_toArray, List.map_cons, List.map_nil, h33, h35]; try rfl) ((numb_ref (hasA o) a _).mono ?_)
            rintro e w5 ⟨rfl, rfl⟩
            refine ⟨_, rfl, ?_⟩
            have x2 := x1
            refine ⟨fun _ => rfl, ?_⟩
            refine ⟨trivial, fun s' hs => ?_⟩
            have h4 : s' 4 = .bool (numR (hasA o) a) := hs 4 (by decide)
            clear hs
            simp only [putAll, List.foldl_cons, List.foldl_nil]
            rw [h4]
            simp only [Act.put, List.setIfInBounds_toArray, List.set_cons_succ, List.set_cons_zero]
            clear h4
            go_wp2_with fail
            go_meet
            case rel => exact ⟨by rw [← hX]; simp, x2, g0.trans g4⟩
        · refine wp_region_chainK 50 [0, 1, 2, 3, 4, 5, 6, 7, 8, 9, 10, 11] [] [0, 2, 3, 4, 5, 6, 7, 8, 9, 10, 11] [] (fun _ _ => false) [27, 28, 29, 30, 31, 32, 33, 34, 35, 36, 37, 4] (fun j => [1]) (fun i => if i = 0 then .pointer (some ⟨w.heap.size, 0, none⟩) else if i = 1 then .int .i64 o else if i = 2 ∨ i = 3 ∨ i = 10 ∨ i = 11 then .bool true else undef) (by kernel_rfl) (by kernel_rfl) (by kernel_rfl) rfl ?_ ?_
          · intro w9
            refine ⟨⟨_, rfl, fun ac hin => ?_⟩, ⟨_, rfl, fun ac hin => ?_⟩, ⟨_, rfl, fun ac hin => ?_⟩, ⟨_, rfl, fun ac hin => ?_⟩, ⟨_, rfl, fun ac hin => ?_⟩, ⟨_, rfl, fun ac hin => ?_⟩, ⟨_, rfl, fun ac hin => ?_⟩, ⟨_, rfl, fun ac hin => ?_⟩, ⟨_, rfl, fun ac hin => ?_⟩, ⟨_, rfl, fun ac hin => ?_⟩, ⟨_, rfl, fun ac hin => ?_⟩, trivial⟩
            · have h1 : ac.eval (.tmp 1) = .pointer (some ⟨w.heap.size, 0, none⟩) := hin 1 (by decide)
              exact pure_addr rfl rfl (by decide) h1
            · have h28 : ac.eval (.tmp 28) = .int .i64 o := hin 28 (by decide)
              exact pure_eqint_to rfl rfl h28 rfl HO2.out
            · have h29 : ac.eval (.tmp 29) = .bool true := hin 29 (by decide)
              exact pure_move rfl rfl h29
            · have h30 : ac.eval (.tmp 30) = .bool true := hin 30 (by decide)
              exact pure_skip (wanted_no (b := false) rfl rfl h30)
            · have h30 : ac.eval (.tmp 30) = .bool true := hin 30 (by decide)
              exact pure_skip (wanted_no (b := false) rfl rfl h30)
            · have h30 : ac.eval (.tmp 30) = .bool true := hin 30 (by decide)
              exact pure_skip (wanted_no (b := false) rfl rfl h30)
            · have h30 : ac.eval (.tmp 30) = .bool true := hin 30 (by decide)
              exact pure_skip (wanted_no (b := false) rfl rfl h30)
            · have h30 : ac.eval (.tmp 30) = .bool true := hin 30 (by decide)
              exact pure_skip (wanted_no (b := false) rfl rfl h30)
            · have h30 : ac.eval (.tmp 30) = .bool true := hin 30 (by decide)
              exact pure_skip (wanted_no (b := false) rfl rfl h30)
            · have h30 : ac.eval (.tmp 30) = .bool true := hin 30 (by decide)
              have h36 : ac.eval (.tmp 36) = undef := hin 36 (by decide)
              exact pure_pick rfl rfl h30 rfl
            · have h37 : ac.eval (.tmp 37) = .bool true := hin 37 (by decide)
              exact pure_assign rfl rfl h37
          · skip
            refine ⟨⟨⟨_, rfl, fun ac hin => ?_⟩, trivial⟩, fun s' hs => ?_⟩
            · have h27 : ac.eval (.tmp 27) = .pointer (some ⟨w.heap.size, 0, none⟩) := hin 27 (by decide)
              exact pure_load3 rfl rfl h27 x0.c0
            have h4 : s' 4 = .bool true := hs 4 (by decide)
            clear hs
            simp only [putAll, List.foldl_cons, List.foldl_nil]
            rw [h4]
            simp only [Act.put, List.setIfInBounds_toArray, List.set_cons_succ, List.set_cons_zero]
            clear h4
            go_wp2_with fail
            go_meet
            case rel => exact ⟨by rw [← hX]; simp, x0, g0⟩
      case rest =>
        obtain ⟨rfl, hx1, hg1⟩ := hcut
        clear BX HG HX HO2
        have BX := hid hx1
        have HG := hid hg1
        clear hx1 hg1
        cases x
        · go_upto_region 5 with (fail)
          have x0 := BX.out.mono (G.drew (G.refl _))
          have g0 := HG.out.drew
          refine wp_region_chainK 50 [0, 1, 2, 3, 4, 5, 6, 7, 8, 9, 10, 11, 12] [] [0, 1, 2, 3, 4, 5, 6, 7, 8, 9, 10, 11, 12] [] (fun _ _ => false) [38, 39, 40, 41, 42, 43, 44, 45, 46, 47, 48, 49, 2] (fun j => []) (fun i => if i = 0 ∨ i = 1 ∨ i = 8 ∨ i = 9 ∨ i = 11 ∨ i = 12 then .bool false else undef) (by kernel_rfl) (by kernel_rfl) (by kernel_rfl) rfl ?_ ?_
          · intro w9
            refine ⟨⟨_, rfl, fun ac hin => ?_⟩, ⟨_, rfl, fun ac hin => ?_⟩, ⟨_, rfl, fun ac hin => ?_⟩, ⟨_, rfl, fun ac hin => ?_⟩, ⟨_, rfl, fun ac hin => ?_⟩, ⟨_, rfl, fun ac hin => ?_⟩, ⟨_, rfl, fun ac hin => ?_⟩, ⟨_, rfl, fun ac hin => ?_⟩, ⟨_, rfl, fun ac hin => ?_⟩, ⟨_, rfl, fun ac hin => ?_⟩, ⟨_, rfl, fun ac hin => ?_⟩, ⟨_, rfl, fun ac hin => ?_⟩, ⟨_, rfl, fun ac hin => ?_⟩, trivial⟩
            · have h4 : ac.eval (.tmp 4) = .bool false := hin 4 (by decide)
              exact pure_move rfl rfl h4
            · have h38 : ac.eval (.tmp 38) = .bool false := hin 38 (by decide)
              exact pure_move rfl rfl h38
            · have h39 : ac.eval (.tmp 39) = .bool false := hin 39 (by decide)
              exact pure_skip (wanted_no (b := true) rfl rfl h39)
            · have h39 : ac.eval (.tmp 39) = .bool false := hin 39 (by decide)
              exact pure_skip (wanted_no (b := true) rfl rfl h39)
            · have h39 : ac.eval (.tmp 39) = .bool false := hin 39 (by decide)
              exact pure_skip (wanted_no (b := true) rfl rfl h39)
            · have h39 : ac.eval (.tmp 39) = .bool false := hin 39 (by decide)
              exact pure_skip (wanted_no (b := true) rfl rfl h39)
            · have h39 : ac.eval (.tmp 39) = .bool false := hin 39 (by decide)
              exact pure_skip (wanted_no (b := true) rfl rfl h39)
            · have h39 : ac.eval (.tmp 39) = .bool false := hin 39 (by decide)
              exact pure_skip (wanted_no (b := true) rfl rfl h39)
            · have h39 : ac.eval (.tmp 39) = .bool false := hin 39 (by decide)
              have h45 : ac.eval (.tmp 45) = undef := hin 45 (by decide)
              exact pure_pick rfl rfl h39 rfl
            · have h46 : ac.eval (.tmp 46) = .bool false := hin 46 (by decide)
              exact pure_move rfl rfl h46
            · have h47 : ac.eval (.tmp 47) = .bool false := hin 47 (by decide)
              exact pure_skip (wanted_no (b := true) rfl rfl h47)
            · have h47 : ac.eval (.tmp 47) = .bool false := hin 47 (by decide)
              have h48 : ac.eval (.tmp 48) = undef := hin 48 (by decide)
              exact pure_pick rfl rfl h47 rfl
            · have h49 : ac.eval (.tmp 49) = .bool false := hin 49 (by decide)
              exact pure_assign rfl rfl h49
          · skip
            refine ⟨trivial, fun s' hs => ?_⟩
            have h2 : s' 2 = .bool false := hs 2 (by decide)
            clear hs
            simp only [putAll, List.foldl_cons, List.foldl_nil]
            rw [h2]
            simp only [Act.put, List.setIfInBounds_toArray, List.set_cons_succ, List.set_cons_zero]
            clear h2
            go_wp2_with fail
            go_ret
            exact ⟨by simp, g0⟩
        · cases y
          · go_upto_region 5 with (fail)
            have x0 := BX.out.mono (G.drew (G.refl _))
            have g0 := HG.out.drew
            refine wp_region_chainK 50 [0, 1, 2, 3, 5, 6, 8, 9, 10, 11, 12] [4, 7] [0, 1, 2, 5, 8, 9, 10, 11, 12] [4, 7] (fun _ _ => false) [38, 39, 40, 41, 42, 43, 44, 45, 46, 47, 48, 49, 2] (fun j => if j = 0 then [3, 6] else if j = 1 then [6] else []) (fun i => if i = 0 ∨ i = 1 then .bool true else if i = 2 then .pointer (some ⟨w.heap.size, 0, none⟩) else if i = 3 then .int .i64 o else if i = 5 then .pointer (some ⟨w.heap.size, 2, none⟩) else if i = 6 then .int .i64 b else if i = 8 ∨ i = 9 ∨ i = 11 ∨ i = 12 ∨ i = 7 then .bool false else if i = 10 then undef else .bool (hasB o)) (by kernel_rfl) (by kernel_rfl) (by kernel_rfl) rfl ?_ ?_
            · intro w9
              refine ⟨⟨_, rfl, fun ac hin => ?_⟩, ⟨_, rfl, fun ac hin => ?_⟩, ⟨_, rfl, fun ac hin => ?_⟩, ⟨_, rfl, fun ac hin => ?_⟩, ⟨_, rfl, fun ac hin => ?_⟩, ⟨_, rfl, fun ac hin => ?_⟩, ⟨_, rfl, fun ac hin => ?_⟩, ⟨_, rfl, fun ac hin => ?_⟩, ⟨_, rfl, fun ac hin => ?_⟩, trivial⟩
              · have h4 : ac.eval (.tmp 4) = .bool true := hin 4 (by decide)
                exact pure_move rfl rfl h4
              · have h38 : ac.eval (.tmp 38) = .bool true := hin 38 (by decide)
                exact pure_move rfl rfl h38
              · have h1 : ac.eval (.tmp 1) = .pointer (some ⟨w.heap.size, 0, none⟩) := hin 1 (by decide)
                have h39 : ac.eval (.tmp 39) = .bool true := hin 39 (by decide)
                exact pure_addr (wanted_yes rfl rfl h39) rfl (by decide) h1
              · have h1 : ac.eval (.tmp 1) = .pointer (some ⟨w.heap.size, 0, none⟩) := hin 1 (by decide)
                have h39 : ac.eval (.tmp 39) = .bool true := hin 39 (by decide)
                exact pure_addr (wanted_yes rfl rfl h39) rfl (by decide) h1
              · have h39 : ac.eval (.tmp 39) = .bool true := hin 39 (by decide)
                have h45 : ac.eval (.tmp 45) = .bool false := hin 45 (by decide)
                exact pure_pick rfl rfl h39 h45
              · have h46 : ac.eval (.tmp 46) = .bool false := hin 46 (by decide)
                exact pure_move rfl rfl h46
              · have h47 : ac.eval (.tmp 47) = .bool false := hin 47 (by decide)
                exact pure_skip (wanted_no (b := true) rfl rfl h47)
              · have h47 : ac.eval (.tmp 47) = .bool false := hin 47 (by decide)
                have h48 : ac.eval (.tmp 48) = undef := hin 48 (by decide)
                exact pure_pick rfl rfl h47 rfl
              · have h49 : ac.eval (.tmp 49) = .bool false := hin 49 (by decide)
                exact pure_assign rfl rfl h49
            · skip
              refine ⟨⟨⟨_, rfl, fun ac hin => ?_⟩, ⟨_, rfl, fun ac hin => ?_⟩, trivial⟩, _, rfl, fun ac hin => ?_⟩
              · have h40 : ac.eval (.tmp 40) = .pointer (some ⟨w.heap.size, 0, none⟩) := hin 40 (by decide)
                have h39 : ac.eval (.tmp 39) = .bool true := hin 39 (by decide)
                exact pure_load3 (wanted_yes rfl rfl h39) rfl h40 x0.c0
              · have h43 : ac.eval (.tmp 43) = .pointer (some ⟨w.heap.size, 2, none⟩) := hin 43 (by decide)
                have h39 : ac.eval (.tmp 39) = .bool true := hin 39 (by decide)
                exact pure_load3 (wanted_yes rfl rfl h39) rfl h43 x0.c2
              have h41 : ac.eval (.tmp 41) = .int .i64 o := hin 41 (by decide)
              have h39 : ac.eval (.tmp 39) = .bool true := hin 39 (by decide)
              refine ⟨(wanted_yes rfl rfl h39), ?_⟩
              refine eff_call Tryd.call34 #[.int .i64 o] (by simp only [List.map_toArray, List.map_cons, List.map_nil, h41]; try rfl) ((hasB_any o _).mono ?_)
              rintro e w6 ⟨rfl, rfl⟩
              refine ⟨_, rfl, ?_⟩
              have x1 := x0
              refine ⟨fun _ => rfl, ?_⟩
              refine ⟨⟨⟨_, rfl, fun ac hin => ?_⟩, trivial⟩, _, rfl, fun ac hin => ?_⟩
              · have h43 : ac.eval (.tmp 43) = .pointer (some ⟨w.heap.size, 2, none⟩) := hin 43 (by decide)
                have h39 : ac.eval (.tmp 39) = .bool true := hin 39 (by decide)
                exact pure_load3 (wanted_yes rfl rfl h39) rfl h43 x1.c2
              have h42 : ac.eval (.tmp 42) = .bool (hasB o) := hin 42 (by decide)
              have h44 : ac.eval (.tmp 44) = .int .i64 b := hin 44 (by decide)
              have h39 : ac.eval (.tmp 39) = .bool true := hin 39 (by decide)
              refine ⟨(wanted_yes rfl rfl h39), ?_⟩
              refine eff_call Tryd.call45 #[.bool (hasB o), .int .i64 b] (by simp only [List.map_toArray, List.map_cons, List.map_nil, h42, h44]; try rfl) ((numb_to2 HY.out _).mono ?_)
              rintro e w7 ⟨rfl, rfl⟩
              refine ⟨_, rfl, ?_⟩
              have x2 := x1
              refine ⟨fun _ => rfl, ?_⟩
              refine ⟨trivial, fun s' hs => ?_⟩
              have h2 : s' 2 = .bool false := hs 2 (by decide)
              clear hs
              simp only [putAll, List.foldl_cons, List.foldl_nil]
              rw [h2]
              simp only [Act.put, List.setIfInBounds_toArray, List.set_cons_succ, List.set_cons_zero]
              clear h2
              go_wp2_with fail
              go_ret
              exact ⟨by simp, g0⟩
          · go_upto_region 5 with (fail)
            have x0 := BX.out.mono (G.drew (G.refl _))
            have g0 := HG.out.drew
            refine wp_region_chainK 50 [0, 1, 2, 3, 5, 6, 8, 9, 10, 11, 12] [4, 7] [0, 1, 2, 5, 8, 9, 10, 11, 12] [4, 7] (fun _ _ => false) [38, 39, 40, 41, 42, 43, 44, 45, 46, 47, 48, 49, 2] (fun j => if j = 0 then [3, 6] else if j = 1 then [6] else []) (fun i => if i = 0 ∨ i = 1 ∨ i = 8 ∨ i = 9 ∨ i = 7 then .bool true else if i = 2 then .pointer (some ⟨w.heap.size, 0, none⟩) else if i = 3 then .int .i64 o else if i = 5 then .pointer (some ⟨w.heap.size, 2, none⟩) else if i = 6 then .int .i64 b else if i = 10 ∨ i = 11 ∨ i = 12 then .bool t else .bool (hasB o)) (by kernel_rfl) (by kernel_rfl) (by kernel_rfl) rfl ?_ ?_
            · intro w9
              refine ⟨⟨_, rfl, fun ac hin => ?_⟩, ⟨_, rfl, fun ac hin => ?_⟩, ⟨_, rfl, fun ac hin => ?_⟩, ⟨_, rfl, fun ac hin => ?_⟩, ⟨_, rfl, fun ac hin => ?_⟩, ⟨_, rfl, fun ac hin => ?_⟩, ⟨_, rfl, fun ac hin => ?_⟩, ⟨_, rfl, fun ac hin => ?_⟩, ⟨_, rfl, fun ac hin => ?_⟩, trivial⟩
              · have h4 : ac.eval (.tmp 4) = .bool true := hin 4 (by decide)
                exact pure_move rfl rfl h4
              · have h38 : ac.eval (.tmp 38) = .bool true := hin 38 (by decide)
                exact pure_move rfl rfl h38
              · have h1 : ac.eval (.tmp 1) = .pointer (some ⟨w.heap.size, 0, none⟩) := hin 1 (by decide)
                have h39 : ac.eval (.tmp 39) = .bool true := hin 39 (by decide)
                exact pure_addr (wanted_yes rfl rfl h39) rfl (by decide) h1
              · have h1 : ac.eval (.tmp 1) = .pointer (some ⟨w.heap.size, 0, none⟩) := hin 1 (by decide)
                have h39 : ac.eval (.tmp 39) = .bool true := hin 39 (by decide)
                exact pure_addr (wanted_yes rfl rfl h39) rfl (by decide) h1
              · have h39 : ac.eval (.tmp 39) = .bool true := hin 39 (by decide)
                have h45 : ac.eval (.tmp 45) = .bool true := hin 45 (by decide)
                exact pure_pick rfl rfl h39 h45
              · have h46 : ac.eval (.tmp 46) = .bool true := hin 46 (by decide)
                exact pure_move rfl rfl h46
              · have h3 : ac.eval (.tmp 3) = .bool t := hin 3 (by decide)
                have h47 : ac.eval (.tmp 47) = .bool true := hin 47 (by decide)
                exact pure_move (wanted_yes rfl rfl h47) rfl h3
              · have h47 : ac.eval (.tmp 47) = .bool true := hin 47 (by decide)
                have h48 : ac.eval (.tmp 48) = .bool t := hin 48 (by decide)
                exact pure_pick rfl rfl h47 h48
              · have h49 : ac.eval (.tmp 49) = .bool t := hin 49 (by decide)
                exact pure_assign rfl rfl h49
            · skip
              refine ⟨⟨⟨_, rfl, fun ac hin => ?_⟩, ⟨_, rfl, fun ac hin => ?_⟩, trivial⟩, _, rfl, fun ac hin => ?_⟩
              · have h40 : ac.eval (.tmp 40) = .pointer (some ⟨w.heap.size, 0, none⟩) := hin 40 (by decide)
                have h39 : ac.eval (.tmp 39) = .bool true := hin 39 (by decide)
                exact pure_load3 (wanted_yes rfl rfl h39) rfl h40 x0.c0
              · have h43 : ac.eval (.tmp 43) = .pointer (some ⟨w.heap.size, 2, none⟩) := hin 43 (by decide)
                have h39 : ac.eval (.tmp 39) = .bool true := hin 39 (by decide)
                exact pure_load3 (wanted_yes rfl rfl h39) rfl h43 x0.c2
              have h41 : ac.eval (.tmp 41) = .int .i64 o := hin 41 (by decide)
              have h39 : ac.eval (.tmp 39) = .bool true := hin 39 (by decide)
              refine ⟨(wanted_yes rfl rfl h39), ?_⟩
              refine eff_call Tryd.call34 #[.int .i64 o] (by simp only [List.map_toArray, List.map_cons, List.map_nil, h41]; try rfl) ((hasB_any o _).mono ?_)
              rintro e w6 ⟨rfl, rfl⟩
              refine ⟨_, rfl, ?_⟩
              have x1 := x0
              refine ⟨fun _ => rfl, ?_⟩
              refine ⟨⟨⟨_, rfl, fun ac hin => ?_⟩, trivial⟩, _, rfl, fun ac hin => ?_⟩
              · have h43 : ac.eval (.tmp 43) = .pointer (some ⟨w.heap.size, 2, none⟩) := hin 43 (by decide)
                have h39 : ac.eval (.tmp 39) = .bool true := hin 39 (by decide)
                exact pure_load3 (wanted_yes rfl rfl h39) rfl h43 x1.c2
              have h42 : ac.eval (.tmp 42) = .bool (hasB o) := hin 42 (by decide)
              have h44 : ac.eval (.tmp 44) = .int .i64 b := hin 44 (by decide)
              have h39 : ac.eval (.tmp 39) = .bool true := hin 39 (by decide)
              refine ⟨(wanted_yes rfl rfl h39), ?_⟩
              refine eff_call Tryd.call45 #[.bool (hasB o), .int .i64 b] (by simp only [List.map_toArray, List.map_cons, List.map_nil, h42, h44]; try rfl) ((numb_to2 HY.out _).mono ?_)
              rintro e w7 ⟨rfl, rfl⟩
              refine ⟨_, rfl, ?_⟩
              have x2 := x1
              refine ⟨fun _ => rfl, ?_⟩
              refine ⟨trivial, fun s' hs => ?_⟩
              have h2 : s' 2 = .bool t := hs 2 (by decide)
              clear hs
              simp only [putAll, List.foldl_cons, List.foldl_nil]
              rw [h2]
              simp only [Act.put, List.setIfInBounds_toArray, List.set_cons_succ, List.set_cons_zero]
              clear h2
              go_wp2_with fail
              go_ret
              exact ⟨by simp, g0⟩
end Go.Proofs.YtpeioflembhedaaDoor
