/-
  Same of two codes that are the same; short. No conditions but on sizes.
-/
import Derived.Test.YtpeioflembhedaaDoorTake
namespace Go.Proofs.YtpeioflembhedaaDoor
open Go.RowKit
section
variable {ops : Array Oper} {a : Act} {w : World} {o : Oper}
theorem pure_index25 {x y : Operand} {bk off n c k : Nat} (hw : Region.wanted o (yielded ops a.tmps) = true) (h : o.op = .indexAddr 25 x y) (hx : a.eval x = .slice (some ⟨bk, off, none⟩) n c) (hy : a.eval y = .int .i64 k) (hk : k < n) : pureAt Tryd.prog ops o a w (.pointer (some ⟨bk, off + k * 4, none⟩)) := by
  refine pure_run hw ?_
  unfold execOp
  rw [h]
  simp only [hx, hy]
  have e : (k : Int) < (n : Int) := by omega
  have e2 : (0 : Int) ≤ (k : Int) := by omega
  simp [go_sem, Tryd.underlying25, e, e2, hk]
theorem pure_index26 {x y : Operand} {bk off n c k : Nat} (hw : Region.wanted o (yielded ops a.tmps) = true) (h : o.op = .indexAddr 26 x y) (hx : a.eval x = .slice (some ⟨bk, off, none⟩) n c) (hy : a.eval y = .int .i64 k) (hk : k < n) : pureAt Tryd.prog ops o a w (.pointer (some ⟨bk, off + k, none⟩)) := by
  refine pure_run hw ?_
  unfold execOp
  rw [h]
  simp only [hx, hy]
  have e : (k : Int) < (n : Int) := by omega
  have e2 : (0 : Int) ≤ (k : Int) := by omega
  simp [go_sem, Tryd.underlying26, e, e2, hk]
theorem pure_loadI {x : Operand} {bk off : Nat} {i : I} (hw : Region.wanted o (yielded ops a.tmps) = true) (h : o.op = .load 23 x) (hx : a.eval x = .pointer (some ⟨bk, off, none⟩)) (hc : InsAt w bk off i) : pureAt Tryd.prog ops o a w (.agg #[.int .i64 i.1, .int .i64 i.2.1, .int .i64 i.2.2.1, .string i.2.2.2]) := by
  refine pure_run hw ?_
  obtain ⟨c0, c1, c2, c3⟩ := hc
  unfold execOp
  rw [h]
  simp only [hx]
  simp [go_sem, c0, c1, c2, c3]
theorem pure_neI {x y : Operand} {i : I} (hw : Region.wanted o (yielded ops a.tmps) = true) (h : o.op = .binOp .neq 23 x y 23) (hx : a.eval x = .agg #[.int .i64 i.1, .int .i64 i.2.1, .int .i64 i.2.2.1, .string i.2.2.2]) (hy : a.eval y = .agg #[.int .i64 i.1, .int .i64 i.2.1, .int .i64 i.2.2.1, .string i.2.2.2]) : pureAt Tryd.prog ops o a w (.bool false) := by
  refine pure_run hw ?_
  unfold execOp
  rw [h]
  simp only [hx, hy]
  simp [go_sem]
end
set_option maxRecDepth 100000 in
set_option maxHeartbeats 2000000 in
theorem same_any (p1 q1 p2 q2 : Option Addr) (c1 d1 c2 d2 : Nat) (xs : List I) (es : List Int) (w : World) (r1 : Row w p1 xs) (r2 : Row w p2 xs) (e1 : Ents w q1 es) (e2 : Ents w q2 es) (hn : xs.length ≤ 1000000) (hm : es.length ≤ 1000000) :
    Calls Tryd.prog 17 #[.agg #[.slice p1 xs.length c1, .slice q1 es.length d1], .agg #[.slice p2 xs.length c2, .slice q2 es.length d2]] w fun e w' => e = .returned (.bool true) ∧ G w w' := by
  have R1 := hid r1
  have R2 := hid r2
  have E1 := hid e1
  have E2 := hid e2
  clear r1 r2 e1 e2
  go_enter Tryd.func17, Tryd.ntmps17
  go_wp2_with fail
  have BA := hid ((Var.alloc w (.slice p1 xs.length c1) (.slice q1 es.length d1) 28).mono ((G.refl _).alloc (.cells #[.slice p2 xs.length c2, .slice q2 es.length d2] 28)))
  have BB : Hid (Var ((w.alloc (.cells #[.slice p1 xs.length c1, .slice q1 es.length d1] 28)).alloc (.cells #[.slice p2 xs.length c2, .slice q2 es.length d2] 28)) (w.heap.size + 1) (.slice p2 xs.length c2) (.slice q2 es.length d2)) := hid (by
    have h := Var.alloc (w.alloc (.cells #[.slice p1 xs.length c1, .slice q1 es.length d1] 28)) (.slice p2 xs.length c2) (.slice q2 es.length d2) 28
    simpa using h)
  have HG := hid (((G.refl w).alloc (.cells #[.slice p1 xs.length c1, .slice q1 es.length d1] 28)).alloc (.cells #[.slice p2 xs.length c2, .slice q2 es.length d2] 28))
  go_loopg [5] xs.length (fun n j wr => ∃ k : Nat, k ≤ xs.length ∧ n = xs.length - k ∧ j = .int .i64 k ∧ Var wr w.heap.size (.slice p1 xs.length c1) (.slice q1 es.length d1) ∧ Var wr (w.heap.size + 1) (.slice p2 xs.length c2) (.slice q2 es.length d2) ∧ G w wr)
  case atStart => exact ⟨0, by omega, rfl, rfl, BA.out, BB.out, HG.out⟩
  case round =>
    obtain ⟨k, hk, rfl, rfl, hA, hB, hg⟩ := hrel
    clear BA BB HG
    have BA := hid hA
    have BB := hid hB
    have HG := hid hg
    clear hA hB hg
    obtain ⟨la, pa, qa, fa⟩ := BA.out
    obtain ⟨lb, pb, qb, fb⟩ := BB.out
    by_cases hkl : k < xs.length
    · obtain ⟨x, hx⟩ : ∃ x, xs[k]? = some x := ⟨xs[k], by simp [hkl]⟩
      obtain ⟨b1, o1, rfl, i1⟩ := R1.out k x hx
      obtain ⟨b2, o2, rfl, i2⟩ := R2.out k x hx
      have hkz : (k : Int) < (xs.length : Int) := by omega
      clear hx
      go_upto_region 6 with (fail)
      have gd : G w wr.drew := G.drew HG.out
      have j1 := i1.on gd
      have j2 := i2.on gd
      have va := BA.out.mono (G.drew (G.refl wr))
      have vb := BB.out.mono (G.drew (G.refl wr))
      clear la pa qa fa lb pb qb fb i1 i2
      obtain ⟨X, hX⟩ : ∃ X : Value, Hid ((Value.agg #[.int .i64 x.1, .int .i64 x.2.1, .int .i64 x.2.2.1, .string x.2.2.2]) = X) := ⟨_, rfl⟩
      refine wp_region_chain 59 [0, 1, 2, 3, 4, 5, 6, 7, 8, 9, 10] [] [0, 2, 3, 5, 7, 8, 10] [30, 31, 32, 33, 34, 35, 36, 37, 38, 39, 40] (fun _ => [1, 4, 6, 9])
        (fun i => if i = 0 then .pointer (some ⟨w.heap.size, 0, none⟩) else if i = 1 then .slice (some ⟨b1, o1, none⟩) xs.length c1 else if i = 2 then .int .i64 k else if i = 3 then .pointer (some ⟨b1, o1 + k * 4, none⟩) else if i = 4 then .agg #[.int .i64 x.1, .int .i64 x.2.1, .int .i64 x.2.2.1, .string x.2.2.2]
          else if i = 5 then .pointer (some ⟨w.heap.size + 1, 0, none⟩) else if i = 6 then .slice (some ⟨b2, o2, none⟩) xs.length c2 else if i = 7 then .int .i64 k else if i = 8 then .pointer (some ⟨b2, o2 + k * 4, none⟩) else if i = 9 then .agg #[.int .i64 x.1, .int .i64 x.2.1, .int .i64 x.2.2.1, .string x.2.2.2] else .bool false) (by kernel_rfl) (by kernel_rfl) (by kernel_rfl) rfl ?_ ?_
      · intro w1
        refine ⟨⟨_, rfl, fun ac hin => ?_⟩, ⟨_, rfl, fun ac hin => ?_⟩, ⟨_, rfl, fun ac hin => ?_⟩, ⟨_, rfl, fun ac hin => ?_⟩, ⟨_, rfl, fun ac hin => ?_⟩, ⟨_, rfl, fun ac hin => ?_⟩, ⟨_, rfl, fun ac hin => ?_⟩, trivial⟩
        · exact pure_addr28 rfl rfl (by decide) (hin 2 (by decide))
        · exact pure_move rfl rfl (hin 5 (by decide))
        · have h1 : ac.eval (.tmp 31) = .slice (some ⟨b1, o1, none⟩) xs.length c1 := hin 31 (by decide)
          have h2 : ac.eval (.tmp 32) = .int .i64 k := hin 32 (by decide)
          exact pure_index25 rfl rfl h1 h2 hkl
        · exact pure_addr28 rfl rfl (by decide) (hin 3 (by decide))
        · exact pure_move rfl rfl (hin 5 (by decide))
        · have h1 : ac.eval (.tmp 36) = .slice (some ⟨b2, o2, none⟩) xs.length c2 := hin 36 (by decide)
          have h2 : ac.eval (.tmp 37) = .int .i64 k := hin 37 (by decide)
          exact pure_index25 rfl rfl h1 h2 hkl
        · have h1 : ac.eval (.tmp 34) = .agg #[.int .i64 x.1, .int .i64 x.2.1, .int .i64 x.2.2.1, .string x.2.2.2] := hin 34 (by decide)
          have h2 : ac.eval (.tmp 39) = .agg #[.int .i64 x.1, .int .i64 x.2.1, .int .i64 x.2.2.1, .string x.2.2.2] := hin 39 (by decide)
          exact pure_neI rfl rfl h1 h2
      · refine ⟨⟨⟨_, rfl, fun ac hin => ?_⟩, ⟨_, rfl, fun ac hin => ?_⟩, ⟨_, rfl, fun ac hin => ?_⟩, ⟨_, rfl, fun ac hin => ?_⟩, trivial⟩, fun s' hs => ?_⟩
        · have h1 : ac.eval (.tmp 30) = .pointer (some ⟨w.heap.size, 0, none⟩) := hin 30 (by decide)
          exact pure_load25 rfl rfl h1 va.c0
        · have h1 : ac.eval (.tmp 33) = .pointer (some ⟨b1, o1 + k * 4, none⟩) := hin 33 (by decide)
          exact pure_loadI rfl rfl h1 j1
        · have h1 : ac.eval (.tmp 35) = .pointer (some ⟨w.heap.size + 1, 0, none⟩) := hin 35 (by decide)
          exact pure_load25 rfl rfl h1 vb.c0
        · have h1 : ac.eval (.tmp 38) = .pointer (some ⟨b2, o2 + k * 4, none⟩) := hin 38 (by decide)
          exact pure_loadI rfl rfl h1 j2
        have h40 : s' 40 = .bool false := hs 40 (by decide)
        clear hs
        simp only [putAll, List.foldl_cons, List.foldl_nil]
        rw [h40]
        simp only [Act.put, List.setIfInBounds_toArray, List.set_cons_succ, List.set_cons_zero]
        clear h40
        have BA := hid va
        have BB := hid vb
        have HG := hid gd
        clear va vb gd j1 j2 hX
        go_wp2_with fail
        go_roundg (xs.length - (k + 1))
        case measure => go_light; omega
        case rel => go_light; exact ⟨k + 1, by omega, rfl, by go_num, BA.out, BB.out, HG.out⟩
    · obtain rfl : k = xs.length := by omega
      have hkz : ¬ (xs.length : Int) < (xs.length : Int) := by omega
      go_wp2_with fail
      go_loopg [6] es.length (fun n j wx => ∃ k : Nat, k ≤ es.length ∧ n = es.length - k ∧ j = .int .i64 k ∧ Var wx w.heap.size (.slice p1 xs.length c1) (.slice q1 es.length d1) ∧ Var wx (w.heap.size + 1) (.slice p2 xs.length c2) (.slice q2 es.length d2) ∧ G w wx)
      case atStart => exact ⟨0, by omega, rfl, rfl, BA.out, BB.out, HG.out⟩
      case round =>
        obtain ⟨k, hk, rfl, rfl, hA, hB, hg⟩ := hrel
        clear BA BB HG la pa qa fa lb pb qb fb
        have BA := hid hA
        have BB := hid hB
        have HG := hid hg
        clear hA hB hg
        obtain ⟨la, pa, qa, fa⟩ := BA.out
        obtain ⟨lb, pb, qb, fb⟩ := BB.out
        by_cases hkl : k < es.length
        · obtain ⟨x, hx⟩ : ∃ x, es[k]? = some x := ⟨es[k], by simp [hkl]⟩
          obtain ⟨b1, o1, rfl, i1⟩ := E1.out k x hx
          obtain ⟨b2, o2, rfl, i2⟩ := E2.out k x hx
          have hkz : (k : Int) < (es.length : Int) := by omega
          clear hx
          go_upto_region 11 with (fail)
          have gd : G w wr.drew := G.drew HG.out
          have j1 := gd.cell i1
          have j2 := gd.cell i2
          have va := BA.out.mono (G.drew (G.refl wr))
          have vb := BB.out.mono (G.drew (G.refl wr))
          clear la pa qa fa lb pb qb fb i1 i2
          refine wp_region_chain 59 [0, 1, 2, 3, 4, 5, 6, 7, 8, 9, 10] [] [0, 2, 3, 5, 7, 8, 10] [48, 49, 50, 51, 52, 53, 54, 55, 56, 57, 58] (fun _ => [1, 4, 6, 9])
            (fun i => if i = 0 then .pointer (some ⟨w.heap.size, 1, none⟩) else if i = 1 then .slice (some ⟨b1, o1, none⟩) es.length d1 else if i = 2 then .int .i64 k else if i = 3 then .pointer (some ⟨b1, o1 + k, none⟩) else if i = 4 then .int .i64 x
              else if i = 5 then .pointer (some ⟨w.heap.size + 1, 1, none⟩) else if i = 6 then .slice (some ⟨b2, o2, none⟩) es.length d2 else if i = 7 then .int .i64 k else if i = 8 then .pointer (some ⟨b2, o2 + k, none⟩) else if i = 9 then .int .i64 x else .bool false) (by kernel_rfl) (by kernel_rfl) (by kernel_rfl) rfl ?_ ?_
          · intro w1
            refine ⟨⟨_, rfl, fun ac hin => ?_⟩, ⟨_, rfl, fun ac hin => ?_⟩, ⟨_, rfl, fun ac hin => ?_⟩, ⟨_, rfl, fun ac hin => ?_⟩, ⟨_, rfl, fun ac hin => ?_⟩, ⟨_, rfl, fun ac hin => ?_⟩, ⟨_, rfl, fun ac hin => ?_⟩, trivial⟩
            · exact pure_addr28 rfl rfl (by decide) (hin 2 (by decide))
            · exact pure_move rfl rfl (hin 6 (by decide))
            · have h1 : ac.eval (.tmp 49) = .slice (some ⟨b1, o1, none⟩) es.length d1 := hin 49 (by decide)
              have h2 : ac.eval (.tmp 50) = .int .i64 k := hin 50 (by decide)
              exact pure_index26 rfl rfl h1 h2 hkl
            · exact pure_addr28 rfl rfl (by decide) (hin 3 (by decide))
            · exact pure_move rfl rfl (hin 6 (by decide))
            · have h1 : ac.eval (.tmp 54) = .slice (some ⟨b2, o2, none⟩) es.length d2 := hin 54 (by decide)
              have h2 : ac.eval (.tmp 55) = .int .i64 k := hin 55 (by decide)
              exact pure_index26 rfl rfl h1 h2 hkl
            · have h1 : ac.eval (.tmp 52) = .int .i64 x := hin 52 (by decide)
              have h2 : ac.eval (.tmp 57) = .int .i64 x := hin 57 (by decide)
              simpa using pure_neint (m := x) (n := x) rfl rfl h1 h2
          · refine ⟨⟨⟨_, rfl, fun ac hin => ?_⟩, ⟨_, rfl, fun ac hin => ?_⟩, ⟨_, rfl, fun ac hin => ?_⟩, ⟨_, rfl, fun ac hin => ?_⟩, trivial⟩, fun s' hs => ?_⟩
            · have h1 : ac.eval (.tmp 48) = .pointer (some ⟨w.heap.size, 1, none⟩) := hin 48 (by decide)
              exact pure_load26 rfl rfl h1 va.c1
            · have h1 : ac.eval (.tmp 51) = .pointer (some ⟨b1, o1 + k, none⟩) := hin 51 (by decide)
              exact pure_load3 rfl rfl h1 j1
            · have h1 : ac.eval (.tmp 53) = .pointer (some ⟨w.heap.size + 1, 1, none⟩) := hin 53 (by decide)
              exact pure_load26 rfl rfl h1 vb.c1
            · have h1 : ac.eval (.tmp 56) = .pointer (some ⟨b2, o2 + k, none⟩) := hin 56 (by decide)
              exact pure_load3 rfl rfl h1 j2
            have h58 : s' 58 = .bool false := hs 58 (by decide)
            clear hs
            simp only [putAll, List.foldl_cons, List.foldl_nil]
            rw [h58]
            simp only [Act.put, List.setIfInBounds_toArray, List.set_cons_succ, List.set_cons_zero]
            clear h58
            have BA := hid va
            have BB := hid vb
            have HG := hid gd
            clear va vb gd j1 j2
            go_wp2_with fail
            go_roundg (es.length - (k + 1))
            case measure => go_light; omega
            case rel => go_light; exact ⟨k + 1, by omega, rfl, by go_num, BA.out, BB.out, HG.out⟩
        · obtain rfl : k = es.length := by omega
          have hkz : ¬ (es.length : Int) < (es.length : Int) := by omega
          go_wp2_with fail
          go_ret
          exact ⟨rfl, HG.out⟩
theorem short_any (p : Option Addr) (n c : Nat) (w : World) (hc : n ≤ c) : Calls Tryd.prog 13 #[.slice p n c] w fun e w' => e = .returned (.slice p (min n 3000) c) ∧ w = w' := by
  rcases (show (3000 : Int) < (n : Int) ∨ ¬ (3000 : Int) < (n : Int) by omega) with h | h
  · have h3 : (3000 : Int) ≤ (c : Int) := by omega
    go_enter Tryd.func13, Tryd.ntmps13
    go_wp2_with fail
    go_ret
    exact ⟨by rw [show min n 3000 = 3000 by omega]; rfl, rfl⟩
  · go_enter Tryd.func13, Tryd.ntmps13
    go_wp2_with fail
    go_ret
    exact ⟨by rw [show min n 3000 = n by omega]; rfl, rfl⟩
end Go.Proofs.YtpeioflembhedaaDoor
