/-
  CodeNames: its run from beginning to end. No conditions but the library's own (its table of the powers of ten stands as laid, its variable MaxLen holds a number).
-/
import Derived.Test.YtpeioflembhedaaDoorLines
import Derived.Test.YtpeioflembhedaaDoorFew
import Derived.Deep.LoopGhost
import Derived.Deep.Light
import Derived.Deep.CutRange
namespace Go.Proofs.YtpeioflembhedaaDoor
open Go.RowKit

theorem add_at (g j : Nat) : (⟨g, 0, none⟩ : Addr).add j = ⟨g, j, none⟩ := by
  unfold Addr.add
  by_cases h : j = 0 <;> simp [h]
/-- A row of the call's own reads as the instructions that it holds. -/
theorem own_rows {w : World} {B n c g : Nat} {ys : List I} (h : w.ownsRow B 23 4 (.slice (some ⟨g, 0, none⟩) n c) n (flatI ys)) : Row w (some ⟨g, 0, none⟩) ys := by
  intro k x hx
  refine ⟨g, 0, rfl, ?_⟩
  have hc := @World.ownsRow.cells _ _ _ _ _ _ _ h g rfl
  obtain ⟨h0, h1, h2, h3⟩ := flatI_get ys k x hx
  have a0 := hc _ _ h0
  have a1 := hc _ _ h1
  have a2 := hc _ _ h2
  have a3 := hc _ _ h3
  rw [add_at] at a0 a1 a2 a3
  rw [show 0 + k * 4 = k * 4 by omega]
  exact ⟨a0, a1, a2, a3⟩
theorem few_two (bk : Nat) (x y : I) (w : World) (hx : InsAt w bk 0 x) (hy : InsAt w bk 4 y) :
    Calls Tryd.prog 8 #[.agg #[.slice (some ⟨bk, 0, none⟩) 2 2, .slice none 0 0]] w fun e w' => ∃ g c, e = .returned (.agg #[.slice (some ⟨g, 0, none⟩) 2 c, .slice none 0 0]) ∧ G w w' ∧ InsAt w' g 0 (cutI x) ∧ InsAt w' g 4 (cutI y) ∧ g < w'.heap.size := by
  have h := few_any (some ⟨bk, 0, none⟩) 2 0 0 [x, y] none w (Nat.le_refl _) (by
    intro k z hz
    refine ⟨bk, 0, rfl, ?_⟩
    match k, hz with
    | 0, hz => simp at hz; subst hz; exact hx
    | 1, hz => simp at hz; subst hz; exact hy)
  refine h.mono ?_
  rintro e w' ⟨v, rfl, ho, hg⟩
  obtain ⟨g, c, rfl⟩ := own_some ho (by simp)
  have hr := own_rows (ys := [cutI x, cutI y]) ho
  obtain ⟨b0, o0, e0, i0⟩ := hr 0 (cutI x) rfl
  obtain ⟨b1, o1, e1, i1⟩ := hr 1 (cutI y) rfl
  simp at e0 e1
  obtain ⟨rfl, rfl⟩ := e0
  obtain ⟨rfl, rfl⟩ := e1
  exact ⟨g, c, rfl, hg, by simpa using i0, by simpa using i1, (ho.lt g rfl).2⟩
theorem InsAt.at' {w : World} {bk off : Nat} {x : I} (h : InsAt w bk off x) (hl : bk < w.heap.size) (hf : ∀ i : Nat, w.frozen? ⟨bk, i, none⟩ = false) : At w bk off x.1 x.2.1 x.2.2.1 x.2.2.2 :=
  ⟨hl, h.1, h.2.1, h.2.2.1, h.2.2.2, hf⟩
theorem names_letters : ∀ k, k < 23 → ∀ c ∈ (namesL.getD k E).data.toList, 97 ≤ c.toNat ∧ c.toNat ≤ 122 := by decide
theorem names_some : ∀ k, k < 23 → (namesL.getD k E).data.toList ≠ [] := by decide
theorem letters_of (k : Nat) (j : Nat) (h : j < (nameR k).size) : 97 ≤ ((nameR k)[j].toNat : Int) ∧ ((nameR k)[j].toNat : Int) ≤ 122 := by
  have hm : (nameR k)[j] ∈ (nameR k).data.toList := by
    have : (nameR k)[j] = (nameR k).data.toList[j]'(by simpa using h) := by simp; rfl
    rw [this]
    exact List.getElem_mem _
  by_cases hk : 1 ≤ (k : Int) ∧ (k : Int) ≤ 23
  · obtain ⟨i, hi, _, e⟩ := name_in hk.1 hk.2
    have := names_letters i hi _ (by rw [← e]; exact hm)
    omega
  · exfalso
    unfold nameR at h
    rw [if_neg hk] at h
    exact absurd h (Nat.not_lt_zero _)
theorem empty_of (k : Nat) (h : ¬ (1 ≤ k ∧ k ≤ 23)) : (nameR k).toList.isEmpty = true := by
  unfold nameR
  rw [if_neg (by omega), ByteArray.toList_eq]
  rfl
theorem full_of (k : Nat) (h : 1 ≤ k ∧ k ≤ 23) : (nameR k).toList.isEmpty = false := by
  obtain ⟨i, hi, _, e⟩ := name_in (o := k) (by omega) (by omega)
  rw [e, ByteArray.toList_eq]
  have := names_some i hi
  simpa using this
theorem unlike_of (k j : Nat) (h1 : 1 ≤ j) (h2 : j < k) (h3 : (nameR k).toList.isEmpty = false) : ((nameR j).toList == (nameR k).toList) = false := by
  have hk : k ≤ 23 := by
    rcases Nat.lt_or_ge 23 k with h | h
    · rw [empty_of k (by omega)] at h3; cases h3
    · exact h
  obtain ⟨i, hi, ei, e⟩ := name_in (o := j) (by omega) (by omega)
  obtain ⟨i2, hi2, ei2, e2⟩ := name_in (o := k) (by omega) (by omega)
  rw [beq_eq_false_iff_ne]
  intro h
  rw [e, e2, ByteArray.toList_eq, ByteArray.toList_eq] at h
  have := names_unlike i hi i2 hi2 h
  omega
theorem cut_small (s : ByteArray) : (cut50 s).size ≤ 60 := by
  unfold cut50
  split
  · simp
    omega
  · omega
def Ints (o a b : Int) : Prop := (-9223372036854775808 ≤ o ∧ o ≤ 9223372036854775807) ∧ (-9223372036854775808 ≤ a ∧ a ≤ 9223372036854775807) ∧ (-9223372036854775808 ≤ b ∧ b ≤ 9223372036854775807)
theorem may_to {o a b : Int} {s : ByteArray} {m : Bool} (h : mayR o a b s = m) (h0 : -9223372036854775808 ≤ o) (h1 : o ≤ 9223372036854775807) (w : World) :
    Calls Tryd.prog 10 #[.agg #[.int .i64 o, .int .i64 a, .int .i64 b, .string s]] w fun e w' => e = .returned (.bool m) ∧ G w w' := by
  subst h
  exact may_any o a b s w h0 h1
theorem same_lines {o a b o2 a2 b2 : Int} {s s2 : ByteArray} (m1 : mayR o a b s = true) (m2 : mayR o2 a2 b2 s2 = true) :
    (((lineR o a b s).toList == (lineR o2 a2 b2 s2).toList) == sameV o a b s o2 a2 b2 s2) = true := by
  rw [beq_iff_eq, Bool.eq_iff_iff]
  constructor
  · intro h
    have e : lineR o a b s = lineR o2 a2 b2 s2 := bytes_eq (by simpa [ByteArray.toList_eq] using h)
    obtain ⟨rfl, rfl, rfl, rfl⟩ := lines_tell m1 m2 e
    simp [sameV]
  · intro h
    simp only [sameV, Bool.and_eq_true, decide_eq_true_eq, beq_iff_eq] at h
    obtain ⟨⟨⟨rfl, rfl⟩, rfl⟩, e⟩ := h
    have e : s = s2 := bytes_eq (by simpa [ByteArray.toList_eq] using e)
    subst e
    simp
set_option maxRecDepth 100000 in
set_option maxHeartbeats 4000000 in
theorem names_walk (po pa pb qo qa qb : Int) (ps qs : ByteArray) (w : World) (ht : Tab w) (hm : Max w) (hb0 : Ints po pa pb) (hb1 : Ints qo qa qb) :
    Calls Tryd.prog 3 #[V po pa pb ps, V qo qa qb qs] w fun e w' => e = .returned (.bool true) ∧ G w w' := by
  have HT := hid ht
  have HM := hid hm
  have b0 := hb0
  have b1 := hb1
  clear ht hm hb0 hb1
  unfold V
  go_enter Tryd.func3, Tryd.ntmps3
  go_wp2_with fail
  have B0 := hid ((At.alloc w po pa pb ps).more (.cells #[.int .i64 qo, .int .i64 qa, .int .i64 qb, .string qs] 23))
  have B1 := hid (At.new2 w (.cells #[.int .i64 po, .int .i64 pa, .int .i64 pb, .string ps] 23) qo qa qb qs)
  have HG := hid (((G.refl w).alloc (.cells #[.int .i64 po, .int .i64 pa, .int .i64 pb, .string ps] 23)).alloc (.cells #[.int .i64 qo, .int .i64 qa, .int .i64 qb, .string qs] 23))
  refine (shown_any _ (tab_on HT.out HG.out) (max_on HM.out HG.out)).mono ?_
  rintro e w1 ⟨rfl, g1⟩
  replace B0 := hid (B0.out.mono g1)
  replace B1 := hid (B1.out.mono g1)
  replace HG := hid (HG.out.trans g1)
  clear g1
  obtain ⟨l1, p1, q1, r1, t1, f1⟩ := B0.out
  obtain ⟨l2, p2, q2, r2, t2, f2⟩ := B1.out
  simp at q1 r1 t1 q2 r2 t2
  go_wp2_with fail
  refine (few_two w1.heap.size (po, pa, pb, ps) (qo, qa, qb, qs) _ ?_ ?_).mono ?_
  · simp [InsAt, go_sem]
  · simp [InsAt, go_sem]
  rintro e w2 ⟨g, c, rfl, g2, i0, i1, hg⟩
  clear l1 p1 q1 r1 t1 f1 l2 p2 q2 r2 t2 f2 B0 B1
  replace HG := hid ((HG.out.alloc _).trans g2)
  clear g2
  have I0 := hid i0
  have I1 := hid i1
  have GL := hid hg
  obtain ⟨c0, c1, c2, c3⟩ := i0
  obtain ⟨d0, d1, d2, d3⟩ := i1
  simp [cutI] at c0 c1 c2 c3 d0 d1 d2 d3
  go_wp2_with fail
  have BA := hid (At.new2 w2 (.cells #[.slice (some ⟨g, 0, none⟩) 2 c, .slice none 0 0] 28) po pa pb (cut50 ps)|>.more (.cells #[.int .i64 qo, .int .i64 qa, .int .i64 qb, .string (cut50 qs)] 23))
  have BB : Hid (At (((w2.alloc (.cells #[.slice (some ⟨g, 0, none⟩) 2 c, .slice none 0 0] 28)).alloc (.cells #[.int .i64 po, .int .i64 pa, .int .i64 pb, .string (cut50 ps)] 23)).alloc (.cells #[.int .i64 qo, .int .i64 qa, .int .i64 qb, .string (cut50 qs)] 23)) (w2.heap.size + 1 + 1) 0 qo qa qb (cut50 qs)) := by
    have h := At.new2 (w2.alloc (.cells #[.slice (some ⟨g, 0, none⟩) 2 c, .slice none 0 0] 28)) (.cells #[.int .i64 po, .int .i64 pa, .int .i64 pb, .string (cut50 ps)] 23) qo qa qb (cut50 qs)
    exact hid (by simpa using h)
  replace HG := hid (((HG.out.alloc (.cells #[.slice (some ⟨g, 0, none⟩) 2 c, .slice none 0 0] 28)).alloc (.cells #[.int .i64 po, .int .i64 pa, .int .i64 pb, .string (cut50 ps)] 23)).alloc (.cells #[.int .i64 qo, .int .i64 qa, .int .i64 qb, .string (cut50 qs)] 23))
  clear I0 I1 GL c0 c1 c2 c3 d0 d1 d2 d3
  go_loopg [9] 25 (fun n i wr => ∃ k : Nat, k ≤ 25 ∧ n = 25 - k ∧ i = .int .i64 k ∧ G w wr ∧ At wr (w2.heap.size + 1) 0 po pa pb (cut50 ps) ∧ At wr (w2.heap.size + 1 + 1) 0 qo qa qb (cut50 qs))
  case atStart => exact ⟨0, by omega, rfl, rfl, HG.out, BA.out, BB.out⟩
  case round =>
    obtain ⟨k, hk, rfl, rfl, hG, hA, hB⟩ := hrel
    clear HG BA BB
    have HG := hid hG
    have BA := hid hA
    have BB := hid hB
    clear hG hA hB
    rcases (show k = 25 ∨ k = 0 ∨ k = 24 ∨ (1 ≤ k ∧ k ≤ 23) by omega) with hk2 | hk2
    · obtain ⟨ma, hma⟩ : ∃ ma, Hid (mayR po pa pb (cut50 ps) = ma) := ⟨_, rfl⟩
      obtain ⟨mb, hmb⟩ : ∃ mb, Hid (mayR qo qa qb (cut50 qs) = mb) := ⟨_, rfl⟩
      subst hk2
      obtain ⟨l1, p1, q1, r1, t1, f1⟩ := BA.out
      obtain ⟨l2, p2, q2, r2, t2, f2⟩ := BB.out
      simp at q1 r1 t1 q2 r2 t2
      go_wp2_with fail
      refine (may_to hma.out b0.1.1 b0.1.2 _).mono ?_
      rintro e w3 ⟨rfl, g3⟩
      clear l1 p1 q1 r1 t1 f1 l2 p2 q2 r2 t2 f2
      replace HG := hid (HG.out.trans g3)
      replace BA := hid (BA.out.mono g3)
      replace BB := hid (BB.out.mono g3)
      clear g3
      cases ma
      · go_wp2_with fail
        go_ret
        exact ⟨rfl, HG.out⟩
      · obtain ⟨l2, p2, q2, r2, t2, f2⟩ := BB.out
        simp at q2 r2 t2
        go_wp2_with fail
        refine (may_to hmb.out b1.1.1 b1.1.2 _).mono ?_
        rintro e w4 ⟨rfl, g3⟩
        clear l2 p2 q2 r2 t2 f2
        replace HG := hid (HG.out.trans g3)
        replace BA := hid (BA.out.mono g3)
        replace BB := hid (BB.out.mono g3)
        clear g3
        cases mb
        · go_wp2_with fail
          go_ret
          exact ⟨rfl, HG.out⟩
        · have hT := same_lines hma.out hmb.out
          have HT2 := hid hT
          clear hT
          go_upto_region 23 with (fail)
          refine wp_region_grows (says [Say.is (.bool true), Say.is (.bool true), Say.is (V po pa pb (cut50 ps)), Say.is (.string (lineR po pa pb (cut50 ps))), Say.is (V qo qa qb (cut50 qs)), Say.is (.string (lineR qo qa qb (cut50 qs))), Say.is (.bool ((lineR po pa pb (cut50 ps)).toList == (lineR qo qa qb (cut50 qs)).toList)), Say.is (V po pa pb (cut50 ps)), Say.is (V qo qa qb (cut50 qs)), Say.is (.bool (sameV po pa pb (cut50 ps) qo qa qb (cut50 qs))), Say.is (.bool (((lineR po pa pb (cut50 ps)).toList == (lineR qo qa qb (cut50 qs)).toList) == sameV po pa pb (cut50 ps) qo qa qb (cut50 qs))), Say.is (.bool (((lineR po pa pb (cut50 ps)).toList == (lineR qo qa qb (cut50 qs)).toList) == sameV po pa pb (cut50 ps) qo qa qb (cut50 qs))), Say.is (.bool (((lineR po pa pb (cut50 ps)).toList == (lineR qo qa qb (cut50 qs)).toList) == sameV po pa pb (cut50 ps) qo qa qb (cut50 qs)))]) 92 (by kernel_rfl) (by kernel_rfl) rfl (says_mono _) (allSteps_take ⟨?_, ?_, ?_, ?_, ?_, ?_, ?_, ?_, ?_, ?_, ?_, ?_, ?_, trivial⟩) ?_
          · intro a w1 hG hin
            have h5 : a.eval (.tmp 5) = .bool true := slot_out (hin 5 (by decide)) rfl
            clear hin
            exact .inl ⟨wanted_none rfl, grow_move rfl h5⟩
          · intro a w1 hG hin
            have h80 : a.eval (.tmp 80) = .bool true := slot_in (hin 80 (by decide)) rfl
            clear hin
            exact .inl ⟨wanted_none rfl, grow_move rfl h80⟩
          · intro a w1 hG hin
            have h7 : a.eval (.tmp 7) = .pointer (some ⟨w2.heap.size + 1, 0, none⟩) := slot_out (hin 7 (by decide)) rfl
            have h81 : a.eval (.tmp 81) = .bool true := slot_in (hin 81 (by decide)) rfl
            clear hin
            refine .inl ⟨wanted_yes rfl rfl h81, ?_⟩
            exact grow_load rfl (BA.out.mono hG) h7 rfl
          · intro a w1 hG hin
            have h82 : a.eval (.tmp 82) = V po pa pb (cut50 ps) := slot_in (hin 82 (by decide)) rfl
            have h81 : a.eval (.tmp 81) = .bool true := slot_in (hin 81 (by decide)) rfl
            clear hin
            refine .inl ⟨wanted_yes rfl rfl h81, ?_⟩
            exact grow_call Tryd.call11 #[V po pa pb (cut50 ps)] (by simp only [List.map_toArray, List.map_cons, List.map_nil, h82] <;> rfl) ((line_any po pa pb (cut50 ps) _ b0.1.1 b0.1.2 b0.2.1.1 b0.2.1.2 b0.2.2.1 b0.2.2.2 (cut_small ps) (tab_on HT.out (HG.out.trans hG)) (max_on HM.out (HG.out.trans hG))).mono (by rintro e w2 ⟨rfl, hg⟩; exact ⟨_, rfl, hg, rfl⟩))
          · intro a w1 hG hin
            have h8 : a.eval (.tmp 8) = .pointer (some ⟨w2.heap.size + 1 + 1, 0, none⟩) := slot_out (hin 8 (by decide)) rfl
            have h81 : a.eval (.tmp 81) = .bool true := slot_in (hin 81 (by decide)) rfl
            clear hin
            refine .inl ⟨wanted_yes rfl rfl h81, ?_⟩
            exact grow_load rfl (BB.out.mono hG) h8 rfl
          · intro a w1 hG hin
            have h84 : a.eval (.tmp 84) = V qo qa qb (cut50 qs) := slot_in (hin 84 (by decide)) rfl
            have h81 : a.eval (.tmp 81) = .bool true := slot_in (hin 81 (by decide)) rfl
            clear hin
            refine .inl ⟨wanted_yes rfl rfl h81, ?_⟩
            exact grow_call Tryd.call11 #[V qo qa qb (cut50 qs)] (by simp only [List.map_toArray, List.map_cons, List.map_nil, h84] <;> rfl) ((line_any qo qa qb (cut50 qs) _ b1.1.1 b1.1.2 b1.2.1.1 b1.2.1.2 b1.2.2.1 b1.2.2.2 (cut_small qs) (tab_on HT.out (HG.out.trans hG)) (max_on HM.out (HG.out.trans hG))).mono (by rintro e w2 ⟨rfl, hg⟩; exact ⟨_, rfl, hg, rfl⟩))
          · intro a w1 hG hin
            have h83 : a.eval (.tmp 83) = .string (lineR po pa pb (cut50 ps)) := slot_in (hin 83 (by decide)) rfl
            have h85 : a.eval (.tmp 85) = .string (lineR qo qa qb (cut50 qs)) := slot_in (hin 85 (by decide)) rfl
            have h81 : a.eval (.tmp 81) = .bool true := slot_in (hin 81 (by decide)) rfl
            clear hin
            refine .inl ⟨wanted_yes rfl rfl h81, ?_⟩
            exact grow_eqtext rfl h83 h85 rfl
          · intro a w1 hG hin
            have h7 : a.eval (.tmp 7) = .pointer (some ⟨w2.heap.size + 1, 0, none⟩) := slot_out (hin 7 (by decide)) rfl
            have h81 : a.eval (.tmp 81) = .bool true := slot_in (hin 81 (by decide)) rfl
            clear hin
            refine .inl ⟨wanted_yes rfl rfl h81, ?_⟩
            exact grow_load rfl (BA.out.mono hG) h7 rfl
          · intro a w1 hG hin
            have h8 : a.eval (.tmp 8) = .pointer (some ⟨w2.heap.size + 1 + 1, 0, none⟩) := slot_out (hin 8 (by decide)) rfl
            have h81 : a.eval (.tmp 81) = .bool true := slot_in (hin 81 (by decide)) rfl
            clear hin
            refine .inl ⟨wanted_yes rfl rfl h81, ?_⟩
            exact grow_load rfl (BB.out.mono hG) h8 rfl
          · intro a w1 hG hin
            have h87 : a.eval (.tmp 87) = V po pa pb (cut50 ps) := slot_in (hin 87 (by decide)) rfl
            have h88 : a.eval (.tmp 88) = V qo qa qb (cut50 qs) := slot_in (hin 88 (by decide)) rfl
            have h81 : a.eval (.tmp 81) = .bool true := slot_in (hin 81 (by decide)) rfl
            clear hin
            refine .inl ⟨wanted_yes rfl rfl h81, ?_⟩
            exact grow_eqV rfl h87 h88 rfl
          · intro a w1 hG hin
            have h86 : a.eval (.tmp 86) = .bool ((lineR po pa pb (cut50 ps)).toList == (lineR qo qa qb (cut50 qs)).toList) := slot_in (hin 86 (by decide)) rfl
            have h89 : a.eval (.tmp 89) = .bool (sameV po pa pb (cut50 ps) qo qa qb (cut50 qs)) := slot_in (hin 89 (by decide)) rfl
            have h81 : a.eval (.tmp 81) = .bool true := slot_in (hin 81 (by decide)) rfl
            clear hin
            refine .inl ⟨wanted_yes rfl rfl h81, ?_⟩
            exact grow_eqbool rfl Tryd.underlying4 h86 h89 rfl
          · intro a w1 hG hin
            have h81 : a.eval (.tmp 81) = .bool true := slot_in (hin 81 (by decide)) rfl
            have h90 : a.eval (.tmp 90) = .bool (((lineR po pa pb (cut50 ps)).toList == (lineR qo qa qb (cut50 qs)).toList) == sameV po pa pb (cut50 ps) qo qa qb (cut50 qs)) := slot_in (hin 90 (by decide)) rfl
            clear hin
            refine .inl ⟨wanted_none rfl, ?_⟩
            exact grow_pick rfl h81 h90
          · intro a w1 hG hin
            have h91 : a.eval (.tmp 91) = .bool (((lineR po pa pb (cut50 ps)).toList == (lineR qo qa qb (cut50 qs)).toList) == sameV po pa pb (cut50 ps) qo qa qb (cut50 qs)) := slot_in (hin 91 (by decide)) rfl
            clear hin
            exact .inl ⟨wanted_none rfl, grow_assign rfl h91⟩
          · intro s w9 hG hin hs
            have f4 : s 4 = .bool (((lineR po pa pb (cut50 ps)).toList == (lineR qo qa qb (cut50 qs)).toList) == sameV po pa pb (cut50 ps) qo qa qb (cut50 qs)) := (hs 4 (by decide)).symm.trans (slot_in (hin 4) rfl)
            clear hin hs
            rw [show List.range 92 = [0, 1, 2, 3, 4, 5, 6, 7, 8, 9, 10, 11, 12, 13, 14, 15, 16, 17, 18, 19, 20, 21, 22, 23, 24, 25, 26, 27, 28, 29, 30, 31, 32, 33, 34, 35, 36, 37, 38, 39, 40, 41, 42, 43, 44, 45, 46, 47, 48, 49, 50, 51, 52, 53, 54, 55, 56, 57, 58, 59, 60, 61, 62, 63, 64, 65, 66, 67, 68, 69, 70, 71, 72, 73, 74, 75, 76, 77, 78, 79, 80, 81, 82, 83, 84, 85, 86, 87, 88, 89, 90, 91] from rfl]
            simp only [List.map_cons, List.map_nil]
            rw [f4]
            rw [HT2.out]
            have HG := hid (HG.out.trans hG)
            clear hG
            go_wp2_with fail
            go_ret
            exact ⟨rfl, HG.out⟩
    · obtain ⟨nm, hn⟩ : ∃ nm, Hid (nameR k = nm) := ⟨_, rfl⟩
      have hl : Hid (∀ j : Nat, (h : j < nm.size) → 97 ≤ (nm[j].toNat : Int) ∧ (nm[j].toNat : Int) ≤ 122) := by
        have h := letters_of k
        rw [hn.out] at h
        exact hid h
      have hl2 : Hid (∀ j : Nat, 1 ≤ j → j < k → nm.toList.isEmpty = false → ((nameR j).toList == nm.toList) = false) := by
        have h := unlike_of k
        rw [hn.out] at h
        exact hid h
      have hk3 : (k : Int) ≤ 24 := by omega
      have hnl : nm.size ≤ 10 := by
        have h := name_len k
        rw [hn.out] at h
        simpa using h
      have hq : (((k : Int) == 0) = true ∧ nm.toList.isEmpty = true) ∨ (((k : Int) == 0) = false ∧ ((k : Int) == 24) = true ∧ nm.toList.isEmpty = true) ∨ (((k : Int) == 0) = false ∧ ((k : Int) == 24) = false ∧ nm.toList.isEmpty = false) := by
        rcases hk2 with rfl | rfl | hk2
        · exact .inl ⟨rfl, by rw [← hn.out]; exact empty_of 0 (by omega)⟩
        · exact .inr (.inl ⟨rfl, rfl, by rw [← hn.out]; exact empty_of 24 (by omega)⟩)
        · refine .inr (.inr ⟨by simp; omega, by simp; omega, by rw [← hn.out]; exact full_of k hk2⟩)
      clear hk2
      go_wp2_with fail
      refine (name_to hn.out _ (max_on HM.out HG.out)).mono ?_
      rintro e w3 ⟨rfl, g3⟩
      replace HG := hid (HG.out.trans g3)
      replace BA := hid (BA.out.mono g3)
      replace BB := hid (BB.out.mono g3)
      clear g3
      rcases hq with ⟨hq, he⟩ | ⟨hq, hq2, he⟩ | ⟨hq, hq2, he⟩
      all_goals (
        go_wp2_with fail
        go_loopg [11] nm.size (fun n i wx => wx = w3 ∧ ∃ j : Nat, j ≤ nm.size ∧ n = nm.size - j ∧ i = .int .i64 j)
        case atStart => exact ⟨rfl, 0, by omega, rfl, rfl⟩
        case round =>
          obtain ⟨rfl, j, hj, rfl, rfl⟩ := hrel
          by_cases hjl : j < nm.size
          · obtain ⟨hl3, hl4⟩ := hl.out j hjl
            go_wp2_with fail
            go_roundg (nm.size - (j + 1))
            case measure => go_light; omega
            case rel => go_light; exact ⟨rfl, j + 1, by omega, rfl, by go_num⟩
          · clear hj
            have hjl2 : (nm.size : Int) ≤ (j : Int) := by omega
            go_wp2_with fail
            go_loopg [12] 24 (fun n i wx => ∃ j : Nat, 1 ≤ j ∧ j ≤ 25 ∧ n = 25 - j ∧ i = .int .i64 j ∧ G w wx ∧ At wx (w2.heap.size + 1) 0 po pa pb (cut50 ps) ∧ At wx (w2.heap.size + 1 + 1) 0 qo qa qb (cut50 qs))
            case atStart => exact ⟨1, by omega, by omega, rfl, rfl, HG.out, BA.out, BB.out⟩
            case round =>
              obtain ⟨j2, hj1, hj2, rfl, rfl, hG, hA, hB⟩ := hrel
              clear HG BA BB
              have HG := hid hG
              have BA := hid hA
              have BB := hid hB
              clear hG hA hB
              by_cases hjk : j2 < k
              · have hjk2 : (j2 : Int) < (k : Int) := by omega
                first
                  | (have hx : nm.toList.isEmpty = true := he
                     go_wp2_with fail
                     go_roundg (25 - (j2 + 1))
                     case measure => go_light; omega
                     case rel => go_light; exact ⟨j2 + 1, by omega, by omega, rfl, by go_num, HG.out, BA.out, BB.out⟩)
                  | (obtain ⟨mj, hmj⟩ : ∃ mj, Hid (nameR j2 = mj) := ⟨_, rfl⟩
                     have hne := hl2.out j2 hj1 hjk he
                     rw [hmj.out] at hne
                     go_wp2_with fail
                     refine (name_to hmj.out _ (max_on HM.out HG.out)).mono ?_
                     rintro e w4 ⟨rfl, g3⟩
                     replace HG := hid (HG.out.trans g3)
                     replace BA := hid (BA.out.mono g3)
                     replace BB := hid (BB.out.mono g3)
                     clear g3
                     go_wp2_with fail
                     go_roundg (25 - (j2 + 1))
                     case measure => go_light; omega
                     case rel => go_light; exact ⟨j2 + 1, by omega, by omega, rfl, by go_num, HG.out, BA.out, BB.out⟩)
              · have hjk2 : ¬ (j2 : Int) < (k : Int) := by omega
                go_wp2_with fail
                go_roundg (25 - (k + 1))
                case measure => go_light; omega
                case rel => go_light; exact ⟨k + 1, by omega, rfl, by go_num, HG.out, BA.out, BB.out⟩)
end Go.Proofs.YtpeioflembhedaaDoor
