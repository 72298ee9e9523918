/-
  CodeBack: its run from beginning to end. No conditions but the library's own (its table of the powers of ten stands as laid, its variable MaxLen holds a number).
-/
import Derived.Test.YtpeioflembhedaaDoorBackD
namespace Go.Proofs.YtpeioflembhedaaDoor
open Go.RowKit

/-- The row of code in the variable, as Put and Same read it. -/
structure Cd (w : World) (p q : Option Addr) (ys : List I) (es : List Int) : Prop where
  row : Row w p ys
  ent : Ents w q es
theorem Cd.on {w w' : World} {p q : Option Addr} {ys : List I} {es : List Int} (h : Cd w p q ys es) (g : G w w') : Cd w' p q ys es := ⟨h.row.on g, h.ent.on g⟩
theorem size_al (w : World) (o : Obj) : (w.alloc o).heap.size = w.heap.size + 1 := Array.size_push ..
theorem own_empty1 (w : World) (o : Obj) : ((w.alloc o).alloc (.cells #[] 5)).ownsRow (w.heap.size + 1) 5 1 (.slice (some ⟨w.heap.size + 1, 0, none⟩) 0 0) 0 [] := by
  rw [← size_al w o]
  exact own_empty _
theorem bys_zero (w : World) : Bys (w.alloc (.cells #[.int .u8 0] 5)) (some ⟨w.heap.size, 0, none⟩) [0] 1 := by
  refine ⟨Nat.le_refl _, .inr ⟨w.heap.size, 0, rfl, by simp, fun k b hk => ?_⟩⟩
  cases k with
  | zero =>
    simp at hk
    subst hk
    simp [go_sem]
  | succ n => simp at hk
theorem own_zero {w : World} {B : Nat} {v : Value} {l : List UInt8} (h : w.ownsRow B 5 1 v (l.length + ([0] : List UInt8).length) (bys l ++ bys [0])) : w.ownsRow B 5 1 v (l ++ [0]).length (bys (l ++ [0])) := by
  have e : bys (l ++ [0]) = bys l ++ bys [0] := by simp [bys]
  rw [e, List.length_append]
  exact h
theorem Bys.cut {w : World} {p : Option Addr} {l : List UInt8} {c : Nat} (h : Bys w p l c) (n : Nat) (hn : n ≤ l.length) : Bys w p (l.take n) c := h.take n
set_option maxRecDepth 100000 in
set_option maxHeartbeats 8000000 in
theorem back_walk (p q pb : Option Addr) (cap mc cb : Nat) (xs : List I) (es : List Int) (lb : List UInt8) (at' : Int) (w : World) (ht : Tab w) (hm : Max w) (hmc : es.length ≤ mc) (hrow : Row w p xs) (hent : Ents w q es) (hbys : Bys w pb lb cb) (hx : ∀ x ∈ xs, IntsI x) (he : ∀ n ∈ es, EntOk n) :
    Calls Tryd.prog 6 #[.agg #[.slice p xs.length cap, .slice q es.length mc], .slice pb lb.length cb, .int .i64 at'] w fun e w' => e = .returned (.bool true) ∧ G w w' := by
  have HT := hid ht
  have HM := hid hm
  have HR := hid hrow
  have HE := hid hent
  have BB0 := hid hbys
  have HX := hid (fewI_ok xs hx)
  have HF := hid he
  have hcb := hbys.1
  clear ht hm hrow hent hx he hbys
  obtain ⟨ys, hys⟩ : ∃ ys, Hid (fewI xs = ys) := ⟨_, rfl⟩
  obtain ⟨es', hes⟩ : ∃ es', Hid (es.take 8 = es') := ⟨_, rfl⟩
  rw [hys.out] at HX
  have HYL : Hid (ys.length ≤ 40) := hid (by rw [← hys.out, fewI_len]; omega)
  have HEL : Hid (es'.length ≤ 8) := hid (by rw [← hes.out, List.length_take]; omega)
  have HF8 : Hid (∀ n ∈ es', EntOk n) := hid (fun n hn => HF.out n (List.mem_of_mem_take (by rw [hes.out]; exact hn)))
  obtain ⟨l, hl⟩ : ∃ l, Hid (lb.take 3000 = l) := ⟨_, rfl⟩
  have HLL : Hid (l.length = min lb.length 3000) := hid (by rw [← hl.out, List.length_take]; omega)
  have hl3 : l.length ≤ 3000 := by have := HLL.out; omega
  go_enter Tryd.func6, Tryd.ntmps6
  go_wp2_with fail
  have BC := hid (Var.alloc w (.slice p xs.length cap) (.slice q es.length mc) 28)
  have HG := hid ((G.refl w).alloc (.cells #[.slice p xs.length cap, .slice q es.length mc] 28))
  refine (shown_any _ (tab_on HT.out HG.out) (max_on HM.out HG.out)).mono ?_
  rintro e w1 ⟨rfl, g⟩
  replace BC := hid (BC.out.mono g)
  replace HG := hid (HG.out.trans g)
  clear g
  obtain ⟨l0, p0, q0, f0⟩ := BC.out
  go_wp2_with fail
  refine (few_row p cap mc xs es q _ hmc (HR.out.on HG.out) hys.out hes.out).mono ?_
  rintro e w2 ⟨p', c', rfl, hr2, hc2, hb2, g⟩
  clear l0 p0 q0 f0
  have hl1 := BC.out.lt
  replace BC := hid (BC.out.mono g)
  replace HG := hid (HG.out.trans g)
  obtain ⟨l0, p0, q0, f0⟩ := BC.out
  go_wp2_with fail
  have hs2 := HG.out.size
  have G1 : Turn (fun k => k = w.heap.size) w2 (w2.setCell ⟨w.heap.size, 0, none⟩ (.slice p' ys.length c')) := Turn.set (X := fun k => k = w.heap.size) _ rfl _
  have G2 : Turn (fun k => k = w.heap.size) w2 ((w2.setCell ⟨w.heap.size, 0, none⟩ (.slice p' ys.length c')).setCell ⟨w.heap.size, 1, none⟩ (.slice q es'.length mc)) := G1.trans (Turn.set (X := fun k => k = w.heap.size) _ rfl _)
  have HR2 := hid (hr2.turn G2 (fun a ha => by have := hb2 a ha; omega))
  replace HG := hid (G2.G HG.out (fun k hk => by omega))
  replace BC := hid ((BC.out.set (.slice p' ys.length c')).set1 (.slice q es'.length mc))
  clear l0 p0 q0 f0 g hr2 hc2 hb2 hl1 hs2 G1 G2
  generalize (w2.setCell ⟨w.heap.size, 0, none⟩ (.slice p' ys.length c')).setCell ⟨w.heap.size, 1, none⟩ (.slice q es'.length mc) = w3 at HR2 HG BC ⊢
  have HE3 : Hid (Ents w3 q es') := hid (by
    rw [← hes.out]
    exact (HE.out.on HG.out).take 8)
  have CD : Hid (Cd w3 p' q ys es') := hid ⟨HR2.out, HE3.out⟩
  have BB : Hid (Bys w3 pb l cb) := hid (by
    rw [← hl.out]
    exact (BB0.out.on HG.out).take 3000)
  clear HR2 HE3 BB0
  refine (short_any pb lb.length cb _ hcb).mono ?_
  rintro e w4 ⟨rfl, rfl⟩
  rw [← HLL.out]
  obtain ⟨l0, p0, q0, f0⟩ := BC.out
  go_wp2_with fail
  refine (put_any p' q c' mc es' ys _ (by have := HYL.out; omega) (by have := HEL.out; omega) CD.out.row CD.out.ent (fun y hy => (HX.out y hy).1) HF8.out).mono ?_
  rintro e w5 ⟨g, hp⟩
  clear l0 p0 q0 f0
  replace BC := hid (BC.out.mono g)
  replace HG := hid (HG.out.trans g)
  replace CD := hid (CD.out.on g)
  replace BB := hid (BB.out.on g)
  have HPUT := hid hp
  clear g hp
  obtain ⟨i, i1, i2, i3, i4⟩ := info5
  rcases HPUT.out with ⟨hne, rfl⟩ | ⟨h0, vb, rfl, hown⟩
  · have hpe : putE es' ys = 1 ∨ putE es' ys = 4 := by
      revert hne
      unfold putE
      split <;> (try split) <;> (try split) <;> simp
    obtain ⟨z, hz⟩ : ∃ z, Hid (putE es' ys = z) := ⟨_, rfl⟩
    rw [hz.out] at hpe ⊢
    clear hne
    rcases hpe with rfl | rfl
    all_goals (
      go_wp2_with (first | (at_builtin; refine wpList_append_bys rfl (.tmp 78) (.tmp 79) rfl w5.heap.size i i1 i2 i3 i4 _ 0 [] rfl (own_empty w5) pb l cb rfl (BB.out.on ((G.refl w5).alloc _)) (by omega) (by simp) ?_; intro v17 y17 own17 gr17; simp only [Nat.zero_add, List.nil_append] at own17; obtain ⟨p17, c17, ev17, hb17⟩ := own_bys own17; subst ev17; have hg17 := hid (((G.refl w5).alloc (.cells #[] 5)).grown gr17 (fun k hk => by cases hk; exact Nat.le_refl _)); have HB17 := hid hb17; clear own17 gr17 hb17))
      refine (take_walk p17 l c17 _ HB17.out (by omega)).mono ?_
      rintro e w17 ⟨p18, c18, q18, d18, rfl, hr18, he18, hk1, hk2, g18⟩
      have g17 := hg17.out.trans g18
      replace BC := hid (BC.out.mono g17)
      replace BB := hid (BB.out.on g17)
      replace HG := hid (HG.out.trans g17)
      have CT := hid (show Cd w17 p18 q18 (takeR l).1.2 (takeR l).1.1 from ⟨hr18, he18⟩)
      clear hg17 g17 g18 hr18 he18 HB17
      obtain ⟨t, ht⟩ : ∃ t, Hid (takeR l = t) := ⟨_, rfl⟩
      rw [ht.out] at CT hk1 hk2 ⊢
      obtain ⟨⟨fs, zs⟩, f⟩ := t
      simp only at hk1 hk2
      by_cases hf : f = 0
      · subst hf
        have HF0 := hid (show (takeR l).2 = 0 by rw [ht.out])
        have HI : Hid (putE fs zs = 0 ∧ codeR fs zs = l ∧ (∀ x ∈ zs, InsOk x) ∧ ∀ n ∈ fs, EntOk n) := hid (by
          have h := take_inv HF0.out
          rw [ht.out] at h
          exact h)
        replace CT : Hid (Cd w17 p18 q18 zs fs) := CT
        clear HF0 ht
        dsimp only
        go_wp2_with fail
        have gd := (G.refl w17).alloc (.cells #[.slice p18 zs.length c18, .slice q18 fs.length d18] 28)
        have hpf := put_facts HI.out.1
        refine (put_any p18 q18 c18 d18 fs zs _ (by omega) (by omega) (CT.out.on gd).row (CT.out.on gd).ent HI.out.2.2.1 HI.out.2.2.2).mono ?_
        rintro e w19 ⟨g19, hp⟩
        have g := gd.trans g19
        replace BB := hid (BB.out.on g)
        replace HG := hid (HG.out.trans g)
        rcases hp with ⟨hne, _⟩ | ⟨_, v19, rfl, own19⟩
        · exact absurd HI.out.1 hne
        · rw [HI.out.2.1] at own19
          obtain ⟨p19, c19, rfl, hb19⟩ := own_bys own19
          have e1 := conv_text hb19
          have e2 := conv_text BB.out
          clear own19 hb19 g gd g19 hpf
          go_wp2_with fail
          go_ret
          exact ⟨by simp, HG.out⟩
      · have hfz : (f == 0) = false := by simp [hf]
        have hbad := take_bad (l := l) (by rw [ht.out]; exact hf)
        rw [ht.out] at hbad
        simp only [Prod.mk.injEq] at hbad
        obtain ⟨rfl, rfl⟩ := hbad
        clear hf
        go_wp2_with fail
        go_ret
        exact ⟨rfl, HG.out.alloc _⟩)
  · obtain ⟨lx, hlx⟩ : ∃ lx, Hid (codeR es' ys = lx) := ⟨_, rfl⟩
    rw [hlx.out] at hown
    obtain ⟨px, cx, rfl, hbx⟩ := own_bys hown
    have H0 := hid h0
    have BX := hid hbx
    have hxl : lx.length ≤ 90000 := by
      have hil := insRs_len ys (fun y hy => (HX.out y hy).1)
      have hyl := HYL.out
      have hel := HEL.out
      rw [← hlx.out]
      simp only [codeR, List.length_append, eights_len, eight_len, List.length_cons, List.length_nil]
      omega
    clear h0 hown hbx HPUT
    have T6 : takeR lx = ((es', ys), 0) := by
      have h := take_good es' ys [] H0.out (fun y hy => (HX.out y hy).1) HF8.out
      rw [List.append_nil, hlx.out] at h
      simpa using h
    have T3 : Hid (takeR (lx ++ [0]) = (([], []), 3)) := hid (by
      have h := take_good es' ys [0] H0.out (fun y hy => (HX.out y hy).1) HF8.out
      rw [hlx.out] at h
      simpa using h)
    have T2 : Hid (∀ k, k < lx.length → (takeR (lx.take k)).2 = 2) := hid (fun k hk => by
      have h := take_cut es' ys k H0.out (fun y hy => (HX.out y hy).1) HF8.out (by rw [hlx.out]; exact hk)
      rw [hlx.out] at h
      exact h)
    obtain ⟨l0, p0, q0, f0⟩ := BC.out
    go_wp2_with (at_builtin; refine wpList_append_bys rfl (.tmp 34) (.tmp 35) rfl w5.heap.size i i1 i2 i3 i4 _ 0 [] rfl (own_empty w5) px lx cx rfl (BX.out.on ((G.refl w5).alloc _)) (by omega) (by simp) ?_; intro v6 y6 own6 gr6; simp only [Nat.zero_add, List.nil_append] at own6; obtain ⟨p6, c6, ev6, hb6⟩ := own_bys own6; subst ev6; have hg6 := hid (((G.refl w5).alloc (.cells #[] 5)).grown gr6 (fun k hk => by cases hk; exact Nat.le_refl _)); have HB6 := hid hb6; clear own6 gr6 hb6)
    refine (take_walk p6 lx c6 _ HB6.out (by omega)).mono ?_
    rw [T6]
    rintro e w7 ⟨p7, c7, q7, d7, rfl, hr7, he7, hk1, hk2, g7⟩
    have g := hg6.out.trans g7
    clear l0 p0 q0 f0
    replace BC := hid (BC.out.mono g)
    replace BB := hid (BB.out.on g)
    replace BX := hid (BX.out.on g)
    replace HG := hid (HG.out.trans g)
    replace CD := hid (CD.out.on g)
    have CT := hid (show Cd w7 p7 q7 ys es' from ⟨hr7, he7⟩)
    clear hg6 g g7 hr7 he7 HB6 T6
    dsimp only
    obtain ⟨l0, p0, q0, f0⟩ := BC.out
    go_wp2_with fail
    have gd := (G.refl w7).alloc (.cells #[.slice p7 ys.length c7, .slice q7 es'.length d7] 28)
    refine (same_any p' q p7 q7 c' mc c7 d7 ys es' _ (CD.out.on gd).row (CT.out.on gd).row (CD.out.on gd).ent (CT.out.on gd).ent (by have := HYL.out; omega) (by have := HEL.out; omega)).mono ?_
    rintro e w8 ⟨rfl, g8⟩
    have g := gd.trans g8
    clear l0 p0 q0 f0
    replace BB := hid (BB.out.on g)
    replace BX := hid (BX.out.on g)
    replace HG := hid (HG.out.trans g)
    clear g gd g8 hk1 hk2 CT CD BC
    have hcx := BX.out.1
    rcases (show (0 ≤ at' ∧ at' < (lx.length : Int)) ∨ ¬ (0 ≤ at') ∨ (0 ≤ at' ∧ ¬ at' < (lx.length : Int)) by omega) with ⟨ha, hb⟩ | ha | ⟨ha, hb⟩
    · obtain ⟨k, rfl⟩ := Int.eq_ofNat_of_zero_le ha
      have hk : k < lx.length := by omega
      have hkc : k ≤ cx := by omega
      go_wp2_with fail
      have t11 := take_walk px (lx.take k) cx w8 (BX.out.take k) (by rw [List.length_take]; omega)
      rw [show (lx.take k).length = k by rw [List.length_take]; omega] at t11
      rw [show TakePost (takeR (lx.take k)) w8 = TakePost ((takeR (lx.take k)).1, 2) w8 by rw [← T2.out k hk]] at t11
      refine t11.mono ?_
      rintro e w11 ⟨p11, c11, q11, d11, rfl, hr11, he11, hk1, hk2, g11⟩
      dsimp only
      generalize (takeR (lx.take k)).1.2.length = m1
      generalize (takeR (lx.take k)).1.1.length = m2
      replace BB := hid (BB.out.on g11)
      replace BX := hid (BX.out.on g11)
      replace HG := hid (HG.out.trans g11)
      clear t11 g11 hr11 he11 hk1 hk2
      go_wp2_with (first | (at_builtin; refine wpList_append_bys rfl (.tmp 67) (.tmp 68) rfl _ i i1 i2 i3 i4 _ 0 [] rfl (own_empty1 _ _) px lx cx rfl (BX.out.on (((G.refl w11).alloc _).alloc _)) (by omega) (by rw [size_al, size_al]; omega) ?_; intro v14 y14 own14 gr14; simp only [Nat.zero_add, List.nil_append] at own14; have hg14 := hid (G.grown ((G.refl _).alloc _) gr14 (fun k hk => by cases hk; exact Nat.le_of_eq (size_al _ _))); clear gr14) | (at_builtin; refine wpList_append_bys rfl (.tmp 69) (.tmp 70) rfl _ i i1 i2 i3 i4 v14 lx.length (bys lx) rfl (own_g own14 ((G.refl y14).alloc _)) (some ⟨y14.heap.size, 0, none⟩) [0] 1 rfl (bys_zero y14) (by simp; omega) (by have := hg14.out.size; rw [size_al] at this ⊢; omega) ?_; intro v15 y15 own15 gr15; have hg15 := hid (G.grown (hg14.out.alloc _) gr15 (fun k hk => by rw [size_al]; exact (own14.lt k hk).1)); have own15' := own_zero own15; obtain ⟨p15, c15, ev15, hb15⟩ := own_bys own15'; subst ev15; have HB15 := hid hb15; clear own14 own15 own15' hg14 gr15 hb15))
      have t14 := take_walk p15 (lx ++ [0]) c15 y15 HB15.out (by simp; omega)
      have e14 : (lx ++ ([0] : List UInt8)).length = lx.length + 1 := by simp
      rw [T3.out, e14] at t14
      refine t14.mono ?_
      clear t14 e14
      rintro e w14 ⟨p16, c16, q16, d16, rfl, hr16, he16, hk1, hk2, g16⟩
      have g14 := ((G.refl w11).alloc _).trans (hg15.out.trans g16)
      replace BB := hid (BB.out.on g14)
      replace HG := hid (HG.out.trans g14)
      clear hg15 g14 g16 hr16 he16 hk1 hk2 HB15
      go_wp2_with (at_builtin; refine wpList_append_bys rfl (.tmp 78) (.tmp 79) rfl _ i i1 i2 i3 i4 _ 0 [] rfl (own_empty1 _ _) pb l cb rfl (BB.out.on (((G.refl w14).alloc _).alloc _)) (by omega) (by rw [size_al, size_al]; omega) ?_; intro v17 y17 own17 gr17; simp only [Nat.zero_add, List.nil_append] at own17; obtain ⟨p17, c17, ev17, hb17⟩ := own_bys own17; subst ev17; have hg17 := hid (G.grown ((G.refl _).alloc _) gr17 (fun k hk => by cases hk; exact Nat.le_of_eq (size_al _ _))); have HB17 := hid hb17; clear own17 gr17 hb17)
      refine (take_walk p17 l c17 _ HB17.out (by omega)).mono ?_
      rintro e w17 ⟨p18, c18, q18, d18, rfl, hr18, he18, hk1, hk2, g18⟩
      have g17 := ((G.refl w14).alloc _).trans (hg17.out.trans g18)
      replace BB := hid (BB.out.on g17)
      replace HG := hid (HG.out.trans g17)
      have CT := hid (show Cd w17 p18 q18 (takeR l).1.2 (takeR l).1.1 from ⟨hr18, he18⟩)
      clear hg17 g17 g18 hr18 he18 HB17
      obtain ⟨t, ht⟩ : ∃ t, Hid (takeR l = t) := ⟨_, rfl⟩
      rw [ht.out] at CT hk1 hk2 ⊢
      obtain ⟨⟨fs, zs⟩, f⟩ := t
      simp only at hk1 hk2
      by_cases hf : f = 0
      · subst hf
        have HF0 := hid (show (takeR l).2 = 0 by rw [ht.out])
        have HI : Hid (putE fs zs = 0 ∧ codeR fs zs = l ∧ (∀ x ∈ zs, InsOk x) ∧ ∀ n ∈ fs, EntOk n) := hid (by
          have h := take_inv HF0.out
          rw [ht.out] at h
          exact h)
        replace CT : Hid (Cd w17 p18 q18 zs fs) := CT
        clear HF0 ht
        dsimp only
        go_wp2_with fail
        have gd := (G.refl w17).alloc (.cells #[.slice p18 zs.length c18, .slice q18 fs.length d18] 28)
        have hpf := put_facts HI.out.1
        refine (put_any p18 q18 c18 d18 fs zs _ (by omega) (by omega) (CT.out.on gd).row (CT.out.on gd).ent HI.out.2.2.1 HI.out.2.2.2).mono ?_
        rintro e w19 ⟨g19, hp⟩
        have g := gd.trans g19
        replace BB := hid (BB.out.on g)
        replace HG := hid (HG.out.trans g)
        rcases hp with ⟨hne, _⟩ | ⟨_, v19, rfl, own19⟩
        · exact absurd HI.out.1 hne
        · rw [HI.out.2.1] at own19
          obtain ⟨p19, c19, rfl, hb19⟩ := own_bys own19
          have e1 := conv_text hb19
          have e2 := conv_text BB.out
          clear own19 hb19 g gd g19 hpf
          go_wp2_with fail
          go_ret
          exact ⟨by simp, HG.out⟩
      · have hfz : (f == 0) = false := by simp [hf]
        have hbad := take_bad (l := l) (by rw [ht.out]; exact hf)
        rw [ht.out] at hbad
        simp only [Prod.mk.injEq] at hbad
        obtain ⟨rfl, rfl⟩ := hbad
        clear hf
        go_wp2_with fail
        go_ret
        exact ⟨rfl, HG.out.alloc _⟩
    · go_wp2_with (first | (at_builtin; refine wpList_append_bys rfl (.tmp 67) (.tmp 68) rfl _ i i1 i2 i3 i4 _ 0 [] rfl (own_empty _) px lx cx rfl (BX.out.on ((G.refl w8).alloc _)) (by omega) (by simp) ?_; intro v14 y14 own14 gr14; simp only [Nat.zero_add, List.nil_append] at own14; have hg14 := hid (G.grown ((G.refl _).alloc _) gr14 (fun k hk => by cases hk; exact Nat.le_refl _)); clear gr14) | (at_builtin; refine wpList_append_bys rfl (.tmp 69) (.tmp 70) rfl _ i i1 i2 i3 i4 v14 lx.length (bys lx) rfl (own_g own14 ((G.refl y14).alloc _)) (some ⟨y14.heap.size, 0, none⟩) [0] 1 rfl (bys_zero y14) (by simp; omega) (Nat.le_trans hg14.out.size ((G.refl y14).alloc _).size) ?_; intro v15 y15 own15 gr15; have hg15 := hid (G.grown (hg14.out.alloc _) gr15 (fun k hk => (own14.lt k hk).1)); have own15' := own_zero own15; obtain ⟨p15, c15, ev15, hb15⟩ := own_bys own15'; subst ev15; have HB15 := hid hb15; clear own14 own15 own15' hg14 gr15 hb15))
      have t14 := take_walk p15 (lx ++ [0]) c15 y15 HB15.out (by simp; omega)
      have e14 : (lx ++ ([0] : List UInt8)).length = lx.length + 1 := by simp
      rw [T3.out, e14] at t14
      refine t14.mono ?_
      clear t14 e14
      rintro e w14 ⟨p16, c16, q16, d16, rfl, hr16, he16, hk1, hk2, g16⟩
      have g14 := (hg15.out.trans g16)
      replace BB := hid (BB.out.on g14)
      replace HG := hid (HG.out.trans g14)
      clear hg15 g14 g16 hr16 he16 hk1 hk2 HB15
      go_wp2_with (at_builtin; refine wpList_append_bys rfl (.tmp 78) (.tmp 79) rfl _ i i1 i2 i3 i4 _ 0 [] rfl (own_empty1 _ _) pb l cb rfl (BB.out.on (((G.refl w14).alloc _).alloc _)) (by omega) (by rw [size_al, size_al]; omega) ?_; intro v17 y17 own17 gr17; simp only [Nat.zero_add, List.nil_append] at own17; obtain ⟨p17, c17, ev17, hb17⟩ := own_bys own17; subst ev17; have hg17 := hid (G.grown ((G.refl _).alloc _) gr17 (fun k hk => by cases hk; exact Nat.le_of_eq (size_al _ _))); have HB17 := hid hb17; clear own17 gr17 hb17)
      refine (take_walk p17 l c17 _ HB17.out (by omega)).mono ?_
      rintro e w17 ⟨p18, c18, q18, d18, rfl, hr18, he18, hk1, hk2, g18⟩
      have g17 := ((G.refl w14).alloc _).trans (hg17.out.trans g18)
      replace BB := hid (BB.out.on g17)
      replace HG := hid (HG.out.trans g17)
      have CT := hid (show Cd w17 p18 q18 (takeR l).1.2 (takeR l).1.1 from ⟨hr18, he18⟩)
      clear hg17 g17 g18 hr18 he18 HB17
      obtain ⟨t, ht⟩ : ∃ t, Hid (takeR l = t) := ⟨_, rfl⟩
      rw [ht.out] at CT hk1 hk2 ⊢
      obtain ⟨⟨fs, zs⟩, f⟩ := t
      simp only at hk1 hk2
      by_cases hf : f = 0
      · subst hf
        have HF0 := hid (show (takeR l).2 = 0 by rw [ht.out])
        have HI : Hid (putE fs zs = 0 ∧ codeR fs zs = l ∧ (∀ x ∈ zs, InsOk x) ∧ ∀ n ∈ fs, EntOk n) := hid (by
          have h := take_inv HF0.out
          rw [ht.out] at h
          exact h)
        replace CT : Hid (Cd w17 p18 q18 zs fs) := CT
        clear HF0 ht
        dsimp only
        go_wp2_with fail
        have gd := (G.refl w17).alloc (.cells #[.slice p18 zs.length c18, .slice q18 fs.length d18] 28)
        have hpf := put_facts HI.out.1
        refine (put_any p18 q18 c18 d18 fs zs _ (by omega) (by omega) (CT.out.on gd).row (CT.out.on gd).ent HI.out.2.2.1 HI.out.2.2.2).mono ?_
        rintro e w19 ⟨g19, hp⟩
        have g := gd.trans g19
        replace BB := hid (BB.out.on g)
        replace HG := hid (HG.out.trans g)
        rcases hp with ⟨hne, _⟩ | ⟨_, v19, rfl, own19⟩
        · exact absurd HI.out.1 hne
        · rw [HI.out.2.1] at own19
          obtain ⟨p19, c19, rfl, hb19⟩ := own_bys own19
          have e1 := conv_text hb19
          have e2 := conv_text BB.out
          clear own19 hb19 g gd g19 hpf
          go_wp2_with fail
          go_ret
          exact ⟨by simp, HG.out⟩
      · have hfz : (f == 0) = false := by simp [hf]
        have hbad := take_bad (l := l) (by rw [ht.out]; exact hf)
        rw [ht.out] at hbad
        simp only [Prod.mk.injEq] at hbad
        obtain ⟨rfl, rfl⟩ := hbad
        clear hf
        go_wp2_with fail
        go_ret
        exact ⟨rfl, HG.out.alloc _⟩
    · go_wp2_with (first | (at_builtin; refine wpList_append_bys rfl (.tmp 67) (.tmp 68) rfl _ i i1 i2 i3 i4 _ 0 [] rfl (own_empty _) px lx cx rfl (BX.out.on ((G.refl w8).alloc _)) (by omega) (by simp) ?_; intro v14 y14 own14 gr14; simp only [Nat.zero_add, List.nil_append] at own14; have hg14 := hid (G.grown ((G.refl _).alloc _) gr14 (fun k hk => by cases hk; exact Nat.le_refl _)); clear gr14) | (at_builtin; refine wpList_append_bys rfl (.tmp 69) (.tmp 70) rfl _ i i1 i2 i3 i4 v14 lx.length (bys lx) rfl (own_g own14 ((G.refl y14).alloc _)) (some ⟨y14.heap.size, 0, none⟩) [0] 1 rfl (bys_zero y14) (by simp; omega) (Nat.le_trans hg14.out.size ((G.refl y14).alloc _).size) ?_; intro v15 y15 own15 gr15; have hg15 := hid (G.grown (hg14.out.alloc _) gr15 (fun k hk => (own14.lt k hk).1)); have own15' := own_zero own15; obtain ⟨p15, c15, ev15, hb15⟩ := own_bys own15'; subst ev15; have HB15 := hid hb15; clear own14 own15 own15' hg14 gr15 hb15))
      have t14 := take_walk p15 (lx ++ [0]) c15 y15 HB15.out (by simp; omega)
      have e14 : (lx ++ ([0] : List UInt8)).length = lx.length + 1 := by simp
      rw [T3.out, e14] at t14
      refine t14.mono ?_
      clear t14 e14
      rintro e w14 ⟨p16, c16, q16, d16, rfl, hr16, he16, hk1, hk2, g16⟩
      have g14 := (hg15.out.trans g16)
      replace BB := hid (BB.out.on g14)
      replace HG := hid (HG.out.trans g14)
      clear hg15 g14 g16 hr16 he16 hk1 hk2 HB15
      go_wp2_with (at_builtin; refine wpList_append_bys rfl (.tmp 78) (.tmp 79) rfl _ i i1 i2 i3 i4 _ 0 [] rfl (own_empty1 _ _) pb l cb rfl (BB.out.on (((G.refl w14).alloc _).alloc _)) (by omega) (by rw [size_al, size_al]; omega) ?_; intro v17 y17 own17 gr17; simp only [Nat.zero_add, List.nil_append] at own17; obtain ⟨p17, c17, ev17, hb17⟩ := own_bys own17; subst ev17; have hg17 := hid (G.grown ((G.refl _).alloc _) gr17 (fun k hk => by cases hk; exact Nat.le_of_eq (size_al _ _))); have HB17 := hid hb17; clear own17 gr17 hb17)
      refine (take_walk p17 l c17 _ HB17.out (by omega)).mono ?_
      rintro e w17 ⟨p18, c18, q18, d18, rfl, hr18, he18, hk1, hk2, g18⟩
      have g17 := ((G.refl w14).alloc _).trans (hg17.out.trans g18)
      replace BB := hid (BB.out.on g17)
      replace HG := hid (HG.out.trans g17)
      have CT := hid (show Cd w17 p18 q18 (takeR l).1.2 (takeR l).1.1 from ⟨hr18, he18⟩)
      clear hg17 g17 g18 hr18 he18 HB17
      obtain ⟨t, ht⟩ : ∃ t, Hid (takeR l = t) := ⟨_, rfl⟩
      rw [ht.out] at CT hk1 hk2 ⊢
      obtain ⟨⟨fs, zs⟩, f⟩ := t
      simp only at hk1 hk2
      by_cases hf : f = 0
      · subst hf
        have HF0 := hid (show (takeR l).2 = 0 by rw [ht.out])
        have HI : Hid (putE fs zs = 0 ∧ codeR fs zs = l ∧ (∀ x ∈ zs, InsOk x) ∧ ∀ n ∈ fs, EntOk n) := hid (by
          have h := take_inv HF0.out
          rw [ht.out] at h
          exact h)
        replace CT : Hid (Cd w17 p18 q18 zs fs) := CT
        clear HF0 ht
        dsimp only
        go_wp2_with fail
        have gd := (G.refl w17).alloc (.cells #[.slice p18 zs.length c18, .slice q18 fs.length d18] 28)
        have hpf := put_facts HI.out.1
        refine (put_any p18 q18 c18 d18 fs zs _ (by omega) (by omega) (CT.out.on gd).row (CT.out.on gd).ent HI.out.2.2.1 HI.out.2.2.2).mono ?_
        rintro e w19 ⟨g19, hp⟩
        have g := gd.trans g19
        replace BB := hid (BB.out.on g)
        replace HG := hid (HG.out.trans g)
        rcases hp with ⟨hne, _⟩ | ⟨_, v19, rfl, own19⟩
        · exact absurd HI.out.1 hne
        · rw [HI.out.2.1] at own19
          obtain ⟨p19, c19, rfl, hb19⟩ := own_bys own19
          have e1 := conv_text hb19
          have e2 := conv_text BB.out
          clear own19 hb19 g gd g19 hpf
          go_wp2_with fail
          go_ret
          exact ⟨by simp, HG.out⟩
      · have hfz : (f == 0) = false := by simp [hf]
        have hbad := take_bad (l := l) (by rw [ht.out]; exact hf)
        rw [ht.out] at hbad
        simp only [Prod.mk.injEq] at hbad
        obtain ⟨rfl, rfl⟩ := hbad
        clear hf
        go_wp2_with fail
        go_ret
        exact ⟨rfl, HG.out.alloc _⟩
end Go.Proofs.YtpeioflembhedaaDoor
