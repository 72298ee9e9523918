/-
  CodeAll, walked: whatever the code and the bytes, both ways of the document and the program agree. No conditions but the library's own.
-/
import Derived.Test.YtpeioflembhedaaDoorTakeRef
import Derived.Test.YtpeioflembhedaaDoorLineAny
namespace Go.Proofs.YtpeioflembhedaaDoor
open Go.RowKit

/-- The row of code in the variable, as Put and Same read it. -/
structure Cd (w : World) (p q : Option Addr) (ys : List I) (es : List Int) : Prop where
  row : Row w p ys
  ent : Ents w q es
theorem Cd.on {w w' : World} {p q : Option Addr} {ys : List I} {es : List Int} (h : Cd w p q ys es) (g : G w w') : Cd w' p q ys es := ⟨h.row.on g, h.ent.on g⟩
/-- The bytes that Put hands out. -/
def putL (es : List Int) (xs : List I) : List UInt8 := if putE es xs = 0 then codeR es xs else []
theorem put_bys {w w' : World} {es : List Int} {xs : List I} {e : Ending} (h : PutPost w es xs e w') : G w w' ∧ ∃ p c, e = .returned (.tuple #[.slice p (putL es xs).length c, .int .i64 (putE es xs)]) ∧ Bys w' p (putL es xs) c := by
  obtain ⟨g, ⟨h0, rfl⟩ | ⟨h0, v, rfl, ho⟩⟩ := h
  · have e : putL es xs = [] := by unfold putL; rw [if_neg h0]
    rw [e]
    exact ⟨g, none, 0, rfl, Nat.le_refl _, .inl rfl⟩
  · have e : putL es xs = codeR es xs := by unfold putL; rw [if_pos h0]
    rw [e, h0]
    obtain ⟨p, c, rfl, hb⟩ := own_bys ho
    exact ⟨g, p, c, rfl, hb⟩
theorem take_small (l : List UInt8) : (takeR l).1.2.length ≤ 1200 ∧ (takeR l).1.1.length ≤ 1200 := by
  by_cases h : (takeR l).2 = 0
  · have h1 := put_facts (take_inv h).1
    omega
  · rw [take_bad h]
    exact ⟨Nat.zero_le _, Nat.zero_le _⟩
theorem may_prog {o a b : Int} {s : ByteArray} {y : Bool} (h : mayR o a b s = y) (w : World) (h0 : -9223372036854775808 ≤ o) (h1 : o ≤ 9223372036854775807) : Calls Tryd.prog 10 #[V o a b s] w fun e w' => e = .returned (.bool y) ∧ G w w' := by
  subst h
  exact may_any o a b s w h0 h1
theorem may_doc {o a b : Int} {s : ByteArray} {y : Bool} (h : mayR o a b s = y) (w : World) : Calls Tryd.prog 18 #[V o a b s] w fun e w' => e = .returned (.bool y) ∧ G w w' := by
  subst h
  exact may_ref o a b s w
section
variable {ops : Array Oper} {a : Act} {w : World} {o : Oper}
theorem pure_loadV {x : Operand} {bk off : Nat} {t n u : Int} {s : ByteArray} (hw : Region.wanted o (yielded ops a.tmps) = true) (h : o.op = .load 23 x) (hx : a.eval x = .pointer (some ⟨bk, off, none⟩)) (hc : InsAt w bk off (t, n, u, s)) : pureAt Tryd.prog ops o a w (V t n u s) := pure_loadI (i := (t, n, u, s)) hw h hx hc
end
set_option maxRecDepth 100000 in
set_option maxHeartbeats 8000000 in
theorem all_walk (p q pb : Option Addr) (cap mc cb : Nat) (xs : List I) (es : List Int) (lb : List UInt8) (w : World) (ht : Tab w) (hm : Max w) (hmc : es.length ≤ mc) (hrow : Row w p xs) (hent : Ents w q es) (hbys : Bys w pb lb cb) (hx : ∀ x ∈ xs, IntsI x) (he : ∀ n ∈ es, EntOk n) :
    Calls Tryd.prog 5 #[.agg #[.slice p xs.length cap, .slice q es.length mc], .slice pb lb.length cb] w fun e w' => e = .returned (.bool true) ∧ G w w' := by
  have HT := hid ht
  have HM := hid hm
  have HR := hid hrow
  have HE := hid hent
  have BB0 := hid hbys
  have HX := hid (fewI_ok xs hx)
  have HF := hid he
  have hcb := hbys.1
  clear ht hm hrow hent hx he hbys
  obtain ⟨ys, hys⟩ : ∃ ys, Hid (fewI xs = ys) := ⟨_, rfl⟩
  obtain ⟨es', hes⟩ : ∃ es', Hid (es.take 8 = es') := ⟨_, rfl⟩
  rw [hys.out] at HX
  have HYL : Hid (ys.length ≤ 40) := hid (by rw [← hys.out, fewI_len]; omega)
  have HEL : Hid (es'.length ≤ 8) := hid (by rw [← hes.out, List.length_take]; omega)
  have HF8 : Hid (∀ n ∈ es', EntOk n) := hid (fun n hn => HF.out n (List.mem_of_mem_take (by rw [hes.out]; exact hn)))
  obtain ⟨l, hl⟩ : ∃ l, Hid (lb.take 3000 = l) := ⟨_, rfl⟩
  have HLL : Hid (l.length = min lb.length 3000) := hid (by rw [← hl.out, List.length_take]; omega)
  have hl3 : l.length ≤ 3000 := by have := HLL.out; omega
  go_enter Tryd.func5, Tryd.ntmps5
  go_wp2_with fail
  have BC := hid (Var.alloc w (.slice p xs.length cap) (.slice q es.length mc) 28)
  have HG := hid ((G.refl w).alloc (.cells #[.slice p xs.length cap, .slice q es.length mc] 28))
  refine (shown_any _ (tab_on HT.out HG.out) (max_on HM.out HG.out)).mono ?_
  rintro e w1 ⟨rfl, g⟩
  replace BC := hid (BC.out.mono g)
  replace HG := hid (HG.out.trans g)
  clear g
  obtain ⟨l0, p0, q0, f0⟩ := BC.out
  go_wp2_with fail
  refine (few_row p cap mc xs es q _ hmc (HR.out.on HG.out) hys.out hes.out).mono ?_
  rintro e w2 ⟨p', c', rfl, hr2, hc2, hb2, g⟩
  clear l0 p0 q0 f0
  have hl1 := BC.out.lt
  replace BC := hid (BC.out.mono g)
  replace HG := hid (HG.out.trans g)
  obtain ⟨l0, p0, q0, f0⟩ := BC.out
  go_wp2_with fail
  have hs2 := HG.out.size
  have G1 : Turn (fun k => k = w.heap.size) w2 (w2.setCell ⟨w.heap.size, 0, none⟩ (.slice p' ys.length c')) := Turn.set (X := fun k => k = w.heap.size) _ rfl _
  have G2 : Turn (fun k => k = w.heap.size) w2 ((w2.setCell ⟨w.heap.size, 0, none⟩ (.slice p' ys.length c')).setCell ⟨w.heap.size, 1, none⟩ (.slice q es'.length mc)) := G1.trans (Turn.set (X := fun k => k = w.heap.size) _ rfl _)
  have HR2 := hid (hr2.turn G2 (fun a ha => by have := hb2 a ha; omega))
  replace HG := hid (G2.G HG.out (fun k hk => by omega))
  replace BC := hid ((BC.out.set (.slice p' ys.length c')).set1 (.slice q es'.length mc))
  clear l0 p0 q0 f0 g hr2 hc2 hb2 hl1 hs2 G1 G2
  generalize (w2.setCell ⟨w.heap.size, 0, none⟩ (.slice p' ys.length c')).setCell ⟨w.heap.size, 1, none⟩ (.slice q es'.length mc) = w3 at HR2 HG BC ⊢
  have HE3 : Hid (Ents w3 q es') := hid (by
    rw [← hes.out]
    exact (HE.out.on HG.out).take 8)
  have CD : Hid (Cd w3 p' q ys es') := hid ⟨HR2.out, HE3.out⟩
  have BB : Hid (Bys w3 pb l cb) := hid (by
    rw [← hl.out]
    exact (BB0.out.on HG.out).take 3000)
  clear HR2 HE3 BB0
  refine (short_any pb lb.length cb _ hcb).mono ?_
  rintro e w4 ⟨rfl, rfl⟩
  rw [← HLL.out]
  obtain ⟨l0, p0, q0, f0⟩ := BC.out
  go_wp2_with fail
  refine (put_any p' q c' mc es' ys _ (by have := HYL.out; omega) (by have := HEL.out; omega) CD.out.row CD.out.ent (fun y hy => (HX.out y hy).1) HF8.out).mono ?_
  rintro e w5 hp
  obtain ⟨g, px, cx, rfl, hbx⟩ := put_bys hp
  clear l0 p0 q0 f0 hp
  replace BC := hid (BC.out.mono g)
  replace HG := hid (HG.out.trans g)
  replace CD := hid (CD.out.on g)
  replace BB := hid (BB.out.on g)
  have BX := hid hbx
  clear g hbx
  obtain ⟨lx, hlx⟩ : ∃ lx, Hid (putL es' ys = lx) := ⟨_, rfl⟩
  obtain ⟨ex, hex⟩ : ∃ ex, Hid (putE es' ys = ex) := ⟨_, rfl⟩
  rw [hlx.out] at BX
  rw [hlx.out, hex.out]
  obtain ⟨l0, p0, q0, f0⟩ := BC.out
  go_wp2_with fail
  refine (put_ref p' q c' mc es' ys _ (by have := HYL.out; omega) (by have := HEL.out; omega) CD.out.row CD.out.ent (fun y hy => (HX.out y hy).1) HF8.out).mono ?_
  rintro e w6 hp
  obtain ⟨g, py, cy, rfl, hby⟩ := put_bys hp
  clear l0 p0 q0 f0 hp
  replace BC := hid (BC.out.mono g)
  replace HG := hid (HG.out.trans g)
  replace CD := hid (CD.out.on g)
  replace BB := hid (BB.out.on g)
  replace BX := hid (BX.out.on g)
  have BY := hid hby
  clear g hby
  rw [hlx.out] at BY
  rw [hlx.out, hex.out]
  obtain ⟨i, i1, i2, i3, i4⟩ := info5
  go_wp2_with (first | (at_builtin; refine wpList_append_bys rfl (.tmp 32) (.tmp 33) rfl w6.heap.size i i1 i2 i3 i4 _ 0 [] rfl (own_empty w6) pb l cb rfl (BB.out.on ((G.refl w6).alloc _)) (by omega) (by simp) ?_; intro v17 y17 own17 gr17; simp only [Nat.zero_add, List.nil_append] at own17; obtain ⟨p17, c17, ev17, hb17⟩ := own_bys own17; subst ev17; have hg17 := hid (((G.refl w6).alloc (.cells #[] 5)).grown gr17 (fun k hk => by cases hk; exact Nat.le_refl _)); have HB17 := hid hb17; clear own17 gr17 hb17))
  refine (take_walk p17 l c17 _ HB17.out (by omega)).mono ?_
  rintro e w7 ⟨p18, c18, q18, d18, rfl, hr18, he18, hk1, hk2, g18⟩
  have g17 := hg17.out.trans g18
  replace BC := hid (BC.out.mono g17)
  replace HG := hid (HG.out.trans g17)
  replace CD := hid (CD.out.on g17)
  replace BB := hid (BB.out.on g17)
  replace BX := hid (BX.out.on g17)
  replace BY := hid (BY.out.on g17)
  have CT := hid (show Cd w7 p18 q18 (takeR l).1.2 (takeR l).1.1 from ⟨hr18, he18⟩)
  clear hg17 g17 g18 hr18 he18 HB17
  have HSM := hid (take_small l)
  obtain ⟨t, ht⟩ : ∃ t, Hid (takeR l = t) := ⟨_, rfl⟩
  rw [ht.out] at CT hk1 hk2 HSM ⊢
  obtain ⟨⟨fs, zs⟩, f⟩ := t
  simp only at hk1 hk2
  replace CT : Hid (Cd w7 p18 q18 zs fs) := CT
  replace HSM : Hid (zs.length ≤ 1200 ∧ fs.length ≤ 1200) := HSM
  dsimp only
  go_wp2_with fail
  have g := (G.refl w7).alloc (.cells #[.slice p18 zs.length c18, .slice q18 fs.length d18] 28)
  have VP := hid (Var.alloc w7 (.slice p18 zs.length c18) (.slice q18 fs.length d18) 28)
  have tk := take_ref pb l cb _ (BB.out.on g) (by omega)
  rw [ht.out] at tk
  refine tk.mono ?_
  clear tk
  rintro e w8 ⟨p19, c19, q19, d19, rfl, hr19, he19, hk3, hk4, g19⟩
  replace VP := hid (VP.out.mono g19)
  replace g := g.trans g19
  replace BC := hid (BC.out.mono g)
  replace HG := hid (HG.out.trans g)
  replace CD := hid (CD.out.on g)
  replace BB := hid (BB.out.on g)
  replace BX := hid (BX.out.on g)
  replace BY := hid (BY.out.on g)
  replace CT := hid (CT.out.on g)
  have CU := hid (show Cd w8 p19 q19 zs fs from ⟨hr19, he19⟩)
  clear g g19 hr19 he19
  dsimp only
  simp only at hk3 hk4
  obtain ⟨l1, p1, q1, f1⟩ := VP.out
  go_wp2_with fail
  have g := (G.refl w8).alloc (.cells #[.slice p19 zs.length c19, .slice q19 fs.length d19] 28)
  refine (same_any p18 q18 p19 q19 c18 d18 c19 d19 zs fs _ (CT.out.on g).row (CU.out.on g).row (CT.out.on g).ent (CU.out.on g).ent (by have := HSM.out; omega) (by have := HSM.out; omega)).mono ?_
  rintro e w9 ⟨rfl, g9⟩
  replace g := g.trans g9
  clear l1 p1 q1 f1
  replace BC := hid (BC.out.mono g)
  replace HG := hid (HG.out.trans g)
  replace CD := hid (CD.out.on g)
  replace BX := hid (BX.out.on g)
  replace BY := hid (BY.out.on g)
  clear g g9 hk1 hk2 hk3 hk4 CU CT VP HSM
  go_wp2_with fail
  go_loopg [15] ys.length (fun n j wx => ∃ k : Nat, k ≤ ys.length ∧ n = ys.length - k ∧ j = .int .i64 k ∧ G w9 wx)
  case atStart => exact ⟨0, by omega, rfl, rfl, G.refl _⟩
  case round =>
    obtain ⟨k, hk, rfl, rfl, hg⟩ := hrel
    have HGX := hid hg
    have hyl := HYL.out
    have VC := hid (BC.out.mono hg)
    clear hg
    obtain ⟨l0, p0, q0, f0⟩ := VC.out
    by_cases hkl : k < ys.length
    · obtain ⟨x, hx⟩ : ∃ x, ys[k]? = some x := ⟨ys[k], by simp [hkl]⟩
      have hxm := List.mem_of_getElem? hx
      obtain ⟨hxo, hxs⟩ := HX.out x hxm
      have HO := hid hxo
      have HS := hid hxs
      obtain ⟨bk, off, rfl, hat⟩ := CD.out.row k x hx
      obtain ⟨o, a, b, tx⟩ := x
      obtain ⟨may, hmay⟩ : ∃ y, Hid (mayR o a b tx = y) := ⟨_, rfl⟩
      have hat1 := hat.on HGX.out.drew
      have hkz : (k : Int) < (ys.length : Int) := by omega
      clear hx hxm hxo hxs
      go_upto_region 12 with (fail)
      have x0 := VC.out.mono (G.drew (G.refl wr))
      have g0 := HGX.out.drew
      have t0 := tab_on HT.out (HG.out.trans g0)
      have m0 := max_on HM.out (HG.out.trans g0)
      clear l0 p0 q0 f0
      have i0 : InsAt wr.drew bk (off + k * 4) (o, a, b, tx) := hat1
      refine wp_region_chainK 119 [0, 1, 2, 3, 4, 6, 7, 8, 9, 10, 12, 13, 14, 15, 16, 17, 18, 20, 21, 22, 23, 24, 26, 27, 28, 29, 30, 31, 32, 33, 34, 36, 37, 38, 39, 40, 41, 43, 44] [5, 11, 19, 25, 35, 42] [0, 2, 3, 6, 8, 9, 12, 13, 14, 16, 17, 20, 22, 23, 26, 27, 28, 29, 31, 32, 33, 36, 38, 39, 40, 43, 44] [5, 11, 19, 25, 35, 42] (fun _ _ => false) [53, 54, 55, 56, 57, 58, 59, 60, 61, 62, 63, 64, 65, 66, 67, 68, 69, 70, 71, 72, 73, 74, 75, 76, 77, 78, 79, 80, 81, 82, 83, 84, 85, 86, 87, 88, 89, 90, 91, 92, 93, 94, 95, 96, 97] (fun j => if j = 0 then [1, 4, 7, 10] else if j = 1 then [7, 10] else if j = 2 then [15, 18, 21, 24] else if j = 3 then [21, 24] else if j = 4 then [30, 34, 37, 41] else if j = 5 then [37, 41] else []) (fun i => if i = 0 ∨ i = 6 ∨ i = 14 ∨ i = 20 ∨ i = 29 ∨ i = 36 then .pointer (some ⟨w.heap.size, 0, none⟩) else if i = 1 ∨ i = 7 ∨ i = 15 ∨ i = 21 ∨ i = 30 ∨ i = 37 then .slice (some ⟨bk, off, none⟩) ys.length c' else if i = 2 ∨ i = 8 ∨ i = 16 ∨ i = 22 ∨ i = 31 ∨ i = 38 then .int .i64 k else if i = 3 ∨ i = 9 ∨ i = 17 ∨ i = 23 ∨ i = 32 ∨ i = 33 ∨ i = 39 ∨ i = 40 then .pointer (some ⟨bk, off + k * 4, none⟩) else if i = 4 ∨ i = 10 ∨ i = 18 ∨ i = 24 then V o a b tx else if i = 12 ∨ i = 13 ∨ i = 26 ∨ i = 27 ∨ i = 28 ∨ i = 43 ∨ i = 44 then .bool false else if i = 34 ∨ i = 41 then .int .i64 o else if i = 5 ∨ i = 11 then .bool may else if i = 19 ∨ i = 25 then .string (lineR o a b tx) else .string (nameR o)) (by kernel_rfl) (by kernel_rfl) (by kernel_rfl) rfl ?_ ?_
      · intro w9
        refine ⟨⟨_, rfl, fun ac hin => ?_⟩, ⟨_, rfl, fun ac hin => ?_⟩, ⟨_, rfl, fun ac hin => ?_⟩, ⟨_, rfl, fun ac hin => ?_⟩, ⟨_, rfl, fun ac hin => ?_⟩, ⟨_, rfl, fun ac hin => ?_⟩, ⟨_, rfl, fun ac hin => ?_⟩, ⟨_, rfl, fun ac hin => ?_⟩, ⟨_, rfl, fun ac hin => ?_⟩, ⟨_, rfl, fun ac hin => ?_⟩, ⟨_, rfl, fun ac hin => ?_⟩, ⟨_, rfl, fun ac hin => ?_⟩, ⟨_, rfl, fun ac hin => ?_⟩, ⟨_, rfl, fun ac hin => ?_⟩, ⟨_, rfl, fun ac hin => ?_⟩, ⟨_, rfl, fun ac hin => ?_⟩, ⟨_, rfl, fun ac hin => ?_⟩, ⟨_, rfl, fun ac hin => ?_⟩, ⟨_, rfl, fun ac hin => ?_⟩, ⟨_, rfl, fun ac hin => ?_⟩, ⟨_, rfl, fun ac hin => ?_⟩, ⟨_, rfl, fun ac hin => ?_⟩, ⟨_, rfl, fun ac hin => ?_⟩, ⟨_, rfl, fun ac hin => ?_⟩, ⟨_, rfl, fun ac hin => ?_⟩, ⟨_, rfl, fun ac hin => ?_⟩, ⟨_, rfl, fun ac hin => ?_⟩, trivial⟩
        · have h2 : ac.eval (.tmp 2) = .pointer (some ⟨w.heap.size, 0, none⟩) := hin 2 (by decide)
          exact pure_addr28 rfl rfl (by decide) h2
        · have h15 : ac.eval (.tmp 15) = .int .i64 k := hin 15 (by decide)
          exact pure_move rfl rfl h15
        · have h54 : ac.eval (.tmp 54) = .slice (some ⟨bk, off, none⟩) ys.length c' := hin 54 (by decide)
          have h55 : ac.eval (.tmp 55) = .int .i64 k := hin 55 (by decide)
          exact pure_index25 rfl rfl h54 h55 hkl
        · have h2 : ac.eval (.tmp 2) = .pointer (some ⟨w.heap.size, 0, none⟩) := hin 2 (by decide)
          exact pure_addr28 rfl rfl (by decide) h2
        · have h15 : ac.eval (.tmp 15) = .int .i64 k := hin 15 (by decide)
          exact pure_move rfl rfl h15
        · have h60 : ac.eval (.tmp 60) = .slice (some ⟨bk, off, none⟩) ys.length c' := hin 60 (by decide)
          have h61 : ac.eval (.tmp 61) = .int .i64 k := hin 61 (by decide)
          exact pure_index25 rfl rfl h60 h61 hkl
        · have h58 : ac.eval (.tmp 58) = .bool may := hin 58 (by decide)
          have h64 : ac.eval (.tmp 64) = .bool may := hin 64 (by decide)
          exact pure_nebool rfl rfl h58 h64
        · have h65 : ac.eval (.tmp 65) = .bool false := hin 65 (by decide)
          exact pure_move rfl rfl h65
        · have h2 : ac.eval (.tmp 2) = .pointer (some ⟨w.heap.size, 0, none⟩) := hin 2 (by decide)
          have h66 : ac.eval (.tmp 66) = .bool false := hin 66 (by decide)
          exact pure_addr28 (wanted_yes rfl rfl h66) rfl (by decide) h2
        · have h15 : ac.eval (.tmp 15) = .int .i64 k := hin 15 (by decide)
          have h66 : ac.eval (.tmp 66) = .bool false := hin 66 (by decide)
          exact pure_move (wanted_yes rfl rfl h66) rfl h15
        · have h68 : ac.eval (.tmp 68) = .slice (some ⟨bk, off, none⟩) ys.length c' := hin 68 (by decide)
          have h69 : ac.eval (.tmp 69) = .int .i64 k := hin 69 (by decide)
          have h66 : ac.eval (.tmp 66) = .bool false := hin 66 (by decide)
          exact pure_index25 (wanted_yes rfl rfl h66) rfl h68 h69 hkl
        · have h2 : ac.eval (.tmp 2) = .pointer (some ⟨w.heap.size, 0, none⟩) := hin 2 (by decide)
          have h66 : ac.eval (.tmp 66) = .bool false := hin 66 (by decide)
          exact pure_addr28 (wanted_yes rfl rfl h66) rfl (by decide) h2
        · have h15 : ac.eval (.tmp 15) = .int .i64 k := hin 15 (by decide)
          have h66 : ac.eval (.tmp 66) = .bool false := hin 66 (by decide)
          exact pure_move (wanted_yes rfl rfl h66) rfl h15
        · have h74 : ac.eval (.tmp 74) = .slice (some ⟨bk, off, none⟩) ys.length c' := hin 74 (by decide)
          have h75 : ac.eval (.tmp 75) = .int .i64 k := hin 75 (by decide)
          have h66 : ac.eval (.tmp 66) = .bool false := hin 66 (by decide)
          exact pure_index25 (wanted_yes rfl rfl h66) rfl h74 h75 hkl
        · have h72 : ac.eval (.tmp 72) = .string (lineR o a b tx) := hin 72 (by decide)
          have h78 : ac.eval (.tmp 78) = .string (lineR o a b tx) := hin 78 (by decide)
          have h66 : ac.eval (.tmp 66) = .bool false := hin 66 (by decide)
          exact pure_netext (wanted_yes rfl rfl h66) rfl h72 h78
        · have h66 : ac.eval (.tmp 66) = .bool false := hin 66 (by decide)
          have h79 : ac.eval (.tmp 79) = .bool false := hin 79 (by decide)
          exact pure_pick rfl rfl h66 h79
        · have h80 : ac.eval (.tmp 80) = .bool false := hin 80 (by decide)
          exact pure_move rfl rfl h80
        · have h2 : ac.eval (.tmp 2) = .pointer (some ⟨w.heap.size, 0, none⟩) := hin 2 (by decide)
          have h81 : ac.eval (.tmp 81) = .bool false := hin 81 (by decide)
          exact pure_addr28 (wanted_yes rfl rfl h81) rfl (by decide) h2
        · have h15 : ac.eval (.tmp 15) = .int .i64 k := hin 15 (by decide)
          have h81 : ac.eval (.tmp 81) = .bool false := hin 81 (by decide)
          exact pure_move (wanted_yes rfl rfl h81) rfl h15
        · have h83 : ac.eval (.tmp 83) = .slice (some ⟨bk, off, none⟩) ys.length c' := hin 83 (by decide)
          have h84 : ac.eval (.tmp 84) = .int .i64 k := hin 84 (by decide)
          have h81 : ac.eval (.tmp 81) = .bool false := hin 81 (by decide)
          exact pure_index25 (wanted_yes rfl rfl h81) rfl h83 h84 hkl
        · have h85 : ac.eval (.tmp 85) = .pointer (some ⟨bk, off + k * 4, none⟩) := hin 85 (by decide)
          have h81 : ac.eval (.tmp 81) = .bool false := hin 81 (by decide)
          exact pure_addr23_0 (wanted_yes rfl rfl h81) rfl h85
        · have h2 : ac.eval (.tmp 2) = .pointer (some ⟨w.heap.size, 0, none⟩) := hin 2 (by decide)
          have h81 : ac.eval (.tmp 81) = .bool false := hin 81 (by decide)
          exact pure_addr28 (wanted_yes rfl rfl h81) rfl (by decide) h2
        · have h15 : ac.eval (.tmp 15) = .int .i64 k := hin 15 (by decide)
          have h81 : ac.eval (.tmp 81) = .bool false := hin 81 (by decide)
          exact pure_move (wanted_yes rfl rfl h81) rfl h15
        · have h90 : ac.eval (.tmp 90) = .slice (some ⟨bk, off, none⟩) ys.length c' := hin 90 (by decide)
          have h91 : ac.eval (.tmp 91) = .int .i64 k := hin 91 (by decide)
          have h81 : ac.eval (.tmp 81) = .bool false := hin 81 (by decide)
          exact pure_index25 (wanted_yes rfl rfl h81) rfl h90 h91 hkl
        · have h92 : ac.eval (.tmp 92) = .pointer (some ⟨bk, off + k * 4, none⟩) := hin 92 (by decide)
          have h81 : ac.eval (.tmp 81) = .bool false := hin 81 (by decide)
          exact pure_addr23_0 (wanted_yes rfl rfl h81) rfl h92
        · have h88 : ac.eval (.tmp 88) = .string (nameR o) := hin 88 (by decide)
          have h95 : ac.eval (.tmp 95) = .string (nameR o) := hin 95 (by decide)
          have h81 : ac.eval (.tmp 81) = .bool false := hin 81 (by decide)
          exact pure_netext (wanted_yes rfl rfl h81) rfl h88 h95
        · have h81 : ac.eval (.tmp 81) = .bool false := hin 81 (by decide)
          have h96 : ac.eval (.tmp 96) = .bool false := hin 96 (by decide)
          exact pure_pick rfl rfl h81 h96
      · skip
        refine ⟨⟨⟨_, rfl, fun ac hin => ?_⟩, ⟨_, rfl, fun ac hin => ?_⟩, ⟨_, rfl, fun ac hin => ?_⟩, ⟨_, rfl, fun ac hin => ?_⟩, trivial⟩, _, rfl, fun ac hin => ?_⟩
        · have h53 : ac.eval (.tmp 53) = .pointer (some ⟨w.heap.size, 0, none⟩) := hin 53 (by decide)
          exact pure_load25 rfl rfl h53 x0.c0
        · have h56 : ac.eval (.tmp 56) = .pointer (some ⟨bk, off + k * 4, none⟩) := hin 56 (by decide)
          exact pure_loadV rfl rfl h56 i0
        · have h59 : ac.eval (.tmp 59) = .pointer (some ⟨w.heap.size, 0, none⟩) := hin 59 (by decide)
          exact pure_load25 rfl rfl h59 x0.c0
        · have h62 : ac.eval (.tmp 62) = .pointer (some ⟨bk, off + k * 4, none⟩) := hin 62 (by decide)
          exact pure_loadV rfl rfl h62 i0
        have h57 : ac.eval (.tmp 57) = V o a b tx := hin 57 (by decide)
        refine ⟨rfl, ?_⟩
        refine eff_call Tryd.call10 #[V o a b tx] (by simp only [List.map_toArray, List.map_cons, List.map_nil, h57]; try rfl) ((may_prog hmay.out _ HO.out.o.1 HO.out.o.2).mono ?_)
        rintro e w10 ⟨rfl, g⟩
        refine ⟨_, rfl, ?_⟩
        have x1 := x0.mono g
        have i1 := i0.on g
        have g1 := g0.trans g
        have t1 := tab_on t0 g
        have m1 := max_on m0 g
        clear g
        refine ⟨fun _ => rfl, ?_⟩
        refine ⟨⟨⟨_, rfl, fun ac hin => ?_⟩, ⟨_, rfl, fun ac hin => ?_⟩, trivial⟩, _, rfl, fun ac hin => ?_⟩
        · have h59 : ac.eval (.tmp 59) = .pointer (some ⟨w.heap.size, 0, none⟩) := hin 59 (by decide)
          exact pure_load25 rfl rfl h59 x1.c0
        · have h62 : ac.eval (.tmp 62) = .pointer (some ⟨bk, off + k * 4, none⟩) := hin 62 (by decide)
          exact pure_loadV rfl rfl h62 i1
        have h63 : ac.eval (.tmp 63) = V o a b tx := hin 63 (by decide)
        refine ⟨rfl, ?_⟩
        refine eff_call Tryd.call18 #[V o a b tx] (by simp only [List.map_toArray, List.map_cons, List.map_nil, h63]; try rfl) ((may_doc hmay.out _).mono ?_)
        rintro e w11 ⟨rfl, g⟩
        refine ⟨_, rfl, ?_⟩
        have x2 := x1.mono g
        have i2 := i1.on g
        have g2 := g1.trans g
        have t2 := tab_on t1 g
        have m2 := max_on m1 g
        clear g
        refine ⟨fun _ => rfl, ?_⟩
        refine ⟨⟨⟨_, rfl, fun ac hin => ?_⟩, ⟨_, rfl, fun ac hin => ?_⟩, ⟨_, rfl, fun ac hin => ?_⟩, ⟨_, rfl, fun ac hin => ?_⟩, trivial⟩, _, rfl, fun ac hin => ?_⟩
        · have h67 : ac.eval (.tmp 67) = .pointer (some ⟨w.heap.size, 0, none⟩) := hin 67 (by decide)
          have h66 : ac.eval (.tmp 66) = .bool false := hin 66 (by decide)
          exact pure_load25 (wanted_yes rfl rfl h66) rfl h67 x2.c0
        · have h70 : ac.eval (.tmp 70) = .pointer (some ⟨bk, off + k * 4, none⟩) := hin 70 (by decide)
          have h66 : ac.eval (.tmp 66) = .bool false := hin 66 (by decide)
          exact pure_loadV (wanted_yes rfl rfl h66) rfl h70 i2
        · have h73 : ac.eval (.tmp 73) = .pointer (some ⟨w.heap.size, 0, none⟩) := hin 73 (by decide)
          have h66 : ac.eval (.tmp 66) = .bool false := hin 66 (by decide)
          exact pure_load25 (wanted_yes rfl rfl h66) rfl h73 x2.c0
        · have h76 : ac.eval (.tmp 76) = .pointer (some ⟨bk, off + k * 4, none⟩) := hin 76 (by decide)
          have h66 : ac.eval (.tmp 66) = .bool false := hin 66 (by decide)
          exact pure_loadV (wanted_yes rfl rfl h66) rfl h76 i2
        have h71 : ac.eval (.tmp 71) = V o a b tx := hin 71 (by decide)
        have h66 : ac.eval (.tmp 66) = .bool false := hin 66 (by decide)
        refine ⟨(wanted_yes rfl rfl h66), ?_⟩
        refine eff_call Tryd.call11 #[V o a b tx] (by simp only [List.map_toArray, List.map_cons, List.map_nil, h71]; try rfl) ((line_any o a b tx _ HO.out.o.1 HO.out.o.2 HO.out.a.1 HO.out.a.2 HO.out.b.1 HO.out.b.2 (by have h := HS.out; simp at h; omega) t2 m2).mono ?_)
        rintro e w12 ⟨rfl, g⟩
        refine ⟨_, rfl, ?_⟩
        have x3 := x2.mono g
        have i3 := i2.on g
        have g3 := g2.trans g
        have t3 := tab_on t2 g
        have m3 := max_on m2 g
        clear g
        refine ⟨fun _ => rfl, ?_⟩
        refine ⟨⟨⟨_, rfl, fun ac hin => ?_⟩, ⟨_, rfl, fun ac hin => ?_⟩, trivial⟩, _, rfl, fun ac hin => ?_⟩
        · have h73 : ac.eval (.tmp 73) = .pointer (some ⟨w.heap.size, 0, none⟩) := hin 73 (by decide)
          have h66 : ac.eval (.tmp 66) = .bool false := hin 66 (by decide)
          exact pure_load25 (wanted_yes rfl rfl h66) rfl h73 x3.c0
        · have h76 : ac.eval (.tmp 76) = .pointer (some ⟨bk, off + k * 4, none⟩) := hin 76 (by decide)
          have h66 : ac.eval (.tmp 66) = .bool false := hin 66 (by decide)
          exact pure_loadV (wanted_yes rfl rfl h66) rfl h76 i3
        have h77 : ac.eval (.tmp 77) = V o a b tx := hin 77 (by decide)
        have h66 : ac.eval (.tmp 66) = .bool false := hin 66 (by decide)
        refine ⟨(wanted_yes rfl rfl h66), ?_⟩
        refine eff_call Tryd.call19 #[V o a b tx] (by simp only [List.map_toArray, List.map_cons, List.map_nil, h77]; try rfl) ((line_ref o a b tx _ HO.out.a.1 HO.out.a.2 HO.out.b.1 HO.out.b.2 t3 (by have h := HS.out; simp at h; omega)).mono ?_)
        rintro e w13 ⟨rfl, g⟩
        refine ⟨_, rfl, ?_⟩
        have x4 := x3.mono g
        have i4 := i3.on g
        have g4 := g3.trans g
        have t4 := tab_on t3 g
        have m4 := max_on m3 g
        clear g
        refine ⟨fun _ => rfl, ?_⟩
        refine ⟨⟨⟨_, rfl, fun ac hin => ?_⟩, ⟨_, rfl, fun ac hin => ?_⟩, ⟨_, rfl, fun ac hin => ?_⟩, ⟨_, rfl, fun ac hin => ?_⟩, trivial⟩, _, rfl, fun ac hin => ?_⟩
        · have h82 : ac.eval (.tmp 82) = .pointer (some ⟨w.heap.size, 0, none⟩) := hin 82 (by decide)
          have h81 : ac.eval (.tmp 81) = .bool false := hin 81 (by decide)
          exact pure_load25 (wanted_yes rfl rfl h81) rfl h82 x4.c0
        · have h86 : ac.eval (.tmp 86) = .pointer (some ⟨bk, off + k * 4, none⟩) := hin 86 (by decide)
          have h81 : ac.eval (.tmp 81) = .bool false := hin 81 (by decide)
          exact pure_load3 (wanted_yes rfl rfl h81) rfl h86 i4.1
        · have h89 : ac.eval (.tmp 89) = .pointer (some ⟨w.heap.size, 0, none⟩) := hin 89 (by decide)
          have h81 : ac.eval (.tmp 81) = .bool false := hin 81 (by decide)
          exact pure_load25 (wanted_yes rfl rfl h81) rfl h89 x4.c0
        · have h93 : ac.eval (.tmp 93) = .pointer (some ⟨bk, off + k * 4, none⟩) := hin 93 (by decide)
          have h81 : ac.eval (.tmp 81) = .bool false := hin 81 (by decide)
          exact pure_load3 (wanted_yes rfl rfl h81) rfl h93 i4.1
        have h87 : ac.eval (.tmp 87) = .int .i64 o := hin 87 (by decide)
        have h81 : ac.eval (.tmp 81) = .bool false := hin 81 (by decide)
        refine ⟨(wanted_yes rfl rfl h81), ?_⟩
        refine eff_call Tryd.call9 #[.int .i64 o] (by simp only [List.map_toArray, List.map_cons, List.map_nil, h87]; try rfl) ((name_any o _ m4).mono ?_)
        rintro e w14 ⟨rfl, g⟩
        refine ⟨_, rfl, ?_⟩
        have x5 := x4.mono g
        have i5 := i4.on g
        have g5 := g4.trans g
        have t5 := tab_on t4 g
        have m5 := max_on m4 g
        clear g
        refine ⟨fun _ => rfl, ?_⟩
        refine ⟨⟨⟨_, rfl, fun ac hin => ?_⟩, ⟨_, rfl, fun ac hin => ?_⟩, trivial⟩, _, rfl, fun ac hin => ?_⟩
        · have h89 : ac.eval (.tmp 89) = .pointer (some ⟨w.heap.size, 0, none⟩) := hin 89 (by decide)
          have h81 : ac.eval (.tmp 81) = .bool false := hin 81 (by decide)
          exact pure_load25 (wanted_yes rfl rfl h81) rfl h89 x5.c0
        · have h93 : ac.eval (.tmp 93) = .pointer (some ⟨bk, off + k * 4, none⟩) := hin 93 (by decide)
          have h81 : ac.eval (.tmp 81) = .bool false := hin 81 (by decide)
          exact pure_load3 (wanted_yes rfl rfl h81) rfl h93 i5.1
        have h94 : ac.eval (.tmp 94) = .int .i64 o := hin 94 (by decide)
        have h81 : ac.eval (.tmp 81) = .bool false := hin 81 (by decide)
        refine ⟨(wanted_yes rfl rfl h81), ?_⟩
        refine eff_call Tryd.call20 #[.int .i64 o] (by simp only [List.map_toArray, List.map_cons, List.map_nil, h94]; try rfl) ((name_ref o _).mono ?_)
        rintro e w15 ⟨rfl, g⟩
        refine ⟨_, rfl, ?_⟩
        have x6 := x5.mono g
        have i6 := i5.on g
        have g6 := g5.trans g
        have t6 := tab_on t5 g
        have m6 := max_on m5 g
        clear g
        refine ⟨fun _ => rfl, ?_⟩
        refine ⟨trivial, fun s' hs => ?_⟩
        have h97 : s' 97 = .bool false := hs 97 (by decide)
        clear hs
        simp only [putAll, List.foldl_cons, List.foldl_nil]
        rw [h97]
        simp only [Act.put, List.setIfInBounds_toArray, List.set_cons_succ, List.set_cons_zero]
        clear h97
        have HGX6 := hid g6
        clear x0 x1 x2 x3 x4 x5 x6 i0 i1 i2 i3 i4 i5 i6 g0 g1 g2 g3 g4 g5 g6 t0 t1 t2 t3 t4 t5 t6 m0 m1 m2 m3 m4 m5 m6
        go_wp2_with fail
        go_roundg (ys.length - (k + 1))
        case measure => go_light; omega
        case rel => go_light; exact ⟨k + 1, by omega, rfl, by go_num, HGX6.out⟩
    · obtain rfl : k = ys.length := by omega
      have hkz : ¬ (ys.length : Int) < (ys.length : Int) := by omega
      have c1 := conv_text (BX.out.on HGX.out)
      have c2 := conv_text (BY.out.on HGX.out)
      go_wp2_with fail
      go_ret
      exact ⟨by simp, HG.out.trans HGX.out⟩
end Go.Proofs.YtpeioflembhedaaDoor
