/-
  The document's Put: code as bytes, or an error. No conditions but on sizes that code has.
-/
import Derived.Test.YtpeioflembhedaaDoorLineRef
namespace Go.Proofs.YtpeioflembhedaaDoor
open Go.RowKit

theorem bys_byte (w : World) (b : UInt8) (c : Int) (hc : c = b.toNat) : Bys (w.alloc (.cells #[.int .u8 c] 5)) (some ⟨w.heap.size, 0, none⟩) [b] 1 := by
  subst hc
  refine ⟨Nat.le_refl _, .inr ⟨w.heap.size, 0, rfl, by simp, fun k x hk => ?_⟩⟩
  cases k with
  | zero =>
    simp at hk
    subst hk
    simp [go_sem]
  | succ n => simp at hk
theorem sz_al (w : World) (o : Obj) : (w.alloc o).heap.size = w.heap.size + 1 := Array.size_push ..
theorem own_one (w : World) (b : UInt8) (c : Int) (hc : c = b.toNat) (B : Nat) (hB : B = w.heap.size) : (w.alloc (.cells #[.int .u8 c] 5)).ownsRow B 5 1 (.slice (some ⟨B, 0, none⟩) 1 1) ([b] : List UInt8).length (bys [b]) := by
  subst hc hB
  exact ⟨rfl, .inr ⟨w.heap.size, 1, #[.int .u8 b.toNat], rfl, Nat.le_refl _, heap_alloc_new w _, Nat.le_refl 1, by unfold maxLen; omega, rfl, rfl⟩⟩
theorem own_low {w : World} {B C n e s : Nat} {v : Value} {xs : List Value} (h : w.ownsRow B e s v n xs) (hC : C ≤ B) : w.ownsRow C e s v n xs := by
  obtain ⟨h1, h2 | ⟨g, c, cur, h3, h4, h5⟩⟩ := h
  · exact ⟨h1, .inl h2⟩
  · exact ⟨h1, .inr ⟨g, c, cur, h3, Nat.le_trans hC h4, h5⟩⟩
/-- What stands in the document's Put: the bytes so far, the code in its variable. -/
structure Pt (w wr : World) (p q : Option Addr) (cap mc : Nat) (xs : List I) (es : List Int) (v : Value) (l : List UInt8) : Prop where
  own : wr.ownsRow (w.heap.size + 1) 5 1 v l.length (bys l)
  vr : Var wr w.heap.size (.slice p xs.length cap) (.slice q es.length mc)
  g : G w wr
section
variable {w wr w' wx : World} {p q : Option Addr} {cap mc : Nat} {xs : List I} {es : List Int} {v v' : Value} {l m : List UInt8}
theorem Pt.on (h : Pt w wr p q cap mc xs es v l) (g : G wr w') : Pt w w' p q cap mc xs es v l := ⟨own_g h.own g, h.vr.mono g, h.g.trans g⟩
theorem Pt.app (h : Pt w wr p q cap mc xs es v l) (g : G wr wx) (own : w'.ownsRow (w.heap.size + 1) 5 1 v' (l.length + m.length) (bys l ++ bys m)) (gr : wx.grownBy w' v.ownBlock) : Pt w w' p q cap mc xs es v' (l ++ m) := by
  refine ⟨?_, (h.vr.mono g).turned gr (fun j hj => by have := (h.own.lt j hj).1; omega), (h.g.trans g).grown gr (fun j hj => by have := (h.own.lt j hj).1; omega)⟩
  rw [bys_append, List.length_append]
  exact own
theorem Pt.at (h : Pt w wr p q cap mc xs es v l) {k : Nat} {o a b : Int} {s : ByteArray} (h1 : At wx k 0 o a b s) (hl : l ≠ []) (g : G wr wx) (gr : wx.grownBy w' v.ownBlock) : At w' k 0 o a b s :=
  h1.turned gr fun j hj e => by subst e; exact row_ne_at h1 (own_g h.own g) hl hj
end
section
variable {ops : Array Oper} {a : Act} {w : World} {o : Oper}
theorem pure_lsint_to {x y : Operand} {m n : Int} {b : Bool} (hw : Region.wanted o (yielded ops a.tmps) = true) (h : o.op = .binOp .lss 3 x y 3) (hx : a.eval x = .int .i64 m) (hy : a.eval y = .int .i64 n) (hb : decide (m < n) = b) : pureAt Tryd.prog ops o a w (.bool b) := by
  subst hb
  exact pure_lsint hw h hx hy
theorem pure_gtint_to {x y : Operand} {m n : Int} {b : Bool} (hw : Region.wanted o (yielded ops a.tmps) = true) (h : o.op = .binOp .gtr 3 x y 3) (hx : a.eval x = .int .i64 m) (hy : a.eval y = .int .i64 n) (hb : decide (n < m) = b) : pureAt Tryd.prog ops o a w (.bool b) := by
  subst hb
  exact pure_gtint hw h hx hy
end
section
variable {P : Program} {ops : Array Oper} {a : Act} {w : World} {o : Oper}
theorem eff_of_pure {c : Value} {Φ : Post} (h : pureAt P ops o a w c) (hw : Region.wanted o (yielded ops a.tmps) = true) (hv : Φ c w) : effAt P o a w Φ := by
  rcases h with ⟨_, h⟩ | ⟨h, _⟩
  · exact eff_run h hv
  · rw [hw] at h
    cases h
theorem eff_assign {x : Operand} {c : Value} {Φ : Post} (h : o.op = .assign x) (hx : a.eval x = c) (hv : Φ c w) : effAt P o a w Φ :=
  eff_run (by unfold execOp; rw [h]; subst hx; rfl) hv
theorem pure_load9b {x : Operand} {b : Nat} {t n u : Int} {s : ByteArray} (hw : Region.wanted o (yielded ops a.tmps) = true) (h : o.op = .load 9 x) (hx : a.eval x = .pointer (some ⟨b, 3, none⟩)) (ha : At w b 0 t n u s) : pureAt Tryd.prog ops o a w (.string s) := pure_load9 hw h ha hx
end
theorem may_to {x : I} {y : Bool} (h : mayI x = y) (w : World) : Calls Tryd.prog 18 #[V x.1 x.2.1 x.2.2.1 x.2.2.2] w fun e w' => e = .returned (.bool y) ∧ G w w' := by
  subst h
  exact may_ref _ _ _ _ w
set_option maxRecDepth 100000 in
set_option maxHeartbeats 4000000 in
theorem put_ref (p q : Option Addr) (cap mc : Nat) (es : List Int) (xs : List I) (w : World) (hn : xs.length ≤ 40) (hm : es.length ≤ 8) (hrow : Row w p xs) (hent : Ents w q es) (hok : ∀ x ∈ xs, InsOk x) (hek : ∀ n ∈ es, EntOk n) :
    Calls Tryd.prog 14 #[.agg #[.slice p xs.length cap, .slice q es.length mc]] w (PutPost w es xs) := by
  have HE := hid hent
  have HR := hid hrow
  have HOK := hid hok
  have HEK := hid hek
  clear hrow hent hok hek
  by_cases h6 : 6 < es.length
  · have HP : Hid (putE es xs = 4) := hid (by unfold putE; rw [if_pos (.inr h6)])
    have h6z : (6 : Int) < es.length := by omega
    have h12 : ¬ (1200 : Int) < xs.length := by omega
    go_enter Tryd.func14, Tryd.ntmps14
    go_wp2_with fail
    go_ret2
    exact ⟨(G.refl w).alloc _, .inl ⟨by rw [HP.out]; decide, by rw [HP.out]; rfl⟩⟩
  · have HP : Hid (putE es xs = if es.any (entBad xs.length) then 1 else if xs.any (fun x => !mayI x) then 1 else 0) := hid (by unfold putE; rw [if_neg (by omega)])
    have h6z : ¬ (6 : Int) < es.length := by omega
    have h12 : ¬ (1200 : Int) < xs.length := by omega
    obtain ⟨i, i1, i2, i3, i4⟩ := info5
    go_enter Tryd.func14, Tryd.ntmps14
    go_wp2_with fail
    have XV := Var.alloc w (.slice p xs.length cap) (.slice q es.length mc) 28
    have HCB : Hid ((es.length : Int) = (UInt8.ofNat (es.length % 256)).toNat) := hid (by rw [UInt8.toNat_ofNat']; omega)
    have X : Hid (Pt w ((w.alloc (.cells #[.slice p xs.length cap, .slice q es.length mc] 28)).alloc (.cells #[.int .u8 es.length] 5)) p q cap mc xs es (.slice (some ⟨w.heap.size + 1, 0, none⟩) 1 1) [UInt8.ofNat (es.length % 256)]) := hid ⟨own_one _ _ _ HCB.out _ (sz_al _ _).symm, XV.mono ((G.refl _).alloc _), ((G.refl w).alloc _).alloc _⟩
    clear XV HCB
    go_loopg [4, 5] es.length (fun n vb j wr => ∃ k : Nat, k ≤ es.length ∧ n = es.length - k ∧ j = .int .i64 k ∧ Pt w wr p q cap mc xs es vb ([UInt8.ofNat (es.length % 256)] ++ ((es.take k).map eightR).flatten) ∧ Hid ((es.take k).any (entBad xs.length) = false))
    case atStart => exact ⟨0, by omega, rfl, rfl, by simpa using X.out, hid (by simp)⟩
    case round =>
      obtain ⟨k, hk, rfl, rfl, hX, hnb⟩ := hrel
      clear X
      have X := hid hX
      have HLN : Hid (([UInt8.ofNat (es.length % 256)] ++ ((es.take k).map eightR).flatten).length ≤ 100) := hid (by
        rw [List.length_append, eights_len, List.length_take]
        simp
        omega)
      clear hX
      obtain ⟨l0, p0, q0, f0⟩ := X.out.vr
      by_cases hkl : k < es.length
      · obtain ⟨n, hn⟩ : ∃ n, es[k]? = some n := ⟨es[k], by simp [hkl]⟩
        obtain ⟨bk, off, rfl, hat⟩ := HE.out k n hn
        have c0 := X.out.g.cell hat
        obtain ⟨h0, h1⟩ := HEK.out n (List.mem_of_getElem? hn)
        have HX := hid hn
        have hkz : (k : Int) < (es.length : Int) := by omega
        obtain ⟨z, HZ⟩ : ∃ z, Hid (entBad xs.length n = z) := ⟨_, rfl⟩
        clear hn
        go_upto_region 7 with (fail)
        go_cut [47] from 31 to 46 (fun b47 wc => b47 = .bool z ∧ G wr wc)
        case first =>
          have x0 := X.out.on (G.drew (G.refl wr))
          have d0 := (G.drew (G.refl wr)).cell c0
          clear l0 p0 q0 f0 c0
          have hZ := HZ.out
          rcases (show n < 0 ∨ ¬ n < 0 by omega) with hn0 | hn0

          · refine wp_region_chainK 114 [0, 1, 2, 3, 4, 5, 6, 7, 8, 9, 10, 11, 12, 13, 14, 15, 16] [] [0, 2, 3, 5, 6, 7, 8, 9, 10, 11, 12, 13, 14, 15, 16] [] (fun _ _ => false) [31, 32, 33, 34, 35, 36, 37, 38, 39, 40, 41, 42, 43, 44, 45, 46, 47] (fun j => [1, 4]) (fun i => if i = 0 then .pointer (some ⟨w.heap.size, 1, none⟩) else if i = 1 then .slice (some ⟨bk, off, none⟩) es.length mc else if i = 2 then .int .i64 k else if i = 3 then .pointer (some ⟨bk, off + k, none⟩) else if i = 4 then .int .i64 n else if i = 5 ∨ i = 6 ∨ i = 16 then .bool true else undef) (by kernel_rfl) (by kernel_rfl) (by kernel_rfl) rfl ?_ ?_
            · intro w9
              refine ⟨⟨_, rfl, fun ac hin => ?_⟩, ⟨_, rfl, fun ac hin => ?_⟩, ⟨_, rfl, fun ac hin => ?_⟩, ⟨_, rfl, fun ac hin => ?_⟩, ⟨_, rfl, fun ac hin => ?_⟩, ⟨_, rfl, fun ac hin => ?_⟩, ⟨_, rfl, fun ac hin => ?_⟩, ⟨_, rfl, fun ac hin => ?_⟩, ⟨_, rfl, fun ac hin => ?_⟩, ⟨_, rfl, fun ac hin => ?_⟩, ⟨_, rfl, fun ac hin => ?_⟩, ⟨_, rfl, fun ac hin => ?_⟩, ⟨_, rfl, fun ac hin => ?_⟩, ⟨_, rfl, fun ac hin => ?_⟩, ⟨_, rfl, fun ac hin => ?_⟩, trivial⟩
              · have h1 : ac.eval (.tmp 1) = .pointer (some ⟨w.heap.size, 0, none⟩) := hin 1 (by decide)
                exact pure_addr28 rfl rfl (by decide) h1
              · have h5 : ac.eval (.tmp 5) = .int .i64 k := hin 5 (by decide)
                exact pure_move rfl rfl h5
              · have h32 : ac.eval (.tmp 32) = .slice (some ⟨bk, off, none⟩) es.length mc := hin 32 (by decide)
                have h33 : ac.eval (.tmp 33) = .int .i64 k := hin 33 (by decide)
                exact pure_index26 rfl rfl h32 h33 hkl
              · have h35 : ac.eval (.tmp 35) = .int .i64 n := hin 35 (by decide)
                exact pure_lsint_to rfl rfl h35 rfl (by simpa using hn0)
              · have h36 : ac.eval (.tmp 36) = .bool true := hin 36 (by decide)
                exact pure_move rfl rfl h36
              · have h37 : ac.eval (.tmp 37) = .bool true := hin 37 (by decide)
                exact pure_skip (wanted_no (b := false) rfl rfl h37)
              · have h37 : ac.eval (.tmp 37) = .bool true := hin 37 (by decide)
                exact pure_skip (wanted_no (b := false) rfl rfl h37)
              · have h37 : ac.eval (.tmp 37) = .bool true := hin 37 (by decide)
                exact pure_skip (wanted_no (b := false) rfl rfl h37)
              · have h37 : ac.eval (.tmp 37) = .bool true := hin 37 (by decide)
                exact pure_skip (wanted_no (b := false) rfl rfl h37)
              · have h37 : ac.eval (.tmp 37) = .bool true := hin 37 (by decide)
                exact pure_skip (wanted_no (b := false) rfl rfl h37)
              · have h37 : ac.eval (.tmp 37) = .bool true := hin 37 (by decide)
                exact pure_skip (wanted_no (b := false) rfl rfl h37)
              · have h37 : ac.eval (.tmp 37) = .bool true := hin 37 (by decide)
                exact pure_skip (wanted_no (b := false) rfl rfl h37)
              · have h37 : ac.eval (.tmp 37) = .bool true := hin 37 (by decide)
                exact pure_skip (wanted_no (b := false) rfl rfl h37)
              · have h37 : ac.eval (.tmp 37) = .bool true := hin 37 (by decide)
                exact pure_skip (wanted_no (b := false) rfl rfl h37)
              · have h37 : ac.eval (.tmp 37) = .bool true := hin 37 (by decide)
                have h46 : ac.eval (.tmp 46) = undef := hin 46 (by decide)
                exact pure_pick rfl rfl h37 rfl
            · skip
              refine ⟨⟨⟨_, rfl, fun ac hin => ?_⟩, ⟨_, rfl, fun ac hin => ?_⟩, trivial⟩, fun s' hs => ?_⟩
              · have h31 : ac.eval (.tmp 31) = .pointer (some ⟨w.heap.size, 1, none⟩) := hin 31 (by decide)
                exact pure_load26 rfl rfl h31 x0.vr.c1
              · have h34 : ac.eval (.tmp 34) = .pointer (some ⟨bk, off + k, none⟩) := hin 34 (by decide)
                exact pure_load3 rfl rfl h34 d0
              have h47 : s' 47 = .bool true := hs 47 (by decide)
              clear hs
              simp only [putAll, List.foldl_cons, List.foldl_nil]
              rw [h47]
              simp only [Act.put, List.setIfInBounds_toArray, List.set_cons_succ, List.set_cons_zero]
              clear h47
              go_wp2_with fail
              go_meet
              case rel => exact ⟨by rw [← hZ]; simp [entBad, hn0], G.drew (G.refl wr)⟩
          · refine wp_region_chainK 114 [0, 1, 2, 3, 4, 5, 6, 7, 8, 9, 10, 11, 12, 13, 14, 15, 16] [] [0, 2, 3, 5, 6, 7, 9, 10, 12, 14, 15, 16] [] (fun _ _ => false) [31, 32, 33, 34, 35, 36, 37, 38, 39, 40, 41, 42, 43, 44, 45, 46, 47] (fun j => [1, 4, 8, 11, 13]) (fun i => if i = 0 ∨ i = 7 then .pointer (some ⟨w.heap.size, 1, none⟩) else if i = 1 ∨ i = 8 then .slice (some ⟨bk, off, none⟩) es.length mc else if i = 2 ∨ i = 9 then .int .i64 k else if i = 3 ∨ i = 10 then .pointer (some ⟨bk, off + k, none⟩) else if i = 4 ∨ i = 11 then .int .i64 n else if i = 5 ∨ i = 6 then .bool false else if i = 12 then .pointer (some ⟨w.heap.size, 0, none⟩) else if i = 13 then .slice p xs.length cap else if i = 14 then .int .i64 xs.length else .bool z) (by kernel_rfl) (by kernel_rfl) (by kernel_rfl) rfl ?_ ?_
            · intro w9
              refine ⟨⟨_, rfl, fun ac hin => ?_⟩, ⟨_, rfl, fun ac hin => ?_⟩, ⟨_, rfl, fun ac hin => ?_⟩, ⟨_, rfl, fun ac hin => ?_⟩, ⟨_, rfl, fun ac hin => ?_⟩, ⟨_, rfl, fun ac hin => ?_⟩, ⟨_, rfl, fun ac hin => ?_⟩, ⟨_, rfl, fun ac hin => ?_⟩, ⟨_, rfl, fun ac hin => ?_⟩, ⟨_, rfl, fun ac hin => ?_⟩, ⟨_, rfl, fun ac hin => ?_⟩, ⟨_, rfl, fun ac hin => ?_⟩, trivial⟩
              · have h1 : ac.eval (.tmp 1) = .pointer (some ⟨w.heap.size, 0, none⟩) := hin 1 (by decide)
                exact pure_addr28 rfl rfl (by decide) h1
              · have h5 : ac.eval (.tmp 5) = .int .i64 k := hin 5 (by decide)
                exact pure_move rfl rfl h5
              · have h32 : ac.eval (.tmp 32) = .slice (some ⟨bk, off, none⟩) es.length mc := hin 32 (by decide)
                have h33 : ac.eval (.tmp 33) = .int .i64 k := hin 33 (by decide)
                exact pure_index26 rfl rfl h32 h33 hkl
              · have h35 : ac.eval (.tmp 35) = .int .i64 n := hin 35 (by decide)
                exact pure_lsint_to rfl rfl h35 rfl (by simpa using hn0)
              · have h36 : ac.eval (.tmp 36) = .bool false := hin 36 (by decide)
                exact pure_move rfl rfl h36
              · have h1 : ac.eval (.tmp 1) = .pointer (some ⟨w.heap.size, 0, none⟩) := hin 1 (by decide)
                have h37 : ac.eval (.tmp 37) = .bool false := hin 37 (by decide)
                exact pure_addr28 (wanted_yes rfl rfl h37) rfl (by decide) h1
              · have h5 : ac.eval (.tmp 5) = .int .i64 k := hin 5 (by decide)
                have h37 : ac.eval (.tmp 37) = .bool false := hin 37 (by decide)
                exact pure_move (wanted_yes rfl rfl h37) rfl h5
              · have h39 : ac.eval (.tmp 39) = .slice (some ⟨bk, off, none⟩) es.length mc := hin 39 (by decide)
                have h40 : ac.eval (.tmp 40) = .int .i64 k := hin 40 (by decide)
                have h37 : ac.eval (.tmp 37) = .bool false := hin 37 (by decide)
                exact pure_index26 (wanted_yes rfl rfl h37) rfl h39 h40 hkl
              · have h1 : ac.eval (.tmp 1) = .pointer (some ⟨w.heap.size, 0, none⟩) := hin 1 (by decide)
                have h37 : ac.eval (.tmp 37) = .bool false := hin 37 (by decide)
                exact pure_addr28 (wanted_yes rfl rfl h37) rfl (by decide) h1
              · have h44 : ac.eval (.tmp 44) = .slice p xs.length cap := hin 44 (by decide)
                have h37 : ac.eval (.tmp 37) = .bool false := hin 37 (by decide)
                exact pure_len (.inr (.inl rfl)) (wanted_yes rfl rfl h37) rfl h44
              · have h42 : ac.eval (.tmp 42) = .int .i64 n := hin 42 (by decide)
                have h45 : ac.eval (.tmp 45) = .int .i64 xs.length := hin 45 (by decide)
                have h37 : ac.eval (.tmp 37) = .bool false := hin 37 (by decide)
                exact pure_gtint_to (wanted_yes rfl rfl h37) rfl h42 h45 (by rw [← hZ]; simp [entBad, hn0])
              · have h37 : ac.eval (.tmp 37) = .bool false := hin 37 (by decide)
                have h46 : ac.eval (.tmp 46) = .bool z := hin 46 (by decide)
                exact pure_pick rfl rfl h37 h46
            · skip
              refine ⟨⟨⟨_, rfl, fun ac hin => ?_⟩, ⟨_, rfl, fun ac hin => ?_⟩, ⟨_, rfl, fun ac hin => ?_⟩, ⟨_, rfl, fun ac hin => ?_⟩, ⟨_, rfl, fun ac hin => ?_⟩, trivial⟩, fun s' hs => ?_⟩
              · have h31 : ac.eval (.tmp 31) = .pointer (some ⟨w.heap.size, 1, none⟩) := hin 31 (by decide)
                exact pure_load26 rfl rfl h31 x0.vr.c1
              · have h34 : ac.eval (.tmp 34) = .pointer (some ⟨bk, off + k, none⟩) := hin 34 (by decide)
                exact pure_load3 rfl rfl h34 d0
              · have h38 : ac.eval (.tmp 38) = .pointer (some ⟨w.heap.size, 1, none⟩) := hin 38 (by decide)
                have h37 : ac.eval (.tmp 37) = .bool false := hin 37 (by decide)
                exact pure_load26 (wanted_yes rfl rfl h37) rfl h38 x0.vr.c1
              · have h41 : ac.eval (.tmp 41) = .pointer (some ⟨bk, off + k, none⟩) := hin 41 (by decide)
                have h37 : ac.eval (.tmp 37) = .bool false := hin 37 (by decide)
                exact pure_load3 (wanted_yes rfl rfl h37) rfl h41 d0
              · have h43 : ac.eval (.tmp 43) = .pointer (some ⟨w.heap.size, 0, none⟩) := hin 43 (by decide)
                have h37 : ac.eval (.tmp 37) = .bool false := hin 37 (by decide)
                exact pure_load25 (wanted_yes rfl rfl h37) rfl h43 x0.vr.c0
              have h47 : s' 47 = .bool z := hs 47 (by decide)
              clear hs
              simp only [putAll, List.foldl_cons, List.foldl_nil]
              rw [h47]
              simp only [Act.put, List.setIfInBounds_toArray, List.set_cons_succ, List.set_cons_zero]
              clear h47
              go_wp2_with fail
              go_meet
              case rel => exact ⟨rfl, G.drew (G.refl wr)⟩
        case rest =>
          obtain ⟨rfl, hg⟩ := hcut
          replace X := hid (X.out.on hg)
          clear l0 p0 q0 f0 c0
          have c0 := X.out.g.cell hat
          obtain ⟨l0, p0, q0, f0⟩ := X.out.vr
          cases z
          · go_wp2_with fail
            refine (eight_any n _ h0 h1).mono ?_
            rintro e w3 ⟨u, rfl, hu, hg3⟩
            obtain ⟨pu, cu, rfl, hbu⟩ := own_bys (l := eightR n) (by rw [eight_len]; exact hu)
            have HBU := hid hbu
            have HG3 := hid hg3
            clear l0 p0 q0 f0 hu hg3 hbu
            go_wp2_with (at_builtin; refine wpList_append_bys rfl (.tmp 48) (.tmp 54) rfl (w.heap.size + 1) i i1 i2 i3 i4 _ _ _ rfl (own_g X.out.own HG3.out) pu (eightR n) cu rfl HBU.out (by have h := HLN.out; rw [eight_len]; omega) (by have h := X.out.vr.lt; have h2 := HG3.out.size; omega) ?_; intro v4 y4 own4 gr4; have HX4 := hid (Pt.app X.out HG3.out own4 gr4); clear own4 gr4)
            go_roundg (es.length - (k + 1))
            case measure => go_light; omega
            case rel =>
              go_light
              refine ⟨k + 1, by omega, rfl, by go_num, ?_, hid ?_⟩
              · have h := HX4.out
                rw [List.append_assoc] at h
                rw [List.take_add_one, HX.out]
                simpa using h
              · rw [List.take_add_one, HX.out, List.any_append, hnb.out]
                simpa using HZ.out
          · go_wp2_with fail
            go_ret2
            refine ⟨X.out.g, .inl ?_⟩
            have h : es.any (entBad xs.length) = true := List.any_eq_true.2 ⟨n, List.mem_of_getElem? HX.out, HZ.out⟩
            rw [HP.out, h]
            exact ⟨by simp, by simp⟩
      · obtain rfl : k = es.length := by omega
        have hkz : ¬ (es.length : Int) < (es.length : Int) := by omega
        rw [List.take_length] at X HLN hnb
        have HNB := hid hnb.out
        go_wp2_with fail
        refine (eight_any xs.length _ (by omega) (by omega)).mono ?_
        rintro e w3 ⟨u, rfl, hu, hg3⟩
        obtain ⟨pu, cu, rfl, hbu⟩ := own_bys (l := eightR xs.length) (by rw [eight_len]; exact hu)
        have HBU := hid hbu
        have HG3 := hid hg3
        clear l0 p0 q0 f0 hu hg3 hbu hnb
        go_wp2_with (at_builtin; refine wpList_append_bys rfl (.tmp 56) (.tmp 60) rfl (w.heap.size + 1) i i1 i2 i3 i4 _ _ _ rfl (own_g X.out.own HG3.out) pu (eightR xs.length) cu rfl HBU.out (by have h := HLN.out; rw [eight_len]; omega) (by have h := X.out.vr.lt; have h2 := HG3.out.size; omega) ?_; intro v4 y4 own4 gr4; have HX4 := hid (Pt.app X.out HG3.out own4 gr4); clear own4 gr4)
        replace X := HX4
        clear HX4 HLN
        go_loopg [4, 6] xs.length (fun n vb j wx => ∃ k : Nat, k ≤ xs.length ∧ n = xs.length - k ∧ j = .int .i64 k ∧ Pt w wx p q cap mc xs es vb (([UInt8.ofNat (es.length % 256)] ++ (es.map eightR).flatten ++ eightR xs.length) ++ ((xs.take k).map insR).flatten) ∧ Hid ((xs.take k).any (fun x => !mayI x) = false))
        case atStart => exact ⟨0, by omega, rfl, rfl, by simpa using X.out, hid (by simp)⟩
        case round =>
          obtain ⟨k, hk, rfl, rfl, hX, hnb⟩ := hrel
          clear X
          have X := hid hX
          clear hX
          obtain ⟨l0, p0, q0, f0⟩ := X.out.vr
          by_cases hkl : k < xs.length
          · obtain ⟨x, hx⟩ : ∃ x, xs[k]? = some x := ⟨xs[k], by simp [hkl]⟩
            obtain ⟨bk, off, rfl, hat⟩ := HR.out k x hx
            obtain ⟨c0, c1, c2, c3⟩ := hat.on X.out.g
            have HX := hid hx
            have HO := hid (HOK.out x (List.mem_of_getElem? hx))
            obtain ⟨z, HZ⟩ : ∃ z, Hid (mayI x = z) := ⟨_, rfl⟩
            obtain ⟨o, a, b, tx⟩ := x
            simp at c0 c1 c2 c3
            have hkz : (k : Int) < (xs.length : Int) := by omega
            clear hx hat
            go_wp2_with fail
            have BX := hid (At.alloc wr o a b tx)
            refine (may_to HZ.out _).mono ?_
            rintro e w4 ⟨rfl, g⟩
            replace BX := hid (BX.out.mono g)
            replace X := hid (X.out.on (((G.refl wr).alloc _).trans g))
            clear g l0 p0 q0 f0 c0 c1 c2 c3
            cases z
            · go_wp2_with fail
              go_ret2
              refine ⟨X.out.g, .inl ?_⟩
              have h : xs.any (fun x => !mayI x) = true := List.any_eq_true.2 ⟨(o, a, b, tx), List.mem_of_getElem? HX.out, by simp [HZ.out]⟩
              rw [HP.out, HNB.out, h]
              exact ⟨by simp, by simp⟩
            · have HLN : Hid ((([UInt8.ofNat (es.length % 256)] ++ (es.map eightR).flatten ++ eightR xs.length) ++ ((xs.take k).map insR).flatten).length ≤ 90000) := hid (by
                have h1 := insRs_len (xs.take k) (fun x hx => HOK.out x (List.mem_of_mem_take hx))
                have h2 : (xs.take k).length ≤ k := List.length_take_le _ _
                have h3 := eights_len es
                have h4 := eight_len xs.length
                simp only [List.length_append, h3, h4, List.length_cons, List.length_nil]
                omega)
              obtain ⟨pre, hpre⟩ : ∃ pre, Hid (([UInt8.ofNat (es.length % 256)] ++ (es.map eightR).flatten ++ eightR xs.length) ++ ((xs.take k).map insR).flatten = pre) := ⟨_, rfl⟩
              have HPne : Hid (pre ≠ []) := hid (by rw [← hpre.out]; simp)
              rw [hpre.out] at X HLN
              have HST : Hid (∀ l, l = insR (o, a, b, tx) → ([UInt8.ofNat (es.length % 256)] ++ (es.map eightR).flatten ++ eightR xs.length) ++ ((xs.take (k + 1)).map insR).flatten = pre ++ l ∧ (xs.take (k + 1)).any (fun x => !mayI x) = false) := hid (by
                rintro l rfl
                rw [List.take_add_one, HX.out]
                constructor
                · rw [← hpre.out]
                  simp
                · rw [List.any_append, hnb.out]
                  simp [HZ.out])
              have m1 : 1 ≤ o ∧ o ≤ 23 := by
                have h := HZ.out
                simp only [mayI, mayR, Bool.and_eq_true, decide_eq_true_eq] at h
                exact h.1.1.1
              obtain ⟨m1, m2⟩ := m1
              have HOp : Hid (o = (UInt8.ofNat (o % 256).toNat).toNat) := hid (by rw [UInt8.toNat_ofNat']; omega)
              have HSZ : Hid (tx.size ≤ 1000) := hid HO.out.s
              have HSZ40 : Hid (hasS o = true → tx.size ≤ 40) := hid (by
                intro hS
                have h := HZ.out
                simp only [mayI, mayR, Bool.and_eq_true, Bool.or_eq_true, decide_eq_true_eq] at h
                rcases h.2 with h | h
                · have h := nil_of2 h
                  subst h
                  decide
                · exact h.2)
              have HOA := hid HO.out.a
              have HOB := hid HO.out.b
              clear hnb HX HZ HO hpre
              rcases shapes4 o with hs | hs | hs | hs

              · have SA := hid (show hasA o = false by simp [hasA, hs])
                have SB := hid (show hasB o = false by simp [hasB, hs])
                have SS := hid (show hasS o = false by simp [hasS, hs])
                obtain ⟨lx, px, qx, rx, tx0, fx⟩ := BX.out
                simp at qx rx tx0
                go_wp2_with (first | (at_builtin; refine wpList_append_bys rfl (.tmp 78) (.tmp 82) rfl (w.heap.size + 1) i i1 i2 i3 i4 _ _ _ rfl (own_g X.out.own ((G.refl _).alloc _)) _ _ _ rfl (bys_byte _ (UInt8.ofNat (o % 256).toNat) o HOp.out) (by have h := HLN.out; simp; omega) (by have h := X.out.vr.lt; simp; omega) ?_; intro v5 y5 own5 gr5; have HX5 := hid (Pt.app X.out ((G.refl _).alloc _) own5 gr5); have HB5 := hid (Pt.at X.out (BX.out.mono ((G.refl _).alloc (.cells #[.int .u8 o] 5))) HPne.out ((G.refl _).alloc _) gr5); clear own5 gr5 lx px qx rx tx0 fx; obtain ⟨lx, px, qx, rx, tx0, fx⟩ := HB5.out; simp at qx rx tx0))
                replace X := HX5
                replace BX := HB5
                clear HX5 HB5
                replace HLN : Hid ((pre ++ [UInt8.ofNat (o % 256).toNat]).length ≤ 90001) := hid (by have h := HLN.out; simp; omega)
                obtain ⟨l6, hl6⟩ : ∃ l6, Hid ((pre ++ [UInt8.ofNat (o % 256).toNat]) = l6) := ⟨_, rfl⟩
                replace HPne : Hid (l6 ≠ []) := hid (by rw [← hl6.out]; simp)
                rw [hl6.out] at X HLN
                refine (hasA_to SA.out _).mono ?_
                rintro e wc1 ⟨rfl, g⟩
                clear lx px qx rx tx0 fx
                replace BX := hid (BX.out.mono g)
                replace X := hid (X.out.on g)
                clear g
                obtain ⟨lx, px, qx, rx, tx0, fx⟩ := BX.out
                simp at qx rx tx0
                go_wp2_with fail
                refine (hasB_to SB.out _).mono ?_
                rintro e wc2 ⟨rfl, rfl⟩
                go_wp2_with fail
                refine (hasS_to SS.out _).mono ?_
                rintro e wc3 ⟨rfl, rfl⟩
                go_wp2_with fail
                go_roundg (xs.length - (k + 1))
                case measure => go_light; omega
                case rel =>
                  go_light
                  obtain ⟨e1, e2⟩ := HST.out [UInt8.ofNat (o % 256).toNat] (by simp [insR, SA.out, SB.out, SS.out])
                  refine ⟨k + 1, by omega, rfl, by go_num, ?_, hid e2⟩
                  rw [e1]
                  have h := X.out
                  rw [← hl6.out] at h
                  simpa using h
              · have SA := hid (show hasA o = true by simp [hasA, hs])
                have SB := hid (show hasB o = false by simp [hasB, hs])
                have SS := hid (show hasS o = false by simp [hasS, hs])
                obtain ⟨lx, px, qx, rx, tx0, fx⟩ := BX.out
                simp at qx rx tx0
                go_wp2_with (first | (at_builtin; refine wpList_append_bys rfl (.tmp 78) (.tmp 82) rfl (w.heap.size + 1) i i1 i2 i3 i4 _ _ _ rfl (own_g X.out.own ((G.refl _).alloc _)) _ _ _ rfl (bys_byte _ (UInt8.ofNat (o % 256).toNat) o HOp.out) (by have h := HLN.out; simp; omega) (by have h := X.out.vr.lt; simp; omega) ?_; intro v5 y5 own5 gr5; have HX5 := hid (Pt.app X.out ((G.refl _).alloc _) own5 gr5); have HB5 := hid (Pt.at X.out (BX.out.mono ((G.refl _).alloc (.cells #[.int .u8 o] 5))) HPne.out ((G.refl _).alloc _) gr5); clear own5 gr5 lx px qx rx tx0 fx; obtain ⟨lx, px, qx, rx, tx0, fx⟩ := HB5.out; simp at qx rx tx0))
                replace X := HX5
                replace BX := HB5
                clear HX5 HB5
                replace HLN : Hid ((pre ++ [UInt8.ofNat (o % 256).toNat]).length ≤ 90001) := hid (by have h := HLN.out; simp; omega)
                obtain ⟨l6, hl6⟩ : ∃ l6, Hid ((pre ++ [UInt8.ofNat (o % 256).toNat]) = l6) := ⟨_, rfl⟩
                replace HPne : Hid (l6 ≠ []) := hid (by rw [← hl6.out]; simp)
                rw [hl6.out] at X HLN
                refine (hasA_to SA.out _).mono ?_
                rintro e wc1 ⟨rfl, g⟩
                clear lx px qx rx tx0 fx
                replace BX := hid (BX.out.mono g)
                replace X := hid (X.out.on g)
                clear g
                obtain ⟨lx, px, qx, rx, tx0, fx⟩ := BX.out
                simp at qx rx tx0
                go_wp2_with fail
                refine (eight_any a _ HOA.out.1 HOA.out.2).mono ?_
                rintro e wc2 ⟨u, rfl, hu, hg3⟩
                obtain ⟨pu, cu, rfl, hbu⟩ := own_bys (l := eightR a) (by rw [eight_len]; exact hu)
                have HBU := hid hbu
                have HG3 := hid hg3
                have BX3 := hid (BX.out.mono hg3)
                clear hu hg3 hbu lx px qx rx tx0 fx
                go_wp2_with (first | (at_builtin; refine wpList_append_bys rfl (.tmp 87) (.tmp 90) rfl (w.heap.size + 1) i i1 i2 i3 i4 _ _ _ rfl (own_g X.out.own HG3.out) pu (eightR a) cu rfl HBU.out (by have h := HLN.out; rw [eight_len]; omega) (by have h := X.out.vr.lt; have h2 := HG3.out.size; omega) ?_; intro v5 y5 own5 gr5; have HX5 := hid (Pt.app X.out HG3.out own5 gr5); have HB5 := hid (Pt.at X.out BX3.out HPne.out HG3.out gr5); clear own5 gr5; obtain ⟨lx, px, qx, rx, tx0, fx⟩ := HB5.out; simp at qx rx tx0))
                replace X := HX5
                replace BX := HB5
                clear HX5 HB5 HBU HG3 BX3
                replace HLN : Hid ((l6 ++ eightR a).length ≤ 90009) := hid (by have h := HLN.out; rw [List.length_append, eight_len]; omega)
                obtain ⟨l12, hl12⟩ : ∃ lz, Hid ((l6 ++ eightR a) = lz) := ⟨_, rfl⟩
                replace HPne : Hid (l12 ≠ []) := hid (by rw [← hl12.out]; simp [HPne.out])
                rw [hl12.out] at X HLN
                go_wp2_with fail
                refine (hasB_to SB.out _).mono ?_
                rintro e wc3 ⟨rfl, rfl⟩
                go_wp2_with fail
                refine (hasS_to SS.out _).mono ?_
                rintro e wc4 ⟨rfl, rfl⟩
                go_wp2_with fail
                go_roundg (xs.length - (k + 1))
                case measure => go_light; omega
                case rel =>
                  go_light
                  obtain ⟨e1, e2⟩ := HST.out ([UInt8.ofNat (o % 256).toNat] ++ eightR a) (by simp [insR, SA.out, SB.out, SS.out])
                  refine ⟨k + 1, by omega, rfl, by go_num, ?_, hid e2⟩
                  rw [e1]
                  have h := X.out
                  rw [← hl12.out, ← hl6.out] at h
                  simpa using h
              · have SA := hid (show hasA o = true by simp [hasA, hs])
                have SB := hid (show hasB o = true by simp [hasB, hs])
                have SS := hid (show hasS o = false by simp [hasS, hs])
                obtain ⟨lx, px, qx, rx, tx0, fx⟩ := BX.out
                simp at qx rx tx0
                go_wp2_with (first | (at_builtin; refine wpList_append_bys rfl (.tmp 78) (.tmp 82) rfl (w.heap.size + 1) i i1 i2 i3 i4 _ _ _ rfl (own_g X.out.own ((G.refl _).alloc _)) _ _ _ rfl (bys_byte _ (UInt8.ofNat (o % 256).toNat) o HOp.out) (by have h := HLN.out; simp; omega) (by have h := X.out.vr.lt; simp; omega) ?_; intro v5 y5 own5 gr5; have HX5 := hid (Pt.app X.out ((G.refl _).alloc _) own5 gr5); have HB5 := hid (Pt.at X.out (BX.out.mono ((G.refl _).alloc (.cells #[.int .u8 o] 5))) HPne.out ((G.refl _).alloc _) gr5); clear own5 gr5 lx px qx rx tx0 fx; obtain ⟨lx, px, qx, rx, tx0, fx⟩ := HB5.out; simp at qx rx tx0))
                replace X := HX5
                replace BX := HB5
                clear HX5 HB5
                replace HLN : Hid ((pre ++ [UInt8.ofNat (o % 256).toNat]).length ≤ 90001) := hid (by have h := HLN.out; simp; omega)
                obtain ⟨l6, hl6⟩ : ∃ l6, Hid ((pre ++ [UInt8.ofNat (o % 256).toNat]) = l6) := ⟨_, rfl⟩
                replace HPne : Hid (l6 ≠ []) := hid (by rw [← hl6.out]; simp)
                rw [hl6.out] at X HLN
                refine (hasA_to SA.out _).mono ?_
                rintro e wc1 ⟨rfl, g⟩
                clear lx px qx rx tx0 fx
                replace BX := hid (BX.out.mono g)
                replace X := hid (X.out.on g)
                clear g
                obtain ⟨lx, px, qx, rx, tx0, fx⟩ := BX.out
                simp at qx rx tx0
                go_wp2_with fail
                refine (eight_any a _ HOA.out.1 HOA.out.2).mono ?_
                rintro e wc2 ⟨u, rfl, hu, hg3⟩
                obtain ⟨pu, cu, rfl, hbu⟩ := own_bys (l := eightR a) (by rw [eight_len]; exact hu)
                have HBU := hid hbu
                have HG3 := hid hg3
                have BX3 := hid (BX.out.mono hg3)
                clear hu hg3 hbu lx px qx rx tx0 fx
                go_wp2_with (first | (at_builtin; refine wpList_append_bys rfl (.tmp 87) (.tmp 90) rfl (w.heap.size + 1) i i1 i2 i3 i4 _ _ _ rfl (own_g X.out.own HG3.out) pu (eightR a) cu rfl HBU.out (by have h := HLN.out; rw [eight_len]; omega) (by have h := X.out.vr.lt; have h2 := HG3.out.size; omega) ?_; intro v5 y5 own5 gr5; have HX5 := hid (Pt.app X.out HG3.out own5 gr5); have HB5 := hid (Pt.at X.out BX3.out HPne.out HG3.out gr5); clear own5 gr5; obtain ⟨lx, px, qx, rx, tx0, fx⟩ := HB5.out; simp at qx rx tx0))
                replace X := HX5
                replace BX := HB5
                clear HX5 HB5 HBU HG3 BX3
                replace HLN : Hid ((l6 ++ eightR a).length ≤ 90009) := hid (by have h := HLN.out; rw [List.length_append, eight_len]; omega)
                obtain ⟨l12, hl12⟩ : ∃ lz, Hid ((l6 ++ eightR a) = lz) := ⟨_, rfl⟩
                replace HPne : Hid (l12 ≠ []) := hid (by rw [← hl12.out]; simp [HPne.out])
                rw [hl12.out] at X HLN
                go_wp2_with fail
                refine (hasB_to SB.out _).mono ?_
                rintro e wc3 ⟨rfl, rfl⟩
                go_wp2_with fail
                refine (eight_any b _ HOB.out.1 HOB.out.2).mono ?_
                rintro e wc4 ⟨u, rfl, hu, hg3⟩
                obtain ⟨pu, cu, rfl, hbu⟩ := own_bys (l := eightR b) (by rw [eight_len]; exact hu)
                have HBU := hid hbu
                have HG3 := hid hg3
                have BX3 := hid (BX.out.mono hg3)
                clear hu hg3 hbu lx px qx rx tx0 fx
                go_wp2_with (first | (at_builtin; refine wpList_append_bys rfl (.tmp 95) (.tmp 98) rfl (w.heap.size + 1) i i1 i2 i3 i4 _ _ _ rfl (own_g X.out.own HG3.out) pu (eightR b) cu rfl HBU.out (by have h := HLN.out; rw [eight_len]; omega) (by have h := X.out.vr.lt; have h2 := HG3.out.size; omega) ?_; intro v5 y5 own5 gr5; have HX5 := hid (Pt.app X.out HG3.out own5 gr5); have HB5 := hid (Pt.at X.out BX3.out HPne.out HG3.out gr5); clear own5 gr5; obtain ⟨lx, px, qx, rx, tx0, fx⟩ := HB5.out; simp at qx rx tx0))
                replace X := HX5
                replace BX := HB5
                clear HX5 HB5 HBU HG3 BX3
                replace HLN : Hid ((l12 ++ eightR b).length ≤ 90017) := hid (by have h := HLN.out; rw [List.length_append, eight_len]; omega)
                obtain ⟨l14, hl14⟩ : ∃ lz, Hid ((l12 ++ eightR b) = lz) := ⟨_, rfl⟩
                replace HPne : Hid (l14 ≠ []) := hid (by rw [← hl14.out]; simp [HPne.out])
                rw [hl14.out] at X HLN
                go_wp2_with fail
                refine (hasS_to SS.out _).mono ?_
                rintro e wc5 ⟨rfl, rfl⟩
                go_wp2_with fail
                go_roundg (xs.length - (k + 1))
                case measure => go_light; omega
                case rel =>
                  go_light
                  obtain ⟨e1, e2⟩ := HST.out ([UInt8.ofNat (o % 256).toNat] ++ eightR a ++ eightR b) (by simp [insR, SA.out, SB.out, SS.out])
                  refine ⟨k + 1, by omega, rfl, by go_num, ?_, hid e2⟩
                  rw [e1]
                  have h := X.out
                  rw [← hl14.out, ← hl12.out, ← hl6.out] at h
                  simpa using h
              · have SA := hid (show hasA o = false by simp [hasA, hs])
                have SB := hid (show hasB o = false by simp [hasB, hs])
                have SS := hid (show hasS o = true by simp [hasS, hs])
                obtain ⟨lx, px, qx, rx, tx0, fx⟩ := BX.out
                simp at qx rx tx0
                go_wp2_with (first | (at_builtin; refine wpList_append_bys rfl (.tmp 78) (.tmp 82) rfl (w.heap.size + 1) i i1 i2 i3 i4 _ _ _ rfl (own_g X.out.own ((G.refl _).alloc _)) _ _ _ rfl (bys_byte _ (UInt8.ofNat (o % 256).toNat) o HOp.out) (by have h := HLN.out; simp; omega) (by have h := X.out.vr.lt; simp; omega) ?_; intro v5 y5 own5 gr5; have HX5 := hid (Pt.app X.out ((G.refl _).alloc _) own5 gr5); have HB5 := hid (Pt.at X.out (BX.out.mono ((G.refl _).alloc (.cells #[.int .u8 o] 5))) HPne.out ((G.refl _).alloc _) gr5); clear own5 gr5 lx px qx rx tx0 fx; obtain ⟨lx, px, qx, rx, tx0, fx⟩ := HB5.out; simp at qx rx tx0))
                replace X := HX5
                replace BX := HB5
                clear HX5 HB5
                replace HLN : Hid ((pre ++ [UInt8.ofNat (o % 256).toNat]).length ≤ 90001) := hid (by have h := HLN.out; simp; omega)
                obtain ⟨l6, hl6⟩ : ∃ l6, Hid ((pre ++ [UInt8.ofNat (o % 256).toNat]) = l6) := ⟨_, rfl⟩
                replace HPne : Hid (l6 ≠ []) := hid (by rw [← hl6.out]; simp)
                rw [hl6.out] at X HLN
                refine (hasA_to SA.out _).mono ?_
                rintro e wc1 ⟨rfl, g⟩
                clear lx px qx rx tx0 fx
                replace BX := hid (BX.out.mono g)
                replace X := hid (X.out.on g)
                clear g
                obtain ⟨lx, px, qx, rx, tx0, fx⟩ := BX.out
                simp at qx rx tx0
                go_wp2_with fail
                refine (hasB_to SB.out _).mono ?_
                rintro e wc2 ⟨rfl, rfl⟩
                go_wp2_with fail
                refine (hasS_to SS.out _).mono ?_
                rintro e wc3 ⟨rfl, rfl⟩
                go_upto_region 24 with (fail)
                obtain ⟨sz, hsz⟩ : ∃ sz, Hid (UInt8.ofNat (tx.size % 256) = sz) := ⟨_, rfl⟩
                have HSb : Hid (bys [sz] = [.int .u8 (tx.size : Int)]) := hid (by
                  have h := HSZ.out
                  have h2 : sz.toNat = tx.size % 256 := by rw [← hsz.out, UInt8.toNat_ofNat']; omega
                  have h3 : tx.size % 256 = tx.size := by have h4 := HSZ40.out SS.out; omega
                  simp [bys, h2, h3])
                have x0 := X.out.on (G.drew (G.refl wc1))
                have b0 := BX.out.mono (G.drew (G.refl wc1))
                have hsz1 : (tx.size : Int) ≤ 255 := by have h4 := HSZ40.out SS.out; omega
                clear lx px qx rx tx0 fx
                refine wp_region_chainK 114 [0, 1, 2, 3, 4, 7, 8] [5, 6, 9, 10] [0, 1, 3, 4, 7] [] (fun i t => (i == 0 && t == 4)) [103, 104, 105, 106, 107, 108, 109, 110, 111, 112, 4] (fun j => if j = 0 then [2, 8] else if j = 1 then [8] else if j = 2 then [8] else if j = 3 then [] else []) (fun i => if i = 0 then v5 else if i = 1 ∨ i = 7 then .pointer (some ⟨wr.heap.size, 3, none⟩) else if i = 2 ∨ i = 8 then .string tx else if i = 3 then .int .i64 tx.size else .int .u8 tx.size) (by kernel_rfl) (by kernel_rfl) (by kernel_rfl) rfl ?_ ?_
                · intro w9
                  refine ⟨⟨_, rfl, fun ac hin => ?_⟩, ⟨_, rfl, fun ac hin => ?_⟩, ⟨_, rfl, fun ac hin => ?_⟩, ⟨_, rfl, fun ac hin => ?_⟩, ⟨_, rfl, fun ac hin => ?_⟩, trivial⟩
                  · have h4 : ac.eval (.tmp 4) = v5 := hin 4 (by decide)
                    exact pure_move rfl rfl h4
                  · have h7 : ac.eval (.tmp 7) = .pointer (some ⟨wr.heap.size, 0, none⟩) := hin 7 (by decide)
                    exact pure_addr rfl rfl (by decide) h7
                  · have h105 : ac.eval (.tmp 105) = .string tx := hin 105 (by decide)
                    exact pure_len9 rfl rfl h105
                  · have h106 : ac.eval (.tmp 106) = .int .i64 tx.size := hin 106 (by decide)
                    exact pure_byte rfl rfl h106 (by omega) (by omega)
                  · have h7 : ac.eval (.tmp 7) = .pointer (some ⟨wr.heap.size, 0, none⟩) := hin 7 (by decide)
                    exact pure_addr rfl rfl (by decide) h7
                · skip
                  refine ⟨⟨⟨_, rfl, fun ac hin => ?_⟩, ⟨_, rfl, fun ac hin => ?_⟩, trivial⟩, _, rfl, fun ac hin => ?_⟩
                  · have h104 : ac.eval (.tmp 104) = .pointer (some ⟨wr.heap.size, 3, none⟩) := hin 104 (by decide)
                    exact pure_load9b rfl rfl h104 b0
                  · have h110 : ac.eval (.tmp 110) = .pointer (some ⟨wr.heap.size, 3, none⟩) := hin 110 (by decide)
                    exact pure_load9b rfl rfl h110 b0
                  have h107 : ac.eval (.tmp 107) = .int .u8 tx.size := hin 107 (by decide)
                  refine ⟨rfl, ?_⟩
                  refine eff_build_byte rfl h107 ?_
                  refine ⟨fun h => absurd h (by decide), ?_⟩
                  have g1 : G wc1.drew (wc1.drew.alloc (.cells #[.int .u8 tx.size] 5)) := (G.refl _).alloc _
                  have b1 := b0.mono g1
                  refine ⟨⟨⟨_, rfl, fun ac hin => ?_⟩, trivial⟩, _, rfl, fun ac hin => ?_⟩
                  · have h110 : ac.eval (.tmp 110) = .pointer (some ⟨wr.heap.size, 3, none⟩) := hin 110 (by decide)
                    exact pure_load9b rfl rfl h110 b1
                  have h103 : ac.eval (.tmp 103) = v5 := hin 103 (by decide)
                  have h108 : ac.eval (.tmp 108) = .slice (some ⟨wc1.drew.heap.size, 0, none⟩) 1 1 := hin 108 (by decide)
                  refine ⟨rfl, ?_⟩
                  refine eff_append _ _ 34 rfl (w.heap.size + 1) 5 i (.int .u8 0) 1 1 Tryd.underlying34 i1 i2 i3 i4 rfl (by decide) v5 l6.length (bys l6) h103 (own_g x0.own g1) ⟨wc1.drew.heap.size, 0, none⟩ 1 1 (bys [sz]) h108 rfl (by rw [HSb.out]; exact cell_new1 _ _ _) (bys_one _) (by have h := HLN.out; unfold maxLen; omega) (by have h := HLN.out; omega) (by have h := x0.vr.lt; rw [sz_al]; omega) ?_
                  intro v6 w6 own6 gr6
                  refine ⟨fun h => absurd h (by decide), ?_⟩
                  have x6 := Pt.app x0 g1 own6 gr6
                  have b2 := Pt.at x0 b1 HPne.out g1 gr6
                  refine ⟨⟨⟨_, rfl, fun ac hin => ?_⟩, trivial⟩, _, rfl, fun ac hin => ?_⟩
                  · have h110 : ac.eval (.tmp 110) = .pointer (some ⟨wr.heap.size, 3, none⟩) := hin 110 (by decide)
                    exact pure_load9b rfl rfl h110 b2
                  have h109 : ac.eval (.tmp 109) = v6 := hin 109 (by decide)
                  have h111 : ac.eval (.tmp 111) = .string tx := hin 111 (by decide)
                  refine ⟨rfl, ?_⟩
                  refine eff_append_str _ _ rfl (w.heap.size + 1) i i1 i2 i3 i4 v6 _ _ h109 x6.own tx h111 (by have h := HLN.out; have h2 := HSZ.out; simp; unfold maxLen; omega) (by have h := HLN.out; have h2 := HSZ.out; simp; omega) (by have h := x6.vr.lt; omega) ?_
                  intro v7 w7 own7 gr7
                  refine ⟨fun h => absurd h (by decide), ?_⟩
                  have x7 := Pt.app (m := tx.data.toList) x6 (G.refl w6) own7 gr7
                  refine ⟨trivial, _, rfl, fun ac hin => ?_⟩
                  have h112 : ac.eval (.tmp 112) = v7 := hin 112 (by decide)
                  refine ⟨rfl, ?_⟩
                  refine eff_assign rfl h112 ?_
                  refine ⟨fun h => absurd h (by decide), ?_⟩
                  refine ⟨trivial, fun s' hs => ?_⟩
                  have h4 : s' 4 = v7 := hs 4 (by decide)
                  clear hs
                  simp only [putAll, List.foldl_cons, List.foldl_nil]
                  rw [h4]
                  simp only [Act.put, List.setIfInBounds_toArray, List.set_cons_succ, List.set_cons_zero]
                  clear h4
                  have HX7 := hid x7
                  clear x7 x6 x0 b0 b1 b2 own6 own7 gr6 gr7 g1
                  replace X := HX7
                  clear HX7
                  go_wp2_with fail
                  go_roundg (xs.length - (k + 1))
                  case measure => go_light; omega
                  case rel =>
                    go_light
                    obtain ⟨e1, e2⟩ := HST.out ([UInt8.ofNat (o % 256).toNat] ++ (UInt8.ofNat (tx.size % 256) :: tx.data.toList)) (by simp [insR, SA.out, SB.out, SS.out])
                    refine ⟨k + 1, by omega, rfl, by go_num, ?_, hid e2⟩
                    rw [e1]
                    have h := X.out
                    rw [← hl6.out, ← hsz.out] at h
                    simpa using h
          · obtain rfl : k = xs.length := by omega
            have hkz : ¬ (xs.length : Int) < (xs.length : Int) := by omega
            rw [List.take_length] at X hnb
            go_wp2_with fail
            go_ret2
            refine ⟨X.out.g, .inr ⟨?_, _, rfl, ?_⟩⟩
            · rw [HP.out, HNB.out, hnb.out]
              simp
            · exact own_low X.out.own (by omega)

end Go.Proofs.YtpeioflembhedaaDoor
