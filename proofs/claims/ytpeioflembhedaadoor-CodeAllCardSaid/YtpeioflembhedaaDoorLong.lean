/-
  CodeLong: its run from beginning to end. No conditions but the library's own (its table of the powers of ten stands as laid, its variable MaxLen holds a number).
-/
import Derived.Test.YtpeioflembhedaaDoorLongMath
import Derived.Test.YtpeioflembhedaaDoorPures
namespace Go.Proofs.YtpeioflembhedaaDoor
open Go.RowKit

theorem Ents.take {w : World} {q : Option Addr} {es : List Int} (h : Ents w q es) (n : Nat) : Ents w q (es.take n) := by
  intro k m hm
  rw [List.getElem?_take] at hm
  split at hm
  · exact h k m hm
  · cases hm
theorem cut50_size (s : ByteArray) : (cut50 s).size ≤ 50 := by
  unfold cut50
  split
  · simp
    omega
  · omega
/-- An instruction's numbers are ints. -/
def IntsI (x : I) : Prop := (-9223372036854775808 ≤ x.1 ∧ x.1 ≤ 9223372036854775807) ∧ (-9223372036854775808 ≤ x.2.1 ∧ x.2.1 ≤ 9223372036854775807) ∧ (-9223372036854775808 ≤ x.2.2.1 ∧ x.2.2.1 ≤ 9223372036854775807)
/-- Code that few has made. -/
def fewI (xs : List I) : List I := (xs.map cutI).take 40
theorem fewI_ok (xs : List I) (h : ∀ x ∈ xs, IntsI x) : ∀ y ∈ fewI xs, InsOk y ∧ y.2.2.2.size ≤ 50 := by
  intro y hy
  have hy := List.mem_of_mem_take hy
  obtain ⟨x, hx, rfl⟩ := List.mem_map.1 hy
  have h1 := h x hx
  have h2 := cut50_size x.2.2.2
  exact ⟨⟨h1.1, h1.2.1, h1.2.2, by show (cut50 _).size ≤ 1000; omega⟩, h2⟩
theorem fewI_len (xs : List I) : (fewI xs).length = min xs.length 40 := by
  unfold fewI
  rw [List.length_take, List.length_map]
  omega
/-- few's answer, read. -/
theorem few_row (p : Option Addr) (cap mc : Nat) (xs : List I) (es : List Int) (q : Option Addr) (w : World) (hmc : es.length ≤ mc) (hrow : Row w p xs) {ys : List I} (hys : fewI xs = ys) {es' : List Int} (hes : es.take 8 = es') :
    Calls Tryd.prog 8 #[.agg #[.slice p xs.length cap, .slice q es.length mc]] w fun e w' => ∃ p' c', e = .returned (.agg #[.slice p' ys.length c', .slice q es'.length mc]) ∧ Row w' p' ys ∧ ys.length ≤ c' ∧ (∀ a, p' = some a → w.heap.size ≤ a.block) ∧ G w w' := by
  subst hys hes
  refine (few_any p cap es.length mc xs q w hmc hrow).mono ?_
  rintro e w' ⟨v, rfl, ho, hg⟩
  rw [← fewI_len] at ho
  obtain ⟨p', c', rfl, hr, hc, hb⟩ := own_slice (ys := fewI xs) ho
  refine ⟨p', c', ?_, hr, hc, hb, hg⟩
  rw [show min es.length 8 = (es.take 8).length by rw [List.length_take]; omega]
theorem Var.alloc (w : World) (u v : Value) (T : TypeId) : Var (w.alloc (.cells #[u, v] T)) w.heap.size u v :=
  ⟨by simp, by simp [go_sem], by simp [go_sem], fun i => by simp [go_sem]⟩
theorem line_raw {o a b : Int} {tx ln : ByteArray} (h : lineR o a b tx = ln) (w : World) (hi : (-9223372036854775808 ≤ o ∧ o ≤ 9223372036854775807) ∧ (-9223372036854775808 ≤ a ∧ a ≤ 9223372036854775807) ∧ (-9223372036854775808 ≤ b ∧ b ≤ 9223372036854775807)) (hx : tx.size ≤ 60) (ht : Tab w) (hm : Max w) :
    Calls Tryd.prog 11 #[.agg #[.int .i64 o, .int .i64 a, .int .i64 b, .string tx]] w fun e w' => e = .returned (.string ln) ∧ G w w' := by
  subst h
  exact line_any o a b tx w hi.1.1 hi.1.2 hi.2.1.1 hi.2.1.2 hi.2.2.1 hi.2.2.2 hx ht hm
set_option maxRecDepth 100000 in
set_option maxHeartbeats 4000000 in
theorem long_walk (p q : Option Addr) (cap mc : Nat) (xs : List I) (es : List Int) (w : World) (ht : Tab w) (hm : Max w) (hmc : es.length ≤ mc) (hrow : Row w p xs) (hent : Ents w q es) (hx : ∀ x ∈ xs, IntsI x) (he : ∀ n ∈ es, EntOk n) :
    Calls Tryd.prog 4 #[.agg #[.slice p xs.length cap, .slice q es.length mc]] w fun e w' => e = .returned (.bool true) ∧ G w w' := by
  have HT := hid ht
  have HM := hid hm
  have HR := hid hrow
  have HE := hid hent
  have HX := hid (fewI_ok xs hx)
  have HF := hid he
  clear ht hm hrow hent hx he
  obtain ⟨ys, hys⟩ : ∃ ys, Hid (fewI xs = ys) := ⟨_, rfl⟩
  obtain ⟨es', hes⟩ : ∃ es', Hid (es.take 8 = es') := ⟨_, rfl⟩
  rw [hys.out] at HX
  have HYL : Hid (ys.length ≤ 40) := hid (by rw [← hys.out, fewI_len]; omega)
  have HEL : Hid (es'.length ≤ 8) := hid (by rw [← hes.out, List.length_take]; omega)
  go_enter Tryd.func4, Tryd.ntmps4
  go_wp2_with fail
  have BC := hid (Var.alloc w (.slice p xs.length cap) (.slice q es.length mc) 28)
  have HG := hid ((G.refl w).alloc (.cells #[.slice p xs.length cap, .slice q es.length mc] 28))
  refine (shown_any _ (tab_on HT.out HG.out) (max_on HM.out HG.out)).mono ?_
  rintro e w1 ⟨rfl, g⟩
  replace BC := hid (BC.out.mono g)
  replace HG := hid (HG.out.trans g)
  clear g
  obtain ⟨l0, p0, q0, f0⟩ := BC.out
  go_wp2_with fail
  refine (few_row p cap mc xs es q _ hmc (HR.out.on HG.out) hys.out hes.out).mono ?_
  rintro e w2 ⟨p', c', rfl, hr2, hc2, hb2, g⟩
  clear l0 p0 q0 f0
  have hl1 := BC.out.lt
  replace BC := hid (BC.out.mono g)
  replace HG := hid (HG.out.trans g)
  obtain ⟨l0, p0, q0, f0⟩ := BC.out
  go_wp2_with fail
  have hs2 := HG.out.size
  have G1 : Turn (fun k => k = w.heap.size) w2 (w2.setCell ⟨w.heap.size, 0, none⟩ (.slice p' ys.length c')) := Turn.set (X := fun k => k = w.heap.size) _ rfl _
  have G2 : Turn (fun k => k = w.heap.size) w2 ((w2.setCell ⟨w.heap.size, 0, none⟩ (.slice p' ys.length c')).setCell ⟨w.heap.size, 1, none⟩ (.slice q es'.length mc)) := G1.trans (Turn.set (X := fun k => k = w.heap.size) _ rfl _)
  have HR2 := hid (hr2.turn G2 (fun a ha => by have := hb2 a ha; omega))
  replace HG := hid (G2.G HG.out (fun k hk => by omega))
  replace BC := hid ((BC.out.set (.slice p' ys.length c')).set1 (.slice q es'.length mc))
  clear l0 p0 q0 f0 g hr2 hc2 hb2 hl1 hs2 G1 G2
  generalize (w2.setCell ⟨w.heap.size, 0, none⟩ (.slice p' ys.length c')).setCell ⟨w.heap.size, 1, none⟩ (.slice q es'.length mc) = w3 at HR2 HG BC ⊢
  have HE3 : Hid (Ents w3 q es') := hid (by
    rw [← hes.out]
    exact (HE.out.on HG.out).take 8)
  refine (put_any p' q c' mc es' ys _ (by have := HYL.out; omega) (by have := HEL.out; omega) HR2.out HE3.out (fun y hy => (HX.out y hy).1) (fun n hn => HF.out n (List.mem_of_mem_take (by rw [hes.out]; exact hn)))).mono ?_
  rintro e w4 ⟨g, hp⟩
  replace BC := hid (BC.out.mono g)
  replace HG := hid (HG.out.trans g)
  replace HR2 := hid (HR2.out.on g)
  clear g
  rcases hp with ⟨hne, rfl⟩ | ⟨h0, vb, rfl, hown⟩
  · have hpe : putE es' ys = 1 ∨ putE es' ys = 4 := by
      revert hne
      unfold putE
      split <;> (try split) <;> (try split) <;> simp
    obtain ⟨z, hz⟩ : ∃ z, Hid (putE es' ys = z) := ⟨_, rfl⟩
    rw [hz.out] at hpe ⊢
    clear hne
    rcases hpe with rfl | rfl
    all_goals (
      go_wp2_with fail
      go_ret
      exact ⟨rfl, HG.out⟩)
  · have hlen : (codeR es' ys).length = 9 + 8 * es'.length + ((ys.map insR).flatten).length := by
      simp only [codeR, List.length_append, eights_len, eight_len, List.length_cons, List.length_nil]
      omega
    have hil := insRs_len ys (fun y hy => (HX.out y hy).1)
    have hyl := HYL.out
    have hel := HEL.out
    have HLen := hid hlen
    obtain ⟨gb, cb, rfl⟩ := own_some hown (by omega)
    have hb0 : w4.cell? ⟨gb, 0, none⟩ = some (.int .u8 es'.length) := by
      have h := hown.cells (g := gb) rfl 0 (.int .u8 (UInt8.ofNat (es'.length % 256)).toNat) rfl
      have e : ((UInt8.ofNat (es'.length % 256)).toNat : Int) = es'.length := by
        rw [UInt8.toNat_ofNat']
        omega
      rw [e] at h
      exact h
    have HB0 := hid hb0
    have hcl : (codeR es' ys).length ≤ 100000 := by omega
    clear hb0 hown h0 hlen hil
    obtain ⟨N, hN⟩ : ∃ N, Hid ((codeR es' ys).length = N) := ⟨_, rfl⟩
    simp only [hN.out] at hcl ⊢
    obtain ⟨l0, p0, q0, f0⟩ := BC.out
    go_wp2_with fail
    go_loopg [6, 7] ys.length (fun n m j wr => ∃ k : Nat, k ≤ ys.length ∧ n = ys.length - k ∧ j = .int .i64 k ∧ m = .int .i64 (((9 + 8 * es'.length + (((ys.take k).map insR).flatten).length : Nat) : Int)) ∧ Var wr w.heap.size (.slice p' ys.length c') (.slice q es'.length mc) ∧ wr.cell? ⟨gb, 0, none⟩ = some (.int .u8 es'.length) ∧ Row wr p' ys ∧ G w wr)
    case atStart => exact ⟨0, by omega, rfl, rfl, by simp, BC.out, HB0.out, HR2.out, HG.out⟩
    case round =>
      obtain ⟨k, hk, rfl, rfl, rfl, hc, hb, hr, hg⟩ := hrel
      clear BC HB0 HR2 HG l0 p0 q0 f0
      have BC := hid hc
      have HB0 := hid hb
      have HR2 := hid hr
      have HG := hid hg
      clear hc hb hr hg
      obtain ⟨l0, p0, q0, f0⟩ := BC.out
      by_cases hkl : k < ys.length
      · obtain ⟨x, hx⟩ : ∃ x, ys[k]? = some x := ⟨ys[k], by simp [hkl]⟩
        obtain ⟨bk, off, rfl, hat⟩ := HR2.out k x hx
        have HAT := hid hat
        have HO := hid (HX.out x (List.mem_of_getElem? hx))
        have HXk := hid hx
        clear hx
        obtain ⟨M, hM⟩ : ∃ M : Nat, Hid ((9 + 8 * es'.length + (((ys.take k).map insR).flatten).length) = M) := ⟨_, rfl⟩
        have hMb : M ≤ 100000 := by
          have h1 := insRs_len (ys.take k) (fun y hy => (HX.out y (List.mem_of_mem_take hy)).1)
          have h2 : (ys.take k).length ≤ k := List.length_take_le _ _
          rw [← hM.out]
          omega
        rw [hM.out]
        obtain ⟨o, a, b, tx⟩ := x
        obtain ⟨ln, hln⟩ : ∃ ln, Hid (lineR o a b tx = ln) := ⟨_, rfl⟩
        have hls : ln.size ≤ 200 := by
          rw [← hln.out]
          exact line_size o a b tx HO.out.1.a.1 HO.out.1.a.2 HO.out.1.b.1 HO.out.1.b.2 (Nat.le_trans HO.out.2 (by decide))
        obtain ⟨c0, c1, c2, c3⟩ := hat
        simp at c0 c1 c2 c3
        have hkz : (k : Int) < (ys.length : Int) := by omega
        go_wp2_with fail
        refine (line_raw hln.out _ ⟨HO.out.1.o, HO.out.1.a, HO.out.1.b⟩ (Nat.le_trans HO.out.2 (by decide)) (tab_on HT.out HG.out) (max_on HM.out HG.out)).mono ?_
        rintro e w5 ⟨rfl, g⟩
        clear c0 c1 c2 c3 l0 p0 q0 f0
        obtain ⟨c0, c1, c2, c3⟩ := HAT.out.on g
        simp at c0 c1 c2 c3
        replace BC := hid (BC.out.mono g)
        replace HB0 := hid (g.cell HB0.out)
        replace HR2 := hid (HR2.out.on g)
        replace HG := hid (HG.out.trans g)
        clear g
        obtain ⟨l0, p0, q0, f0⟩ := BC.out
        go_wp2_with fail
        go_loopg [8, 10] ln.size (fun n m i wx => wx = w5 ∧ ∃ j : Nat, j ≤ ln.size ∧ n = ln.size - j ∧ i = .int .i64 j ∧ ∃ B : Nat, B ≤ j + 1 ∧ m = .int .i64 B ∧ Hid (B = 1 + blanks (ln.data.toList.take j)))
        case atStart => exact ⟨rfl, 0, by omega, rfl, rfl, 1, by omega, rfl, hid rfl⟩
        case round =>
          obtain ⟨rfl, j, hj, rfl, rfl, B, hBj, rfl, hBe⟩ := hrel
          by_cases hjl : j < ln.size
          · have hjz : (j : Int) < (ln.size : Int) := by omega
            have hsn := hid (blanks_snoc ln j hjl)
            by_cases h32 : ln[j] = 32
            · have h32z : (((ln[j].toNat : Nat) : Int) == 32) = true := by simp [h32]
              have H32 := hid h32
              clear h32
              go_wp2_with fail
              go_roundg (ln.size - (j + 1))
              case measure => go_light; omega
              case rel =>
                go_light
                refine ⟨rfl, j + 1, by omega, rfl, by go_num, B + 1, by omega, by go_num, ?_⟩
                have h1 := hsn.out
                rw [if_pos H32.out] at h1
                have h2 := hBe.out
                exact hid (by omega)
            · have h32z : (((ln[j].toNat : Nat) : Int) == 32) = false := by
                rw [beq_eq_false_iff_ne]
                intro h
                apply h32
                have h' : ln[j].toNat = 32 := by omega
                exact UInt8.toNat_inj.1 h'
              have H32 := hid h32
              clear h32
              go_wp2_with fail
              go_roundg (ln.size - (j + 1))
              case measure => go_light; omega
              case rel =>
                go_light
                refine ⟨rfl, j + 1, by omega, rfl, by go_num, B, by omega, rfl, ?_⟩
                have h1 := hsn.out
                rw [if_neg H32.out] at h1
                have h2 := hBe.out
                exact hid (by omega)
          · obtain rfl : j = ln.size := by omega
            have hjz : ¬ (ln.size : Int) < (ln.size : Int) := by omega
            have hBl : Hid (B = 1 + blanks (lineR o a b tx).data.toList) := by
              have h := hBe.out
              rw [List.take_of_length_le (by simp)] at h
              rw [hln.out]
              exact hid h
            have HT1 : Hid ((o = 4 ∨ o = 7) → M + 2 + tx.size = 9 + 8 * es'.length + (((ys.take (k + 1)).map insR).flatten).length) := hid (by
              intro h
              have e := ins_len_text (o, a, b, tx) h
              rw [← hM.out, List.take_add_one, HXk.out]
              simp [e]
              omega)
            have HT2 : Hid (¬ (o = 4 ∨ o = 7) → (M : Int) + 1 + 8 * ((B : Int) - 1) = ((9 + 8 * es'.length + (((ys.take (k + 1)).map insR).flatten).length : Nat) : Int)) := hid (by
              intro h
              have e := ins_len (o, a, b, tx) h
              have e2 := hBl.out
              rw [← hM.out, List.take_add_one, HXk.out]
              simp [e]
              omega)
            have hB1 : 1 ≤ B := by have := hBl.out; omega
            have hts : tx.size ≤ 50 := HO.out.2
            clear hBe hj hjl
            rcases (show o = 4 ∨ o = 7 ∨ (o ≠ 4 ∧ o ≠ 7) by omega) with ho | ho | ⟨ho, ho2⟩
            · subst ho
              go_wp2_with fail
              go_roundg (ys.length - (k + 1))
              case measure => go_light; omega
              case rel =>
                go_light
                have h := HT1.out (by simp)
                exact ⟨k + 1, by omega, rfl, by go_num, by rw [← h]; go_num, BC.out, HB0.out, HR2.out, HG.out⟩
            · subst ho
              go_wp2_with fail
              go_roundg (ys.length - (k + 1))
              case measure => go_light; omega
              case rel =>
                go_light
                have h := HT1.out (by simp)
                exact ⟨k + 1, by omega, rfl, by go_num, by rw [← h]; go_num, BC.out, HB0.out, HR2.out, HG.out⟩
            · have h4 : (o == 4) = false := by simp [ho]
              have h7 : (o == 7) = false := by simp [ho2]
              have HN := hid (show ¬ (o = 4 ∨ o = 7) by omega)
              clear ho ho2
              go_wp2_with fail
              go_roundg (ys.length - (k + 1))
              case measure => go_light; omega
              case rel =>
                go_light
                have h := HT2.out HN.out
                exact ⟨k + 1, by omega, rfl, by go_num, by rw [← h], BC.out, HB0.out, HR2.out, HG.out⟩
      · obtain rfl : k = ys.length := by omega
        have e9 : 9 + 8 * es'.length + (((ys.take ys.length).map insR).flatten).length = N := by
          rw [List.take_length, ← HLen.out, hN.out]
        rw [e9]
        have hkz : ¬ (ys.length : Int) < (ys.length : Int) := by omega
        have c0 := HB0.out
        clear e9
        go_upto_region 20 with (fail)
        have hN1 : 0 < N := by
          rw [← hN.out, HLen.out]
          omega
        have BCd := BC.out.mono (G.drew (G.refl wr))
        have cd : wr.drew.cell? ⟨gb, 0, none⟩ = some (.int .u8 es'.length) := (G.drew (G.refl wr)).cell c0
        refine wp_region_chain 114 [0, 1, 2, 3, 4, 5, 6, 7, 8, 9, 10, 11, 12, 13, 14, 15, 16, 17] [] [0, 1, 2, 3, 4, 5, 6, 7, 8, 9, 11, 12, 14, 15, 16, 17] [97, 98, 99, 100, 101, 102, 103, 104, 105, 106, 107, 108, 109, 110, 111, 112, 113, 2] (fun _ => [10, 13])
          (fun i => if i = 0 ∨ i = 1 then .bool true else if i = 2 then .slice (some ⟨gb, 0, none⟩) N cb else if i = 3 ∨ i = 4 then .int .i64 N else if i = 5 ∨ i = 6 ∨ i = 7 then .bool true else if i = 8 then .slice (some ⟨gb, 0, none⟩) N cb else if i = 9 then .pointer (some ⟨gb, 0, none⟩) else if i = 10 then .int .u8 es'.length else if i = 11 then .int .i64 es'.length else if i = 12 then .pointer (some ⟨w.heap.size, 1, none⟩) else if i = 13 then .slice q es'.length mc else if i = 14 then .int .i64 es'.length else .bool true) (by kernel_rfl) (by kernel_rfl) (by kernel_rfl) rfl ?_ ?_
        · intro w1
          exact ⟨⟨_, rfl, fun ac hin => pure_move rfl rfl (hin 3 (by decide))⟩,
            ⟨_, rfl, fun ac hin => pure_move rfl rfl (hin 97 (by decide))⟩,
            ⟨_, rfl, fun ac hin => pure_move (wanted_yes rfl rfl (hin 98 (by decide))) rfl (hin 4 (by decide))⟩,
            ⟨_, rfl, fun ac hin => pure_len (.inl rfl) (wanted_yes rfl rfl (hin 98 (by decide))) rfl (hin 99 (by decide))⟩,
            ⟨_, rfl, fun ac hin => pure_move (wanted_yes rfl rfl (hin 98 (by decide))) rfl (hin 6 (by decide))⟩,
            ⟨_, rfl, fun ac hin => by simpa using pure_eqint (wanted_yes rfl rfl (hin 98 (by decide))) rfl (hin 100 (by decide)) (hin 101 (by decide))⟩,
            ⟨_, rfl, fun ac hin => pure_pick rfl rfl (hin 98 (by decide)) (hin 102 (by decide))⟩,
            ⟨_, rfl, fun ac hin => pure_move rfl rfl (hin 103 (by decide))⟩,
            ⟨_, rfl, fun ac hin => pure_move (wanted_yes rfl rfl (hin 104 (by decide))) rfl (hin 4 (by decide))⟩,
            ⟨_, rfl, fun ac hin => pure_index0 (wanted_yes rfl rfl (hin 104 (by decide))) rfl (hin 105 (by decide)) hN1⟩,
            ⟨_, rfl, fun ac hin => pure_int (wanted_yes rfl rfl (hin 104 (by decide))) rfl (hin 107 (by decide)) (by omega) (by omega)⟩,
            ⟨_, rfl, fun ac hin => pure_addr28 (wanted_yes rfl rfl (hin 104 (by decide))) rfl (by decide) (hin 1 (by decide))⟩,
            ⟨_, rfl, fun ac hin => pure_len (.inr (.inr rfl)) (wanted_yes rfl rfl (hin 104 (by decide))) rfl (hin 110 (by decide))⟩,
            ⟨_, rfl, fun ac hin => by simpa using pure_eqint (wanted_yes rfl rfl (hin 104 (by decide))) rfl (hin 108 (by decide)) (hin 111 (by decide))⟩,
            ⟨_, rfl, fun ac hin => pure_pick rfl rfl (hin 104 (by decide)) (hin 112 (by decide))⟩,
            ⟨_, rfl, fun ac hin => pure_assign rfl rfl (hin 113 (by decide))⟩, trivial⟩
        · refine ⟨⟨⟨_, rfl, fun ac hin => pure_load5 (wanted_yes rfl rfl (hin 104 (by decide))) rfl (hin 106 (by decide)) cd⟩, ⟨_, rfl, fun ac hin => pure_load26 (wanted_yes rfl rfl (hin 104 (by decide))) rfl (hin 109 (by decide)) BCd.c1⟩, trivial⟩, fun s' hs => ?_⟩
          have h2 : s' 2 = .bool true := hs 2 (by decide)
          clear hs
          simp only [putAll, List.foldl_cons, List.foldl_nil]
          rw [h2]
          go_wp2_with fail
          go_ret
          exact ⟨rfl, (G.drew HG.out)⟩
end Go.Proofs.YtpeioflembhedaaDoor
