/-
  An instruction's line: its name, its numbers, its text. No conditions but the library's own: its table of the powers of ten stands as laid, its variable MaxLen holds a number.
-/
import Derived.Test.YtpeioflembhedaaDoorSays
import Derived.Test.YtpeioflembhedaaDoorName
import Derived.Test.YtpeioflembhedaaDoorMay
import Derived.Lib.SmallJoins
import Derived.Lib.AppendIntMem
namespace Go.Proofs.YtpeioflembhedaaDoor
open Go.RowKit

/-- The table of the powers of ten stands where the library's text lays it. -/
def Tab (w : World) : Prop := Lib.TabIs Tryd.prog w "internal/strconv.uint64pow10" .u64 Lib.pow10Tab
theorem tab_on {w w' : World} (h : Tab w) (k : G w w') : Tab w' := Joins.tab_stays (g := 1) (by kernel_rfl) h k (Nat.le_refl _)
theorem itoa_any (n : Int) (h0 : -9223372036854775808 ≤ n) (h1 : n ≤ 9223372036854775807) (w : World) (ht : Tab w) :
    Calls Tryd.prog 24 #[.int .i64 n] w fun e w' => e = .returned (.string ⟨(Lib.itoa n).toArray⟩) ∧ G w w' := by
  refine (Tryd.strconv_Itoa n h0 h1 w ht).mono ?_
  rintro e w' ⟨rfl, k, os, rfl⟩
  exact ⟨rfl, Lib.below_grow _ _ (Nat.le_refl _) _ _⟩
theorem name_to {o : Int} {nm : ByteArray} (h : nameR o = nm) (w : World) (hm : Max w) : Calls Tryd.prog 9 #[.int .i64 o] w fun e w' => e = .returned (.string nm) ∧ G w w' := by
  subst h
  exact name_any o w hm
theorem grow_assign_own {a : Act} {w : World} {o : Oper} {x : Operand} {Ψ : Post} (h : o.op = .assign x) (hv : Ψ (a.eval x) w) : growAt Tryd.prog o a w Ψ := grow_assign h hv

theorem info9 : ∃ i, Tryd.prog.info? 9 = some i ∧ i.zero = some (.string ⟨#[]⟩) ∧ i.size = 1 ∧ i.bytes = 16 :=
  ⟨(Tryd.prog.info? 9).get (by kernel_rfl), by kernel_rfl, by kernel_rfl, by kernel_rfl, by kernel_rfl⟩
theorem At.turned {w w' : World} {k f : Nat} {o a b : Int} {s : ByteArray} {row : Option Nat} (h : At w k f o a b s) (hg : w.grownBy w' row) (hne : ∀ j, row = some j → j ≠ k) : At w' k f o a b s := by
  have hr : some k ≠ row := fun e => hne k e.symm rfl
  have hb := hg.block k h.lt hr
  exact ⟨Nat.lt_of_lt_of_le h.lt hg.size, (World.cell?_of_block hb).trans h.c0, (World.cell?_of_block hb).trans h.c1, (World.cell?_of_block hb).trans h.c2, (World.cell?_of_block hb).trans h.c3, fun i => (World.frozen?_of_block hb).trans (h.fr i)⟩
theorem cell_new (w : World) (s : ByteArray) : ∀ j u, [Value.string s][j]? = some u → (w.alloc (.cells #[.string s] 9)).cell? ((⟨w.heap.size, 0, none⟩ : Addr).add j) = some u := by
  intro j u hj
  match j, hj with
  | 0, hj =>
    simp at hj
    subst hj
    simp [go_sem]
/-- One text more behind a row of the call's own: the equation that the walk takes. -/
theorem push {w : World} {B n : Nat} {v : Value} {xs : List Value} (hown : w.ownsRow B 9 1 v n xs) (hB : B ≤ w.heap.size) (hn : n ≤ 5) (s : ByteArray) :
    ∃ v' w', (Builtin.append_ #[45, 45] 45 #[v, .slice (some ⟨w.heap.size, 0, none⟩) 1 1]).run Tryd.prog (w.alloc (.cells #[.string s] 9)) = .ok v' w' ∧ w'.ownsRow B 9 1 v' (n + 1) (xs ++ [.string s]) ∧ (∀ a : World, a.heap.size ≤ B → G a w → G a w') := by
  obtain ⟨i, i1, i2, i3, i4⟩ := info9
  obtain ⟨v', w', h1, h2, h3, _⟩ := run_append_own (P := Tryd.prog) (w.alloc (.cells #[.string s] 9)) B 45 45 9 i _ 1 16 Tryd.underlying45 i1 i2 i3 i4 rfl (by decide) v n xs (hown.alloc _) ⟨w.heap.size, 0, none⟩ 1 1 [.string s] rfl (by
      intro j u hj
      match j, hj with
      | 0, hj =>
        simp at hj
        subst hj
        simp [go_sem]) (by simp [Value.oneCell']) (by unfold maxLen; omega) (by omega) (by simp; omega)
  refine ⟨v', w', h1, h2, fun a ha hg => (hg.alloc _).grown h3 fun k hk => ?_⟩
  have := hown.lt k hk
  omega

theorem join_any {w : World} {B n : Nat} {v : Value} (xs : List ByteArray) (hown : w.ownsRow B 9 1 v n (xs.map .string)) (hn : 0 < n) (hn5 : n ≤ 5) (hlen : (Lib.join (xs.map (·.data.toList)) [32]).length ≤ 140737488355328) :
    Calls Tryd.prog 25 #[v, .string ⟨#[32]⟩] w fun e w' => e = .returned (.string ⟨(Lib.join (xs.map (·.data.toList)) [32]).toArray⟩) ∧ G w w' := by
  have hc := @World.ownsRow.cells _ _ _ _ _ _ _ hown
  obtain ⟨hl, hv | ⟨g, c, cur, rfl, hg1, hg2, hg3, hg4, hg5, hg6⟩⟩ := hown
  · omega
  · have hx : xs.length = n := by simpa using hl
    subst hx
    have hlt : g < w.heap.size := (Array.getElem?_eq_some_iff.1 hg2).1
    refine Tryd.strings_Join g 0 c xs ⟨#[32]⟩ w ?_ hlt (by omega) hg3 hlen
    intro k x hk
    have := hc (g := g) rfl k (.string x) (by simp [hk])
    by_cases k0 : k = 0
    · subst k0
      simpa [Addr.add] using this
    · simpa [Addr.add, k0] using this

set_option maxRecDepth 100000 in
set_option maxHeartbeats 2000000 in
theorem line0 (o a b : Int) (tx nm : ByteArray) (k : Int) (w : World) (h0 : -9223372036854775808 ≤ o) (h1 : o ≤ 9223372036854775807) (hs : shapeR o = k) (hk : k = 0) (hn : nameR o = nm) (hm : Max w)
    (hlen : (Lib.join (([nm] : List ByteArray).map (·.data.toList)) [32]).length ≤ 140737488355328) :
    Calls Tryd.prog 11 #[V o a b tx] w fun e w' => e = .returned (.string ⟨(Lib.join (([nm] : List ByteArray).map (·.data.toList)) [32]).toArray⟩) ∧ G w w' := by
  have H0 := hid h0
  have H1 := hid h1
  have HM := hid hm
  have HL := hid hlen
  clear h0 h1 hm hlen
  unfold V
  go_enter Tryd.func11, Tryd.ntmps11
  go_upto_region 1 with (fail)
  have BA := hid (At.alloc w o a b tx)
  refine wp_region_grows (says [Say.is (.pointer (some ⟨w.heap.size, 0, none⟩)), Say.is (.int .i64 o), Say.is (.int .i64 k), Say.is (.pointer (some ⟨w.heap.size, 0, none⟩)), Say.is (.int .i64 o), Say.is (.string nm), Say.own ((w.heap.size + 1)) (nm), Say.is (.int .i64 k), Say.own ((w.heap.size + 1)) (nm)]) 40 (by kernel_rfl) (by kernel_rfl) rfl (says_mono _) (allSteps_take ⟨?_, ?_, ?_, ?_, ?_, ?_, ?_, ?_, ?_, trivial⟩) ?_
  · intro a w1 hG hin
    have h1 : a.eval (.tmp 1) = .pointer (some ⟨w.heap.size, 0, none⟩) := slot_out (hin 1 (by decide)) rfl
    clear hin
    refine .inl ⟨wanted_none rfl, ?_⟩
    exact grow_addr rfl (by decide) h1 rfl
  · intro a w1 hG hin
    have h5 : a.eval (.tmp 5) = .pointer (some ⟨w.heap.size, 0, none⟩) := slot_in (hin 5 (by decide)) rfl
    clear hin
    refine .inl ⟨wanted_none rfl, ?_⟩
    exact grow_load0 rfl (BA.out.mono hG) h5 rfl
  · intro a w1 hG hin
    have h6 : a.eval (.tmp 6) = .int .i64 o := slot_in (hin 6 (by decide)) rfl
    clear hin
    refine .inl ⟨wanted_none rfl, ?_⟩
    exact grow_call Tryd.call22 #[.int .i64 o] (by simp only [List.map_toArray, List.map_cons, List.map_nil, h6] <;> rfl) ((shape_to hs H0.out H1.out _).mono (by rintro e w2 ⟨rfl, hg⟩; exact ⟨_, rfl, hg, rfl⟩))
  · intro a w1 hG hin
    have h1 : a.eval (.tmp 1) = .pointer (some ⟨w.heap.size, 0, none⟩) := slot_out (hin 1 (by decide)) rfl
    clear hin
    refine .inl ⟨wanted_none rfl, ?_⟩
    exact grow_addr rfl (by decide) h1 rfl
  · intro a w1 hG hin
    have h8 : a.eval (.tmp 8) = .pointer (some ⟨w.heap.size, 0, none⟩) := slot_in (hin 8 (by decide)) rfl
    clear hin
    refine .inl ⟨wanted_none rfl, ?_⟩
    exact grow_load0 rfl (BA.out.mono hG) h8 rfl
  · intro a w1 hG hin
    have h9 : a.eval (.tmp 9) = .int .i64 o := slot_in (hin 9 (by decide)) rfl
    clear hin
    refine .inl ⟨wanted_none rfl, ?_⟩
    exact grow_call Tryd.call9 #[.int .i64 o] (by simp only [List.map_toArray, List.map_cons, List.map_nil, h9] <;> rfl) ((name_to hn _ (max_on HM.out (((G.refl _).alloc _).trans hG))).mono (by rintro e w2 ⟨rfl, hg⟩; exact ⟨_, rfl, hg, rfl⟩))
  · intro a w1 hG hin
    have h10 : a.eval (.tmp 10) = .string nm := slot_in (hin 10 (by decide)) rfl
    clear hin
    refine .inl ⟨wanted_none rfl, ?_⟩
    exact grow_build1 rfl h10 (by have h := hG.size; simpa using h) (fun _ _ h => h)
  · intro a w1 hG hin
    have h7 : a.eval (.tmp 7) = .int .i64 k := slot_in (hin 7 (by decide)) rfl
    clear hin
    exact .inl ⟨wanted_none rfl, grow_assign rfl h7⟩
  · intro a w1 hG hin
    have h11 : w1.ownsRow (w.heap.size + 1) 9 1 (a.eval (.tmp 11)) 1 [.string nm] := slot_in (hin 11 (by decide)) rfl
    clear hin
    refine .inl ⟨wanted_none rfl, ?_⟩
    exact grow_assign rfl h11
  · intro s w9 hG hin hs
    have f1 : s 1 = .pointer (some ⟨w.heap.size, 0, none⟩) := (hs 1 (by decide)).symm.trans (slot_out (hin 1) rfl)
    have f3 : s 3 = .int .i64 k := (hs 3 (by decide)).symm.trans (slot_in (hin 3) rfl)
    have f4 : w9.ownsRow (w.heap.size + 1) 9 1 (s 4) 1 [.string nm] := by have h := slot_in (hin 4) rfl; rw [hs 4 (by decide)] at h; exact h
    clear hin hs
    rw [show List.range 40 = [0, 1, 2, 3, 4, 5, 6, 7, 8, 9, 10, 11, 12, 13, 14, 15, 16, 17, 18, 19, 20, 21, 22, 23, 24, 25, 26, 27, 28, 29, 30, 31, 32, 33, 34, 35, 36, 37, 38, 39] from rfl]
    simp only [List.map_cons, List.map_nil]
    rw [f1, f3]
    subst hk
    have b1 := bits01
    have b2 := bits02
    have b3 := bits04
    have HO := hid f4
    clear f4
    have HG := hid (((G.refl w).alloc _).trans hG)
    replace BA := hid (BA.out.mono hG)
    have HB : Hid (w.heap.size + 1 ≤ w9.heap.size) := hid (by have h := hG.size; simpa using h)
    clear hG
    obtain ⟨l1, p1, q1, r1, t1, f1⟩ := BA.out
    simp at q1 r1 t1
    obtain ⟨i, i1, i2, i3, i4⟩ := info9
    go_wp2_with fail
    refine (join_any [nm] HO.out (by decide) (by decide) HL.out).mono ?_
    rintro e z ⟨rfl, g⟩
    have HZ := hid (HG.out.trans g)
    clear g
    go_wp2_with fail
    go_ret
    exact ⟨rfl, HZ.out⟩

set_option maxRecDepth 100000 in
set_option maxHeartbeats 2000000 in
theorem line1 (o a b : Int) (tx nm : ByteArray) (k : Int) (w : World) (h0 : -9223372036854775808 ≤ o) (h1 : o ≤ 9223372036854775807) (hs : shapeR o = k) (hk : k = 1) (hn : nameR o = nm) (hm : Max w) (a0 : -9223372036854775808 ≤ a) (a1 : a ≤ 9223372036854775807) (ht : Tab w)
    (hlen : (Lib.join (([nm, ⟨(Lib.itoa a).toArray⟩] : List ByteArray).map (·.data.toList)) [32]).length ≤ 140737488355328) :
    Calls Tryd.prog 11 #[V o a b tx] w fun e w' => e = .returned (.string ⟨(Lib.join (([nm, ⟨(Lib.itoa a).toArray⟩] : List ByteArray).map (·.data.toList)) [32]).toArray⟩) ∧ G w w' := by
  have H0 := hid h0
  have H1 := hid h1
  have HM := hid hm
  have HL := hid hlen
  clear h0 h1 hm hlen
  unfold V
  go_enter Tryd.func11, Tryd.ntmps11
  go_upto_region 1 with (fail)
  have BA := hid (At.alloc w o a b tx)
  refine wp_region_grows (says [Say.is (.pointer (some ⟨w.heap.size, 0, none⟩)), Say.is (.int .i64 o), Say.is (.int .i64 k), Say.is (.pointer (some ⟨w.heap.size, 0, none⟩)), Say.is (.int .i64 o), Say.is (.string nm), Say.own ((w.heap.size + 1)) (nm), Say.is (.int .i64 k), Say.own ((w.heap.size + 1)) (nm)]) 40 (by kernel_rfl) (by kernel_rfl) rfl (says_mono _) (allSteps_take ⟨?_, ?_, ?_, ?_, ?_, ?_, ?_, ?_, ?_, trivial⟩) ?_
  · intro a w1 hG hin
    have h1 : a.eval (.tmp 1) = .pointer (some ⟨w.heap.size, 0, none⟩) := slot_out (hin 1 (by decide)) rfl
    clear hin
    refine .inl ⟨wanted_none rfl, ?_⟩
    exact grow_addr rfl (by decide) h1 rfl
  · intro a w1 hG hin
    have h5 : a.eval (.tmp 5) = .pointer (some ⟨w.heap.size, 0, none⟩) := slot_in (hin 5 (by decide)) rfl
    clear hin
    refine .inl ⟨wanted_none rfl, ?_⟩
    exact grow_load0 rfl (BA.out.mono hG) h5 rfl
  · intro a w1 hG hin
    have h6 : a.eval (.tmp 6) = .int .i64 o := slot_in (hin 6 (by decide)) rfl
    clear hin
    refine .inl ⟨wanted_none rfl, ?_⟩
    exact grow_call Tryd.call22 #[.int .i64 o] (by simp only [List.map_toArray, List.map_cons, List.map_nil, h6] <;> rfl) ((shape_to hs H0.out H1.out _).mono (by rintro e w2 ⟨rfl, hg⟩; exact ⟨_, rfl, hg, rfl⟩))
  · intro a w1 hG hin
    have h1 : a.eval (.tmp 1) = .pointer (some ⟨w.heap.size, 0, none⟩) := slot_out (hin 1 (by decide)) rfl
    clear hin
    refine .inl ⟨wanted_none rfl, ?_⟩
    exact grow_addr rfl (by decide) h1 rfl
  · intro a w1 hG hin
    have h8 : a.eval (.tmp 8) = .pointer (some ⟨w.heap.size, 0, none⟩) := slot_in (hin 8 (by decide)) rfl
    clear hin
    refine .inl ⟨wanted_none rfl, ?_⟩
    exact grow_load0 rfl (BA.out.mono hG) h8 rfl
  · intro a w1 hG hin
    have h9 : a.eval (.tmp 9) = .int .i64 o := slot_in (hin 9 (by decide)) rfl
    clear hin
    refine .inl ⟨wanted_none rfl, ?_⟩
    exact grow_call Tryd.call9 #[.int .i64 o] (by simp only [List.map_toArray, List.map_cons, List.map_nil, h9] <;> rfl) ((name_to hn _ (max_on HM.out (((G.refl _).alloc _).trans hG))).mono (by rintro e w2 ⟨rfl, hg⟩; exact ⟨_, rfl, hg, rfl⟩))
  · intro a w1 hG hin
    have h10 : a.eval (.tmp 10) = .string nm := slot_in (hin 10 (by decide)) rfl
    clear hin
    refine .inl ⟨wanted_none rfl, ?_⟩
    exact grow_build1 rfl h10 (by have h := hG.size; simpa using h) (fun _ _ h => h)
  · intro a w1 hG hin
    have h7 : a.eval (.tmp 7) = .int .i64 k := slot_in (hin 7 (by decide)) rfl
    clear hin
    exact .inl ⟨wanted_none rfl, grow_assign rfl h7⟩
  · intro a w1 hG hin
    have h11 : w1.ownsRow (w.heap.size + 1) 9 1 (a.eval (.tmp 11)) 1 [.string nm] := slot_in (hin 11 (by decide)) rfl
    clear hin
    refine .inl ⟨wanted_none rfl, ?_⟩
    exact grow_assign rfl h11
  · intro s w9 hG hin hs
    have f1 : s 1 = .pointer (some ⟨w.heap.size, 0, none⟩) := (hs 1 (by decide)).symm.trans (slot_out (hin 1) rfl)
    have f3 : s 3 = .int .i64 k := (hs 3 (by decide)).symm.trans (slot_in (hin 3) rfl)
    have f4 : w9.ownsRow (w.heap.size + 1) 9 1 (s 4) 1 [.string nm] := by have h := slot_in (hin 4) rfl; rw [hs 4 (by decide)] at h; exact h
    clear hin hs
    rw [show List.range 40 = [0, 1, 2, 3, 4, 5, 6, 7, 8, 9, 10, 11, 12, 13, 14, 15, 16, 17, 18, 19, 20, 21, 22, 23, 24, 25, 26, 27, 28, 29, 30, 31, 32, 33, 34, 35, 36, 37, 38, 39] from rfl]
    simp only [List.map_cons, List.map_nil]
    rw [f1, f3]
    subst hk
    have b1 := bits11
    have b2 := bits12
    have b3 := bits14
    have HO := hid f4
    clear f4
    have HG := hid (((G.refl w).alloc _).trans hG)
    replace BA := hid (BA.out.mono hG)
    have HB : Hid (w.heap.size + 1 ≤ w9.heap.size) := hid (by have h := hG.size; simpa using h)
    clear hG
    obtain ⟨l1, p1, q1, r1, t1, f1⟩ := BA.out
    simp at q1 r1 t1
    obtain ⟨i, i1, i2, i3, i4⟩ := info9
    go_wp2_with fail
    refine (itoa_any a a0 a1 _ (tab_on ht HG.out)).mono ?_
    rintro e x1 ⟨rfl, g⟩
    clear l1 p1 q1 r1 t1 f1
    replace BA := hid (BA.out.mono g)
    replace HO := hid (own_on HO.out g)
    replace HG := hid (HG.out.trans g)
    replace HB := hid (Nat.le_trans HB.out g.size)
    clear g
    obtain ⟨l1, p1, q1, r1, t1, f1⟩ := BA.out
    simp at q1 r1 t1
    have CB := hid (HO.out.lt)
    go_wp2_with (first | (at_builtin; refine wpList_append_own _ rfl _ _ 45 rfl (w.heap.size + 1) 9 i (.string ⟨#[]⟩) 1 16 Tryd.underlying45 i1 i2 i3 i4 rfl (by decide) _ _ _ rfl (HO.out.alloc _) ⟨x1.heap.size, 0, none⟩ 1 1 [.string ⟨(Lib.itoa a).toArray⟩] rfl rfl (cell_new _ _) (by simp [Value.oneCell']) (by unfold maxLen; omega) (by omega) (by have h := HB.out; simp; omega) ?_; intro v1 y1 own1 gr1 _; have HGn := hid ((HG.out.alloc (.cells #[.string ⟨(Lib.itoa a).toArray⟩] 9)).grown gr1 (fun k hk => by have := CB.out k hk; omega)); have HOn := hid own1; have BAn := hid ((BA.out.more (.cells #[.string ⟨(Lib.itoa a).toArray⟩] 9)).turned gr1 (fun j hj => by have := CB.out j hj; omega)); have HBn := hid (Nat.le_trans HB.out (Nat.le_trans (by simp) gr1.size)); clear own1 gr1 CB HG HO BA HB l1 p1 q1 r1 t1 f1; have HG := HGn; have HO := HOn; have BA := BAn; have HB := HBn; clear HGn HOn BAn HBn; obtain ⟨l1, p1, q1, r1, t1, f1⟩ := BA.out; simp at q1 r1 t1))
    refine (join_any [nm, ⟨(Lib.itoa a).toArray⟩] HO.out (by decide) (by decide) HL.out).mono ?_
    rintro e z ⟨rfl, g⟩
    have HZ := hid (HG.out.trans g)
    clear g
    go_wp2_with fail
    go_ret
    exact ⟨rfl, HZ.out⟩

set_option maxRecDepth 100000 in
set_option maxHeartbeats 2000000 in
theorem line3 (o a b : Int) (tx nm : ByteArray) (k : Int) (w : World) (h0 : -9223372036854775808 ≤ o) (h1 : o ≤ 9223372036854775807) (hs : shapeR o = k) (hk : k = 3) (hn : nameR o = nm) (hm : Max w) (a0 : -9223372036854775808 ≤ a) (a1 : a ≤ 9223372036854775807) (c0 : -9223372036854775808 ≤ b) (c1 : b ≤ 9223372036854775807) (ht : Tab w)
    (hlen : (Lib.join (([nm, ⟨(Lib.itoa a).toArray⟩, ⟨(Lib.itoa b).toArray⟩] : List ByteArray).map (·.data.toList)) [32]).length ≤ 140737488355328) :
    Calls Tryd.prog 11 #[V o a b tx] w fun e w' => e = .returned (.string ⟨(Lib.join (([nm, ⟨(Lib.itoa a).toArray⟩, ⟨(Lib.itoa b).toArray⟩] : List ByteArray).map (·.data.toList)) [32]).toArray⟩) ∧ G w w' := by
  have H0 := hid h0
  have H1 := hid h1
  have HM := hid hm
  have HL := hid hlen
  clear h0 h1 hm hlen
  unfold V
  go_enter Tryd.func11, Tryd.ntmps11
  go_upto_region 1 with (fail)
  have BA := hid (At.alloc w o a b tx)
  refine wp_region_grows (says [Say.is (.pointer (some ⟨w.heap.size, 0, none⟩)), Say.is (.int .i64 o), Say.is (.int .i64 k), Say.is (.pointer (some ⟨w.heap.size, 0, none⟩)), Say.is (.int .i64 o), Say.is (.string nm), Say.own ((w.heap.size + 1)) (nm), Say.is (.int .i64 k), Say.own ((w.heap.size + 1)) (nm)]) 40 (by kernel_rfl) (by kernel_rfl) rfl (says_mono _) (allSteps_take ⟨?_, ?_, ?_, ?_, ?_, ?_, ?_, ?_, ?_, trivial⟩) ?_
  · intro a w1 hG hin
    have h1 : a.eval (.tmp 1) = .pointer (some ⟨w.heap.size, 0, none⟩) := slot_out (hin 1 (by decide)) rfl
    clear hin
    refine .inl ⟨wanted_none rfl, ?_⟩
    exact grow_addr rfl (by decide) h1 rfl
  · intro a w1 hG hin
    have h5 : a.eval (.tmp 5) = .pointer (some ⟨w.heap.size, 0, none⟩) := slot_in (hin 5 (by decide)) rfl
    clear hin
    refine .inl ⟨wanted_none rfl, ?_⟩
    exact grow_load0 rfl (BA.out.mono hG) h5 rfl
  · intro a w1 hG hin
    have h6 : a.eval (.tmp 6) = .int .i64 o := slot_in (hin 6 (by decide)) rfl
    clear hin
    refine .inl ⟨wanted_none rfl, ?_⟩
    exact grow_call Tryd.call22 #[.int .i64 o] (by simp only [List.map_toArray, List.map_cons, List.map_nil, h6] <;> rfl) ((shape_to hs H0.out H1.out _).mono (by rintro e w2 ⟨rfl, hg⟩; exact ⟨_, rfl, hg, rfl⟩))
  · intro a w1 hG hin
    have h1 : a.eval (.tmp 1) = .pointer (some ⟨w.heap.size, 0, none⟩) := slot_out (hin 1 (by decide)) rfl
    clear hin
    refine .inl ⟨wanted_none rfl, ?_⟩
    exact grow_addr rfl (by decide) h1 rfl
  · intro a w1 hG hin
    have h8 : a.eval (.tmp 8) = .pointer (some ⟨w.heap.size, 0, none⟩) := slot_in (hin 8 (by decide)) rfl
    clear hin
    refine .inl ⟨wanted_none rfl, ?_⟩
    exact grow_load0 rfl (BA.out.mono hG) h8 rfl
  · intro a w1 hG hin
    have h9 : a.eval (.tmp 9) = .int .i64 o := slot_in (hin 9 (by decide)) rfl
    clear hin
    refine .inl ⟨wanted_none rfl, ?_⟩
    exact grow_call Tryd.call9 #[.int .i64 o] (by simp only [List.map_toArray, List.map_cons, List.map_nil, h9] <;> rfl) ((name_to hn _ (max_on HM.out (((G.refl _).alloc _).trans hG))).mono (by rintro e w2 ⟨rfl, hg⟩; exact ⟨_, rfl, hg, rfl⟩))
  · intro a w1 hG hin
    have h10 : a.eval (.tmp 10) = .string nm := slot_in (hin 10 (by decide)) rfl
    clear hin
    refine .inl ⟨wanted_none rfl, ?_⟩
    exact grow_build1 rfl h10 (by have h := hG.size; simpa using h) (fun _ _ h => h)
  · intro a w1 hG hin
    have h7 : a.eval (.tmp 7) = .int .i64 k := slot_in (hin 7 (by decide)) rfl
    clear hin
    exact .inl ⟨wanted_none rfl, grow_assign rfl h7⟩
  · intro a w1 hG hin
    have h11 : w1.ownsRow (w.heap.size + 1) 9 1 (a.eval (.tmp 11)) 1 [.string nm] := slot_in (hin 11 (by decide)) rfl
    clear hin
    refine .inl ⟨wanted_none rfl, ?_⟩
    exact grow_assign rfl h11
  · intro s w9 hG hin hs
    have f1 : s 1 = .pointer (some ⟨w.heap.size, 0, none⟩) := (hs 1 (by decide)).symm.trans (slot_out (hin 1) rfl)
    have f3 : s 3 = .int .i64 k := (hs 3 (by decide)).symm.trans (slot_in (hin 3) rfl)
    have f4 : w9.ownsRow (w.heap.size + 1) 9 1 (s 4) 1 [.string nm] := by have h := slot_in (hin 4) rfl; rw [hs 4 (by decide)] at h; exact h
    clear hin hs
    rw [show List.range 40 = [0, 1, 2, 3, 4, 5, 6, 7, 8, 9, 10, 11, 12, 13, 14, 15, 16, 17, 18, 19, 20, 21, 22, 23, 24, 25, 26, 27, 28, 29, 30, 31, 32, 33, 34, 35, 36, 37, 38, 39] from rfl]
    simp only [List.map_cons, List.map_nil]
    rw [f1, f3]
    subst hk
    have b1 := bits31
    have b2 := bits32
    have b3 := bits34
    have HO := hid f4
    clear f4
    have HG := hid (((G.refl w).alloc _).trans hG)
    replace BA := hid (BA.out.mono hG)
    have HB : Hid (w.heap.size + 1 ≤ w9.heap.size) := hid (by have h := hG.size; simpa using h)
    clear hG
    obtain ⟨l1, p1, q1, r1, t1, f1⟩ := BA.out
    simp at q1 r1 t1
    obtain ⟨i, i1, i2, i3, i4⟩ := info9
    go_wp2_with fail
    refine (itoa_any a a0 a1 _ (tab_on ht HG.out)).mono ?_
    rintro e x1 ⟨rfl, g⟩
    clear l1 p1 q1 r1 t1 f1
    replace BA := hid (BA.out.mono g)
    replace HO := hid (own_on HO.out g)
    replace HG := hid (HG.out.trans g)
    replace HB := hid (Nat.le_trans HB.out g.size)
    clear g
    obtain ⟨l1, p1, q1, r1, t1, f1⟩ := BA.out
    simp at q1 r1 t1
    have CB := hid (HO.out.lt)
    go_wp2_with (first | (at_builtin; refine wpList_append_own _ rfl _ _ 45 rfl (w.heap.size + 1) 9 i (.string ⟨#[]⟩) 1 16 Tryd.underlying45 i1 i2 i3 i4 rfl (by decide) _ _ _ rfl (HO.out.alloc _) ⟨x1.heap.size, 0, none⟩ 1 1 [.string ⟨(Lib.itoa a).toArray⟩] rfl rfl (cell_new _ _) (by simp [Value.oneCell']) (by unfold maxLen; omega) (by omega) (by have h := HB.out; simp; omega) ?_; intro v1 y1 own1 gr1 _; have HGn := hid ((HG.out.alloc (.cells #[.string ⟨(Lib.itoa a).toArray⟩] 9)).grown gr1 (fun k hk => by have := CB.out k hk; omega)); have HOn := hid own1; have BAn := hid ((BA.out.more (.cells #[.string ⟨(Lib.itoa a).toArray⟩] 9)).turned gr1 (fun j hj => by have := CB.out j hj; omega)); have HBn := hid (Nat.le_trans HB.out (Nat.le_trans (by simp) gr1.size)); clear own1 gr1 CB HG HO BA HB l1 p1 q1 r1 t1 f1; have HG := HGn; have HO := HOn; have BA := BAn; have HB := HBn; clear HGn HOn BAn HBn; obtain ⟨l1, p1, q1, r1, t1, f1⟩ := BA.out; simp at q1 r1 t1))
    refine (itoa_any b c0 c1 _ (tab_on ht HG.out)).mono ?_
    rintro e x2 ⟨rfl, g⟩
    clear l1 p1 q1 r1 t1 f1
    replace BA := hid (BA.out.mono g)
    replace HO := hid (own_on HO.out g)
    replace HG := hid (HG.out.trans g)
    replace HB := hid (Nat.le_trans HB.out g.size)
    clear g
    obtain ⟨l1, p1, q1, r1, t1, f1⟩ := BA.out
    simp at q1 r1 t1
    have CB := hid (HO.out.lt)
    go_wp2_with (first | (at_builtin; refine wpList_append_own _ rfl _ _ 45 rfl (w.heap.size + 1) 9 i (.string ⟨#[]⟩) 1 16 Tryd.underlying45 i1 i2 i3 i4 rfl (by decide) _ _ _ rfl (HO.out.alloc _) ⟨x2.heap.size, 0, none⟩ 1 1 [.string ⟨(Lib.itoa b).toArray⟩] rfl rfl (cell_new _ _) (by simp [Value.oneCell']) (by unfold maxLen; omega) (by omega) (by have h := HB.out; simp; omega) ?_; intro v2 y2 own2 gr2 _; have HGn := hid ((HG.out.alloc (.cells #[.string ⟨(Lib.itoa b).toArray⟩] 9)).grown gr2 (fun k hk => by have := CB.out k hk; omega)); have HOn := hid own2; have BAn := hid ((BA.out.more (.cells #[.string ⟨(Lib.itoa b).toArray⟩] 9)).turned gr2 (fun j hj => by have := CB.out j hj; omega)); have HBn := hid (Nat.le_trans HB.out (Nat.le_trans (by simp) gr2.size)); clear own2 gr2 CB HG HO BA HB l1 p1 q1 r1 t1 f1; have HG := HGn; have HO := HOn; have BA := BAn; have HB := HBn; clear HGn HOn BAn HBn; obtain ⟨l1, p1, q1, r1, t1, f1⟩ := BA.out; simp at q1 r1 t1))
    refine (join_any [nm, ⟨(Lib.itoa a).toArray⟩, ⟨(Lib.itoa b).toArray⟩] HO.out (by decide) (by decide) HL.out).mono ?_
    rintro e z ⟨rfl, g⟩
    have HZ := hid (HG.out.trans g)
    clear g
    go_wp2_with fail
    go_ret
    exact ⟨rfl, HZ.out⟩

set_option maxRecDepth 100000 in
set_option maxHeartbeats 2000000 in
theorem line4 (o a b : Int) (tx nm : ByteArray) (k : Int) (w : World) (h0 : -9223372036854775808 ≤ o) (h1 : o ≤ 9223372036854775807) (hs : shapeR o = k) (hk : k = 4) (hn : nameR o = nm) (hm : Max w)
    (hlen : (Lib.join (([nm, tx] : List ByteArray).map (·.data.toList)) [32]).length ≤ 140737488355328) :
    Calls Tryd.prog 11 #[V o a b tx] w fun e w' => e = .returned (.string ⟨(Lib.join (([nm, tx] : List ByteArray).map (·.data.toList)) [32]).toArray⟩) ∧ G w w' := by
  have H0 := hid h0
  have H1 := hid h1
  have HM := hid hm
  have HL := hid hlen
  clear h0 h1 hm hlen
  unfold V
  go_enter Tryd.func11, Tryd.ntmps11
  go_upto_region 1 with (fail)
  have BA := hid (At.alloc w o a b tx)
  refine wp_region_grows (says [Say.is (.pointer (some ⟨w.heap.size, 0, none⟩)), Say.is (.int .i64 o), Say.is (.int .i64 k), Say.is (.pointer (some ⟨w.heap.size, 0, none⟩)), Say.is (.int .i64 o), Say.is (.string nm), Say.own ((w.heap.size + 1)) (nm), Say.is (.int .i64 k), Say.own ((w.heap.size + 1)) (nm)]) 40 (by kernel_rfl) (by kernel_rfl) rfl (says_mono _) (allSteps_take ⟨?_, ?_, ?_, ?_, ?_, ?_, ?_, ?_, ?_, trivial⟩) ?_
  · intro a w1 hG hin
    have h1 : a.eval (.tmp 1) = .pointer (some ⟨w.heap.size, 0, none⟩) := slot_out (hin 1 (by decide)) rfl
    clear hin
    refine .inl ⟨wanted_none rfl, ?_⟩
    exact grow_addr rfl (by decide) h1 rfl
  · intro a w1 hG hin
    have h5 : a.eval (.tmp 5) = .pointer (some ⟨w.heap.size, 0, none⟩) := slot_in (hin 5 (by decide)) rfl
    clear hin
    refine .inl ⟨wanted_none rfl, ?_⟩
    exact grow_load0 rfl (BA.out.mono hG) h5 rfl
  · intro a w1 hG hin
    have h6 : a.eval (.tmp 6) = .int .i64 o := slot_in (hin 6 (by decide)) rfl
    clear hin
    refine .inl ⟨wanted_none rfl, ?_⟩
    exact grow_call Tryd.call22 #[.int .i64 o] (by simp only [List.map_toArray, List.map_cons, List.map_nil, h6] <;> rfl) ((shape_to hs H0.out H1.out _).mono (by rintro e w2 ⟨rfl, hg⟩; exact ⟨_, rfl, hg, rfl⟩))
  · intro a w1 hG hin
    have h1 : a.eval (.tmp 1) = .pointer (some ⟨w.heap.size, 0, none⟩) := slot_out (hin 1 (by decide)) rfl
    clear hin
    refine .inl ⟨wanted_none rfl, ?_⟩
    exact grow_addr rfl (by decide) h1 rfl
  · intro a w1 hG hin
    have h8 : a.eval (.tmp 8) = .pointer (some ⟨w.heap.size, 0, none⟩) := slot_in (hin 8 (by decide)) rfl
    clear hin
    refine .inl ⟨wanted_none rfl, ?_⟩
    exact grow_load0 rfl (BA.out.mono hG) h8 rfl
  · intro a w1 hG hin
    have h9 : a.eval (.tmp 9) = .int .i64 o := slot_in (hin 9 (by decide)) rfl
    clear hin
    refine .inl ⟨wanted_none rfl, ?_⟩
    exact grow_call Tryd.call9 #[.int .i64 o] (by simp only [List.map_toArray, List.map_cons, List.map_nil, h9] <;> rfl) ((name_to hn _ (max_on HM.out (((G.refl _).alloc _).trans hG))).mono (by rintro e w2 ⟨rfl, hg⟩; exact ⟨_, rfl, hg, rfl⟩))
  · intro a w1 hG hin
    have h10 : a.eval (.tmp 10) = .string nm := slot_in (hin 10 (by decide)) rfl
    clear hin
    refine .inl ⟨wanted_none rfl, ?_⟩
    exact grow_build1 rfl h10 (by have h := hG.size; simpa using h) (fun _ _ h => h)
  · intro a w1 hG hin
    have h7 : a.eval (.tmp 7) = .int .i64 k := slot_in (hin 7 (by decide)) rfl
    clear hin
    exact .inl ⟨wanted_none rfl, grow_assign rfl h7⟩
  · intro a w1 hG hin
    have h11 : w1.ownsRow (w.heap.size + 1) 9 1 (a.eval (.tmp 11)) 1 [.string nm] := slot_in (hin 11 (by decide)) rfl
    clear hin
    refine .inl ⟨wanted_none rfl, ?_⟩
    exact grow_assign rfl h11
  · intro s w9 hG hin hs
    have f1 : s 1 = .pointer (some ⟨w.heap.size, 0, none⟩) := (hs 1 (by decide)).symm.trans (slot_out (hin 1) rfl)
    have f3 : s 3 = .int .i64 k := (hs 3 (by decide)).symm.trans (slot_in (hin 3) rfl)
    have f4 : w9.ownsRow (w.heap.size + 1) 9 1 (s 4) 1 [.string nm] := by have h := slot_in (hin 4) rfl; rw [hs 4 (by decide)] at h; exact h
    clear hin hs
    rw [show List.range 40 = [0, 1, 2, 3, 4, 5, 6, 7, 8, 9, 10, 11, 12, 13, 14, 15, 16, 17, 18, 19, 20, 21, 22, 23, 24, 25, 26, 27, 28, 29, 30, 31, 32, 33, 34, 35, 36, 37, 38, 39] from rfl]
    simp only [List.map_cons, List.map_nil]
    rw [f1, f3]
    subst hk
    have b1 := bits41
    have b2 := bits42
    have b3 := bits44
    have HO := hid f4
    clear f4
    have HG := hid (((G.refl w).alloc _).trans hG)
    replace BA := hid (BA.out.mono hG)
    have HB : Hid (w.heap.size + 1 ≤ w9.heap.size) := hid (by have h := hG.size; simpa using h)
    clear hG
    obtain ⟨l1, p1, q1, r1, t1, f1⟩ := BA.out
    simp at q1 r1 t1
    obtain ⟨i, i1, i2, i3, i4⟩ := info9
    have CB := hid (HO.out.lt)
    go_wp2_with (first | (at_builtin; refine wpList_append_own _ rfl _ _ 45 rfl (w.heap.size + 1) 9 i (.string ⟨#[]⟩) 1 16 Tryd.underlying45 i1 i2 i3 i4 rfl (by decide) _ _ _ rfl (HO.out.alloc _) ⟨w9.heap.size, 0, none⟩ 1 1 [.string tx] rfl rfl (cell_new _ _) (by simp [Value.oneCell']) (by unfold maxLen; omega) (by omega) (by have h := HB.out; simp; omega) ?_; intro v1 y1 own1 gr1 _; have HGn := hid ((HG.out.alloc (.cells #[.string tx] 9)).grown gr1 (fun k hk => by have := CB.out k hk; omega)); have HOn := hid own1; have BAn := hid ((BA.out.more (.cells #[.string tx] 9)).turned gr1 (fun j hj => by have := CB.out j hj; omega)); have HBn := hid (Nat.le_trans HB.out (Nat.le_trans (by simp) gr1.size)); clear own1 gr1 CB HG HO BA HB l1 p1 q1 r1 t1 f1; have HG := HGn; have HO := HOn; have BA := BAn; have HB := HBn; clear HGn HOn BAn HBn; obtain ⟨l1, p1, q1, r1, t1, f1⟩ := BA.out; simp at q1 r1 t1))
    refine (join_any [nm, tx] HO.out (by decide) (by decide) HL.out).mono ?_
    rintro e z ⟨rfl, g⟩
    have HZ := hid (HG.out.trans g)
    clear g
    go_wp2_with fail
    go_ret
    exact ⟨rfl, HZ.out⟩


end Go.Proofs.YtpeioflembhedaaDoor
