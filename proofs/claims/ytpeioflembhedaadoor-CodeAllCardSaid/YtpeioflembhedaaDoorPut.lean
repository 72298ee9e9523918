/-
  Put: code as bytes, or an error. No conditions but on sizes that code has.
-/
import Derived.Test.YtpeioflembhedaaDoorPutS
import Derived.Test.YtpeioflembhedaaDoorPreds
namespace Go.Proofs.YtpeioflembhedaaDoor
open Go.RowKit

theorem bag_off {w : World} {bb B : Nat} {v : Value} {l : List UInt8} (hb : Bag w bb B v l) {c : Nat} (h1 : c < B) (h2 : c ≠ bb) : ¬ (c = bb ∨ v.ownBlock = some c) := by
  rintro (h | h)
  · exact h2 h
  · have := (hb.own.lt _ h).1
    omega
theorem bag_low {w : World} {bb B : Nat} {v : Value} {l : List UInt8} (hb : Bag w bb B v l) {A : Nat} (h1 : A ≤ B) (h2 : A ≤ bb) : ∀ k, (k = bb ∨ v.ownBlock = some k) → A ≤ k := by
  rintro k (h | h)
  · omega
  · have := (hb.own.lt _ h).1
    omega
theorem eight_len (n : Int) : (eightR n).length = 8 := by simp [eightR]
theorem eights_len (es : List Int) : ((es.map eightR).flatten).length = 8 * es.length := by
  induction es with
  | nil => rfl
  | cons n es ih => simp only [List.map_cons, List.flatten_cons, List.length_append, ih, eight_len, List.length_cons]; omega
/-- The bytes of an instruction. -/
def insR (x : I) : List UInt8 := [UInt8.ofNat (x.1 % 256).toNat] ++ (if hasA x.1 then eightR x.2.1 else []) ++ (if hasB x.1 then eightR x.2.2.1 else []) ++ (if hasS x.1 then UInt8.ofNat (x.2.2.2.size % 256) :: x.2.2.2.data.toList else [])
/-- The bytes of code. -/
def codeR (es : List Int) (xs : List I) : List UInt8 := [UInt8.ofNat (es.length % 256)] ++ (es.map eightR).flatten ++ eightR xs.length ++ (xs.map insR).flatten
/-- What Put answers: 4 too big, 1 no code, 0 fine. -/
def putE (es : List Int) (xs : List I) : Int := if 1200 < xs.length ∨ 6 < es.length then 4 else if es.any (entBad xs.length) then 1 else if xs.any (fun x => !mayI x) then 1 else 0
structure InsOk (x : I) : Prop where
  o : -9223372036854775808 ≤ x.1 ∧ x.1 ≤ 9223372036854775807
  a : -9223372036854775808 ≤ x.2.1 ∧ x.2.1 ≤ 9223372036854775807
  b : -9223372036854775808 ≤ x.2.2.1 ∧ x.2.2.1 ≤ 9223372036854775807
  s : x.2.2.2.size ≤ 1000
def EntOk (n : Int) : Prop := -9223372036854775808 ≤ n ∧ n ≤ 9223372036854775807
/-- Put's results. -/
def PutPost (w : World) (es : List Int) (xs : List I) (e : Ending) (w' : World) : Prop :=
  G w w' ∧ ((putE es xs ≠ 0 ∧ e = .returned (.tuple #[.slice none 0 0, .int .i64 (putE es xs)])) ∨ (putE es xs = 0 ∧ ∃ v, e = .returned (.tuple #[v, .int .i64 0]) ∧ w'.ownsRow w.heap.size 5 1 v (codeR es xs).length (bys (codeR es xs))))
theorem nil_of2 {s : ByteArray} (h : (s.toList == []) = true) : s = E := by
  have h2 : s.toList = [] := by simpa using h
  rw [ByteArray.toList_eq] at h2
  cases s with
  | mk d => simp at h2; subst h2; rfl
theorem Bag.mono {w w' : World} {bb B : Nat} {v : Value} {l : List UInt8} (h : Bag w bb B v l) (hg : G w w') : Bag w' bb B v l := ⟨h.one.mono hg, own_g h.own hg, h.ne⟩
theorem row_ne_at {w : World} {B n k : Nat} {v : Value} {o a b : Int} {s : ByteArray} {l : List UInt8} (h1 : At w k 0 o a b s) (h : w.ownsRow B 5 1 v n (bys l)) (hl : l ≠ []) : v.ownBlock ≠ some k := by
  intro hj
  have hc := h.cells hj
  cases l with
  | nil => exact hl rfl
  | cons x xs =>
    have h2 := hc 0 (.int .u8 x.toNat) rfl
    have h3 : w.cell? ⟨k, 0, none⟩ = some (.int .u8 x.toNat) := h2
    rw [h1.c0] at h3
    cases h3
theorem bag_off_at {w : World} {bb B k : Nat} {v : Value} {o a b : Int} {s : ByteArray} {l : List UInt8} (hb : Bag w bb B v l) (h1 : At w k 0 o a b s) (hl : l ≠ []) (h2 : k ≠ bb) : ¬ (k = bb ∨ v.ownBlock = some k) := by
  rintro (h | h)
  · exact h2 h
  · exact row_ne_at h1 hb.own hl h
theorem bag_push {w y : World} {bb B : Nat} {v v1 : Value} {l : List UInt8} {c : Int} (hb : Bag w bb B v l) (ch : UInt8) (hc : c = ch.toNat) (hg : (w.alloc (.cells #[.int .u8 c] 5)).grownBy y v.ownBlock) (ho : y.ownsRow B 5 1 v1 (l.length + 1) (bys l ++ [.int .u8 c])) :
    Bag (y.setCell ⟨bb, 0, none⟩ v1) bb B v1 (l ++ [ch]) ∧ Turn (fun k => k = bb ∨ v.ownBlock = some k) w (y.setCell ⟨bb, 0, none⟩ v1) := by
  subst hc
  have e : bys l ++ [.int .u8 (ch.toNat : Int)] = bys (l ++ [ch]) := by simp [bys]
  rw [e] at ho
  have h1 := (hb.one.mono ((G.refl w).alloc (.cells #[.int .u8 (ch.toNat : Int)] 5))).turned hg hb.ne
  have hne := row_ne h1 (slice_form hb.own) ho (by simp [bys])
  refine ⟨⟨h1.set v1, ?_, hne⟩, ?_⟩
  · have e2 : (l ++ [ch]).length = l.length + 1 := by simp
    rw [e2]
    exact own_keep ho hne _
  · exact ((Turn.of ((G.refl w).alloc _)).trans (Turn.grown hg (fun k hk => .inr hk))).trans (Turn.set _ (.inl rfl) _)
theorem bag_text {W0 w1 w6 w7 : World} {bb B : Nat} {v v6 v7 : Value} {l : List UInt8} {c : Int} {tx : ByteArray} (hb : Bag W0 bb B v l) (hg1 : G W0 w1) (sz : UInt8) (hc : c = sz.toNat) (g6 : w1.grownBy w6 v.ownBlock) (o6 : w6.ownsRow B 5 1 v6 (l.length + 1) (bys l ++ [.int .u8 c])) (g7 : w6.grownBy w7 v6.ownBlock) (o7 : w7.ownsRow B 5 1 v7 (l.length + 1 + tx.size) (bys l ++ [.int .u8 c] ++ bys tx.data.toList)) :
    One w6 bb v ∧ One w7 bb v ∧ Bag (w7.setCell ⟨bb, 0, none⟩ v7) bb B v7 (l ++ (sz :: tx.data.toList)) ∧ Turn (fun j => j = bb ∨ v.ownBlock = some j ∨ v6.ownBlock = some j) W0 (w7.setCell ⟨bb, 0, none⟩ v7) := by
  subst hc
  have e1 : bys l ++ [.int .u8 (sz.toNat : Int)] = bys (l ++ [sz]) := by simp [bys]
  have e2 : bys l ++ [.int .u8 (sz.toNat : Int)] ++ bys tx.data.toList = bys (l ++ (sz :: tx.data.toList)) := by simp [bys]
  rw [e1] at o6
  rw [e2] at o7
  have h6 := (hb.one.mono hg1).turned g6 hb.ne
  have n6 := row_ne h6 (slice_form hb.own) o6 (by simp [bys])
  have h7 := h6.turned g7 n6
  have n7 := row_ne h7 (slice_form hb.own) o7 (by simp [bys])
  refine ⟨h6, h7, ⟨h7.set v7, ?_, n7⟩, ?_⟩
  · have e3 : (l ++ (sz :: tx.data.toList)).length = l.length + 1 + tx.size := by simp; omega
    rw [e3]
    exact own_keep o7 n7 _
  · exact (((Turn.of hg1).trans (Turn.grown g6 (fun k hk => .inr (.inl hk)))).trans (Turn.grown g7 (fun k hk => .inr (.inr hk)))).trans (Turn.set _ (.inl rfl) _)
theorem three_off {c bb B : Nat} {p q : Option Nat} (hp : ∀ j, p = some j → B ≤ j) (hq : ∀ j, q = some j → B ≤ j) (h1 : c < B) (h2 : c ≠ bb) : ¬ (c = bb ∨ p = some c ∨ q = some c) := by
  rintro (h | h | h)
  · exact h2 h
  · have := hp _ h
    omega
  · have := hq _ h
    omega
theorem three_low {A bb B : Nat} {p q : Option Nat} (hp : ∀ j, p = some j → B ≤ j) (hq : ∀ j, q = some j → B ≤ j) (h1 : A ≤ B) (h2 : A ≤ bb) : ∀ c, (c = bb ∨ p = some c ∨ q = some c) → A ≤ c := by
  rintro c (h | h | h)
  · omega
  · have := hp _ h
    omega
  · have := hq _ h
    omega
theorem insR_len (x : I) (h : InsOk x) : (insR x).length ≤ 2000 := by
  unfold insR
  have h1 := h.s
  have h2 := eight_len x.2.1
  have h3 := eight_len x.2.2.1
  simp only [List.length_append]
  split <;> split <;> split <;> simp [h2, h3] <;> omega
theorem insRs_len : ∀ (xs : List I), (∀ x ∈ xs, InsOk x) → ((xs.map insR).flatten).length ≤ 2000 * xs.length
  | [], _ => by simp
  | x :: xs, h => by
    have h1 := insR_len x (h x (by simp))
    have h2 := insRs_len xs (fun y hy => h y (by simp [hy]))
    simp only [List.map_cons, List.flatten_cons, List.length_append, List.length_cons]
    omega
set_option maxRecDepth 100000 in
set_option maxHeartbeats 2000000 in
theorem put_bad (p q : Option Addr) (cap mc : Nat) (es : List Int) (xs : List I) (w : World) (hn : xs.length ≤ 1000000) (hm : es.length ≤ 1000000) (hrow : Row w p xs) (hent : Ents w q es) (hok : ∀ x ∈ xs, InsOk x)
    (hbad : putE es xs ≠ 0) : Calls Tryd.prog 12 #[.agg #[.slice p xs.length cap, .slice q es.length mc]] w (PutPost w es xs) := by
  have HE := hid hbad
  clear hbad
  rcases (show (1200 < (xs.length : Int)) ∨ (¬ (1200 < (xs.length : Int)) ∧ 6 < (es.length : Int)) ∨ (¬ (1200 < (xs.length : Int)) ∧ ¬ 6 < (es.length : Int)) by omega) with k1 | ⟨k1, k2⟩ | ⟨k1, k2⟩
  · have e : putE es xs = 4 := by
      unfold putE
      rw [if_pos (by omega)]
    have HE4 := hid e
    clear e
    go_enter Tryd.func12, Tryd.ntmps12
    go_wp2_with fail
    go_ret2
    exact ⟨(G.refl w).alloc _, .inl ⟨HE.out, by rw [HE4.out]; rfl⟩⟩
  · have e : putE es xs = 4 := by
      unfold putE
      rw [if_pos (by omega)]
    have HE4 := hid e
    clear e
    go_enter Tryd.func12, Tryd.ntmps12
    go_wp2_with fail
    go_ret2
    exact ⟨(G.refl w).alloc _, .inl ⟨HE.out, by rw [HE4.out]; rfl⟩⟩
  · have e1 : putE es xs = if es.any (entBad xs.length) then 1 else if xs.any (fun x => !mayI x) then 1 else 0 := by
      unfold putE
      rw [if_neg (by omega)]
    have HE1 := hid e1
    clear e1
    obtain ⟨ye, hye⟩ : ∃ ye, Hid (es.any (entBad xs.length) = ye) := ⟨_, rfl⟩
    obtain ⟨yx, hyx⟩ : ∃ yx, Hid (xs.any (fun x => !mayI x) = yx) := ⟨_, rfl⟩
    go_enter Tryd.func12, Tryd.ntmps12
    go_wp2_with fail
    have BC : Hid (Var (w.alloc (.cells #[.slice p xs.length cap, .slice q es.length mc] 28)) w.heap.size (.slice p xs.length cap) (.slice q es.length mc)) := hid ⟨by simp, by simp [go_sem], by simp [go_sem], fun i => by simp [go_sem]⟩
    have HG := hid ((G.refl w).alloc (.cells #[.slice p xs.length cap, .slice q es.length mc] 28))
    refine (contains_ents q mc es w.heap.size xs.length cap p _ _ hm (hent.on HG.out) BC.out hye.out).mono ?_
    rintro e w1 ⟨rfl, g⟩
    replace BC := hid (BC.out.mono g)
    replace HG := hid (HG.out.trans g)
    clear g
    cases ye
    · obtain ⟨l0, p0, q0, f0⟩ := BC.out
      go_wp2_with fail
      refine (contains_ins p cap xs _ hn (hrow.on HG.out) (fun x hx => (hok x hx).o) hyx.out).mono ?_
      rintro e w2 ⟨rfl, g⟩
      clear l0 p0 q0 f0
      replace BC := hid (BC.out.mono g)
      replace HG := hid (HG.out.trans g)
      clear g
      cases yx
      · exfalso
        have h := HE.out
        rw [HE1.out, hye.out, hyx.out] at h
        exact h rfl
      · go_wp2_with fail
        go_ret2
        refine ⟨HG.out, .inl ⟨HE.out, ?_⟩⟩
        rw [HE1.out, hye.out, hyx.out]
        rfl
    · go_wp2_with fail
      go_ret2
      refine ⟨HG.out, .inl ⟨HE.out, ?_⟩⟩
      rw [HE1.out, hye.out]
      rfl
set_option maxRecDepth 100000 in
set_option maxHeartbeats 2000000 in
theorem put_good (p q : Option Addr) (cap mc : Nat) (es : List Int) (xs : List I) (w : World) (hrow : Row w p xs) (hent : Ents w q es) (hok : ∀ x ∈ xs, InsOk x) (hek : ∀ n ∈ es, EntOk n)
    (k1 : xs.length ≤ 1200) (k2 : es.length ≤ 6) (k3 : es.any (entBad xs.length) = false) (k4 : (xs.any fun x => !mayI x) = false) : Calls Tryd.prog 12 #[.agg #[.slice p xs.length cap, .slice q es.length mc]] w fun e w' => ∃ v, e = .returned (.tuple #[v, .int .i64 0]) ∧ w'.ownsRow w.heap.size 5 1 v (codeR es xs).length (bys (codeR es xs)) ∧ G w w' := by
  have K3 := hid k3
  have K4 := hid k4
  clear k3 k4
  go_enter Tryd.func12, Tryd.ntmps12
  go_wp2_with fail
  have BC : Hid (Var (w.alloc (.cells #[.slice p xs.length cap, .slice q es.length mc] 28)) w.heap.size (.slice p xs.length cap) (.slice q es.length mc)) := hid ⟨by simp, by simp [go_sem], by simp [go_sem], fun i => by simp [go_sem]⟩
  have HG := hid ((G.refl w).alloc (.cells #[.slice p xs.length cap, .slice q es.length mc] 28))
  refine (contains_ents q mc es w.heap.size xs.length cap p _ _ (by omega) (hent.on HG.out) BC.out K3.out).mono ?_
  rintro e w1 ⟨rfl, g⟩
  replace BC := hid (BC.out.mono g)
  replace HG := hid (HG.out.trans g)
  clear g
  obtain ⟨l0, p0, q0, f0⟩ := BC.out
  go_wp2_with fail
  refine (contains_ins p cap xs _ (by omega) (hrow.on HG.out) (fun x hx => (hok x hx).o) K4.out).mono ?_
  rintro e w2 ⟨rfl, g⟩
  clear l0 p0 q0 f0
  replace BC := hid (BC.out.mono g)
  replace HG := hid (HG.out.trans g)
  clear g
  obtain ⟨l0, p0, q0, f0⟩ := BC.out
  go_wp2_with fail
  have hs := HG.out.size
  have hlb : Hid (es.length = (UInt8.ofNat (es.length % 256)).toNat) := hid (by rw [UInt8.toNat_ofNat']; omega)
  have HB : Hid (Bag ((w2.alloc (.cells #[.int .u8 es.length] 5)).alloc (.cells #[.slice (some ⟨w2.heap.size, 0, none⟩) 1 1] 34)) (w2.heap.size + 1) (w.heap.size + 1) (.slice (some ⟨w2.heap.size, 0, none⟩) 1 1) [UInt8.ofNat (es.length % 256)]) := by
    refine hid ⟨⟨by simp, by simp [go_sem], fun i => by simp [go_sem]⟩, ⟨rfl, .inr ⟨w2.heap.size, 1, #[.int .u8 es.length], rfl, by have := HG.out.size; have := BC.out.lt; omega, ?_, by simp, by decide, rfl, ?_⟩⟩, ?_⟩
    · rw [heap_alloc_old _ _ (by simp)]
      exact heap_alloc_new w2 _
    · simp [bys]
      omega
    · intro j hj
      cases hj
      show w2.heap.size ≠ w2.heap.size + 1
      omega
  replace BC := hid ((BC.out.mono ((G.refl w2).alloc (.cells #[.int .u8 es.length] 5))).mono ((G.refl _).alloc (.cells #[.slice (some ⟨w2.heap.size, 0, none⟩) 1 1] 34)))
  replace HG := hid ((HG.out.alloc (.cells #[.int .u8 es.length] 5)).alloc (.cells #[.slice (some ⟨w2.heap.size, 0, none⟩) 1 1] 34))
  clear l0 p0 q0 f0
  go_loopg [40] es.length (fun n j wr => ∃ k : Nat, k ≤ es.length ∧ n = es.length - k ∧ j = .int .i64 k ∧ (∃ v, Bag wr (w2.heap.size + 1) (w.heap.size + 1) v ([UInt8.ofNat (es.length % 256)] ++ ((es.take k).map eightR).flatten)) ∧ Var wr w.heap.size (.slice p xs.length cap) (.slice q es.length mc) ∧ G w wr)
  case atStart => exact ⟨0, by omega, rfl, rfl, ⟨_, by simpa using HB.out⟩, BC.out, HG.out⟩
  case round =>
    obtain ⟨k, hk, rfl, rfl, ⟨v, hb⟩, hc, hg⟩ := hrel
    clear HB BC HG
    have HB := hid hb
    have BC := hid hc
    have HG := hid hg
    clear hb hc hg
    by_cases hkl : k < es.length
    · obtain ⟨n, hn⟩ : ∃ n, es[k]? = some n := ⟨es[k], by simp [hkl]⟩
      obtain ⟨bk, off, rfl, hat⟩ := hent k n hn
      have c0 := HG.out.cell hat
      obtain ⟨h0, h1⟩ := hek n (List.mem_of_getElem? hn)
      have HX := hid hn
      have hkz : (k : Int) < (es.length : Int) := by omega
      clear hn hat
      go_wp2_with fail
      refine (putn_any n (w2.heap.size + 1) (w.heap.size + 1) v _ _ h0 h1 HB.out (by have := BC.out.lt; omega) (by rw [List.length_append, eights_len]; simp; omega)).mono ?_
      rintro e w3 ⟨rfl, v', hb, ht⟩
      replace BC := hid (BC.out.turn ht (bag_off HB.out (by omega) (by omega)))
      replace HG := hid (ht.G HG.out (bag_low HB.out (by omega) (by omega)))
      replace HB := hid hb
      clear hb ht
      go_wp2_with fail
      go_roundg (es.length - (k + 1))
      case measure => go_light; omega
      case rel =>
        go_light
        refine ⟨k + 1, by omega, rfl, by go_num, ⟨v', ?_⟩, BC.out, HG.out⟩
        rw [List.take_add_one, HX.out]
        simpa using HB.out
    · obtain rfl : k = es.length := by omega
      have hkz : ¬ (es.length : Int) < (es.length : Int) := by omega
      obtain ⟨l0, p0, q0, f0⟩ := BC.out
      go_wp2_with fail
      have HL : Hid ((((UInt8.ofNat (es.length % 256)) :: ((es.take es.length).map eightR).flatten).length ≤ 10000)) := hid (by rw [List.length_cons, eights_len]; simp; omega)
      refine (putn_any xs.length (w2.heap.size + 1) (w.heap.size + 1) v _ _ (by omega) (by omega) HB.out (by have := BC.out.lt; omega) (Nat.le_trans HL.out (by omega))).mono ?_
      rintro e w3 ⟨rfl, v', hb, ht⟩
      clear l0 p0 q0 f0
      replace BC := hid (BC.out.turn ht (bag_off HB.out (by omega) (by omega)))
      replace HG := hid (ht.G HG.out (bag_low HB.out (by omega) (by omega)))
      replace HB := hid hb
      clear hb ht
      obtain ⟨l0, p0, q0, f0⟩ := BC.out
      go_wp2_with fail
      go_loopg [56] xs.length (fun n j wr => ∃ k : Nat, k ≤ xs.length ∧ n = xs.length - k ∧ j = .int .i64 k ∧ (∃ v, Bag wr (w2.heap.size + 1) (w.heap.size + 1) v (([UInt8.ofNat (es.length % 256)] ++ (es.map eightR).flatten ++ eightR xs.length) ++ ((xs.take k).map insR).flatten)) ∧ Var wr w.heap.size (.slice p xs.length cap) (.slice q es.length mc) ∧ G w wr)
      case atStart => exact ⟨0, by omega, rfl, rfl, ⟨_, by simpa using HB.out⟩, BC.out, HG.out⟩
      case round =>
        obtain ⟨k, hk, rfl, rfl, ⟨v, hb⟩, hc, hg⟩ := hrel
        clear HB BC HG HL l0 p0 q0 f0
        have HB := hid hb
        have BC := hid hc
        have HG := hid hg
        clear hb hc hg
        by_cases hkl : k < xs.length
        · obtain ⟨x, hx⟩ : ∃ x, xs[k]? = some x := ⟨xs[k], by simp [hkl]⟩
          obtain ⟨bk, off, rfl, hat⟩ := hrow k x hx
          obtain ⟨c0, c1, c2, c3⟩ := hat.on HG.out
          have HX := hid hx
          have HO := hid (hok x (List.mem_of_getElem? hx))
          have HM : Hid (mayI x = true) := hid (by
            have h := K4.out
            rw [List.any_eq_false] at h
            simpa using h x (List.mem_of_getElem? hx))
          obtain ⟨o, a, b, tx⟩ := x
          simp at c0 c1 c2 c3
          have hkz : (k : Int) < (xs.length : Int) := by omega
          clear hx hat
          have HLn : Hid ((([UInt8.ofNat (es.length % 256)] ++ (es.map eightR).flatten ++ eightR xs.length) ++ ((xs.take k).map insR).flatten).length ≤ 3000000) := hid (by
            have h1 := insRs_len (xs.take k) (fun x hx => hok x (List.mem_of_mem_take hx))
            have h2 : (xs.take k).length ≤ k := List.length_take_le _ _
            have h3 := eights_len es
            have h4 := eight_len xs.length
            simp only [List.length_append, h3, h4, List.length_cons, List.length_nil]
            omega)
          obtain ⟨pre, hpre⟩ : ∃ pre, Hid (([UInt8.ofNat (es.length % 256)] ++ (es.map eightR).flatten ++ eightR xs.length) ++ ((xs.take k).map insR).flatten = pre) := ⟨_, rfl⟩
          have HPne : Hid (pre ≠ []) := hid (by rw [← hpre.out]; simp)
          rw [hpre.out] at HB HLn
          have m1 : 1 ≤ o ∧ o ≤ 23 := by
            have h := HM.out
            simp only [mayI, mayR, Bool.and_eq_true, decide_eq_true_eq] at h
            exact h.1.1.1
          obtain ⟨m1, m2⟩ := m1
          have HOp : Hid (o = (UInt8.ofNat (o % 256).toNat).toNat) := hid (by rw [UInt8.toNat_ofNat']; omega)
          rcases shapes4 o with hs | hs | hs | hs
          · have b1 := bits01
            have b2 := bits02
            have b4 := bits04
            have HS := hid hs
            clear hs
            go_wp2_with fail
            have hbw : w2.heap.size + 1 < wr.heap.size := HB.out.one.lt
            have BX := hid (At.alloc wr o a b tx)
            refine (shape_to HS.out HO.out.o.1 HO.out.o.2 _).mono ?_
            rintro e w4 ⟨rfl, g⟩
            replace BX := hid (BX.out.mono g)
            replace BC := hid (BC.out.mono (((G.refl wr).alloc _).trans g))
            replace HB := hid (HB.out.mono (((G.refl wr).alloc _).trans g))
            replace HG := hid (HG.out.trans (((G.refl wr).alloc _).trans g))
            clear g
            obtain ⟨l0, p0, q0, f0⟩ := BC.out
            obtain ⟨lx, px, qx, rx, tx0, fx⟩ := BX.out
            simp at qx rx tx0
            obtain ⟨lb, pb, fb⟩ := HB.out.one
            obtain ⟨i, i1, i2, i3, i4⟩ := info5
            go_wp2_with (first | (at_builtin; go_loud (refine wpList_append_own _ rfl _ _ 34 rfl (w.heap.size + 1) 5 i (.int .u8 0) 1 1 Tryd.underlying34 i1 i2 i3 i4 rfl (by decide) _ _ _ rfl (HB.out.own.alloc _) ⟨w4.heap.size, 0, none⟩ 1 1 [.int .u8 o] rfl rfl (cell_new1 _ _ _) (by simp [Value.oneCell']) (by unfold maxLen; have h := HLn.out; omega) (by have h := HLn.out; omega) (by simp; omega) ?_; intro v1 y1 own1 gr1 _; obtain ⟨hb1, ht1⟩ := bag_push HB.out (UInt8.ofNat (o % 256).toNat) HOp.out gr1 own1; obtain ⟨g1, p1, ev⟩ := own_some own1 (by omega); subst ev; have HB1 := hid hb1; have HT1 := hid ht1; clear lb pb fb lx px qx rx tx0 fx; obtain ⟨lb, pb, fb⟩ := ((HB.out.one.mono ((G.refl w4).alloc (.cells #[.int .u8 o] 5))).turned gr1 HB.out.ne); obtain ⟨lx, px, qx, rx, tx0, fx⟩ := ((BX.out.more (.cells #[.int .u8 o] 5)).turn (Turn.grown gr1 (X := fun k => v.ownBlock = some k) (fun _ h => h)) (row_ne_at BX.out HB.out.own HPne.out)); simp at qx rx tx0; clear hb1 ht1 own1 gr1)))
            clear lb pb fb
            have hT := HT1.out
            have hB := HB1.out
            clear l0 p0 q0 f0 lx px qx rx tx0 fx
            replace BC := hid (BC.out.turn hT (bag_off HB.out (by omega) (by omega)))
            replace BX := hid (BX.out.turn hT (bag_off_at HB.out BX.out HPne.out (by omega)))
            replace HG := hid (hT.G HG.out (bag_low HB.out (by omega) (by omega)))
            replace HB := hid hB
            clear hT hB
            obtain ⟨l0, p0, q0, f0⟩ := BC.out
            obtain ⟨lx, px, qx, rx, tx0, fx⟩ := BX.out
            simp at qx rx tx0
            go_roundg (xs.length - (k + 1))
            case measure => go_light; omega
            case rel =>
              go_light
              have e : insR (o, a, b, tx) = [UInt8.ofNat (o % 256).toNat] := by simp [insR, hasA, hasB, hasS, HS.out]
              have h := HB.out
              have hl : (pre ++ [UInt8.ofNat (o % 256).toNat]) = ([UInt8.ofNat (es.length % 256)] ++ (es.map eightR).flatten ++ eightR xs.length) ++ ((xs.take (k + 1)).map insR).flatten := by
                rw [List.take_add_one, HX.out, ← hpre.out]
                simp [e]
              rw [hl] at h
              exact ⟨k + 1, by omega, rfl, by go_num, ⟨_, h⟩, BC.out, HG.out⟩
          · have b1 := bits11
            have b2 := bits12
            have b4 := bits14
            have HS := hid hs
            clear hs
            go_wp2_with fail
            have hbw : w2.heap.size + 1 < wr.heap.size := HB.out.one.lt
            have BX := hid (At.alloc wr o a b tx)
            refine (shape_to HS.out HO.out.o.1 HO.out.o.2 _).mono ?_
            rintro e w4 ⟨rfl, g⟩
            replace BX := hid (BX.out.mono g)
            replace BC := hid (BC.out.mono (((G.refl wr).alloc _).trans g))
            replace HB := hid (HB.out.mono (((G.refl wr).alloc _).trans g))
            replace HG := hid (HG.out.trans (((G.refl wr).alloc _).trans g))
            clear g
            obtain ⟨l0, p0, q0, f0⟩ := BC.out
            obtain ⟨lx, px, qx, rx, tx0, fx⟩ := BX.out
            simp at qx rx tx0
            obtain ⟨lb, pb, fb⟩ := HB.out.one
            obtain ⟨i, i1, i2, i3, i4⟩ := info5
            go_wp2_with (first | (at_builtin; go_loud (refine wpList_append_own _ rfl _ _ 34 rfl (w.heap.size + 1) 5 i (.int .u8 0) 1 1 Tryd.underlying34 i1 i2 i3 i4 rfl (by decide) _ _ _ rfl (HB.out.own.alloc _) ⟨w4.heap.size, 0, none⟩ 1 1 [.int .u8 o] rfl rfl (cell_new1 _ _ _) (by simp [Value.oneCell']) (by unfold maxLen; have h := HLn.out; omega) (by have h := HLn.out; omega) (by simp; omega) ?_; intro v1 y1 own1 gr1 _; obtain ⟨hb1, ht1⟩ := bag_push HB.out (UInt8.ofNat (o % 256).toNat) HOp.out gr1 own1; obtain ⟨g1, p1, ev⟩ := own_some own1 (by omega); subst ev; have HB1 := hid hb1; have HT1 := hid ht1; clear lb pb fb lx px qx rx tx0 fx; obtain ⟨lb, pb, fb⟩ := ((HB.out.one.mono ((G.refl w4).alloc (.cells #[.int .u8 o] 5))).turned gr1 HB.out.ne); obtain ⟨lx, px, qx, rx, tx0, fx⟩ := ((BX.out.more (.cells #[.int .u8 o] 5)).turn (Turn.grown gr1 (X := fun k => v.ownBlock = some k) (fun _ h => h)) (row_ne_at BX.out HB.out.own HPne.out)); simp at qx rx tx0; clear hb1 ht1 own1 gr1)))
            clear lb pb fb
            have hT := HT1.out
            have hB := HB1.out
            clear l0 p0 q0 f0 lx px qx rx tx0 fx
            replace BC := hid (BC.out.turn hT (bag_off HB.out (by omega) (by omega)))
            replace BX := hid (BX.out.turn hT (bag_off_at HB.out BX.out HPne.out (by omega)))
            replace HG := hid (hT.G HG.out (bag_low HB.out (by omega) (by omega)))
            replace HB := hid hB
            clear hT hB
            obtain ⟨l0, p0, q0, f0⟩ := BC.out
            obtain ⟨lx, px, qx, rx, tx0, fx⟩ := BX.out
            simp at qx rx tx0
            refine (putn_any a (w2.heap.size + 1) (w.heap.size + 1) _ _ _ HO.out.a.1 HO.out.a.2 HB.out (by have := BC.out.lt; omega) (by have h := HLn.out; simp only [List.length_append, eight_len, List.length_cons, List.length_nil]; omega)).mono ?_
            rintro e za ⟨rfl, va, hB, hT⟩
            clear l0 p0 q0 f0 lx px qx rx tx0 fx
            replace BC := hid (BC.out.turn hT (bag_off HB.out (by omega) (by omega)))
            replace BX := hid (BX.out.turn hT (bag_off_at HB.out BX.out (by simp) (by omega)))
            replace HG := hid (hT.G HG.out (bag_low HB.out (by omega) (by omega)))
            replace HB := hid hB
            clear hT hB
            obtain ⟨l0, p0, q0, f0⟩ := BC.out
            obtain ⟨lx, px, qx, rx, tx0, fx⟩ := BX.out
            simp at qx rx tx0
            go_wp2_with fail
            go_roundg (xs.length - (k + 1))
            case measure => go_light; omega
            case rel =>
              go_light
              have e : insR (o, a, b, tx) = [UInt8.ofNat (o % 256).toNat] ++ eightR a := by simp [insR, hasA, hasB, hasS, HS.out]
              have h := HB.out
              have hl : ((pre ++ [UInt8.ofNat (o % 256).toNat]) ++ eightR a) = ([UInt8.ofNat (es.length % 256)] ++ (es.map eightR).flatten ++ eightR xs.length) ++ ((xs.take (k + 1)).map insR).flatten := by
                rw [List.take_add_one, HX.out, ← hpre.out]
                simp [e]
              rw [hl] at h
              exact ⟨k + 1, by omega, rfl, by go_num, ⟨_, h⟩, BC.out, HG.out⟩
          · have b1 := bits31
            have b2 := bits32
            have b4 := bits34
            have HS := hid hs
            clear hs
            go_wp2_with fail
            have hbw : w2.heap.size + 1 < wr.heap.size := HB.out.one.lt
            have BX := hid (At.alloc wr o a b tx)
            refine (shape_to HS.out HO.out.o.1 HO.out.o.2 _).mono ?_
            rintro e w4 ⟨rfl, g⟩
            replace BX := hid (BX.out.mono g)
            replace BC := hid (BC.out.mono (((G.refl wr).alloc _).trans g))
            replace HB := hid (HB.out.mono (((G.refl wr).alloc _).trans g))
            replace HG := hid (HG.out.trans (((G.refl wr).alloc _).trans g))
            clear g
            obtain ⟨l0, p0, q0, f0⟩ := BC.out
            obtain ⟨lx, px, qx, rx, tx0, fx⟩ := BX.out
            simp at qx rx tx0
            obtain ⟨lb, pb, fb⟩ := HB.out.one
            obtain ⟨i, i1, i2, i3, i4⟩ := info5
            go_wp2_with (first | (at_builtin; go_loud (refine wpList_append_own _ rfl _ _ 34 rfl (w.heap.size + 1) 5 i (.int .u8 0) 1 1 Tryd.underlying34 i1 i2 i3 i4 rfl (by decide) _ _ _ rfl (HB.out.own.alloc _) ⟨w4.heap.size, 0, none⟩ 1 1 [.int .u8 o] rfl rfl (cell_new1 _ _ _) (by simp [Value.oneCell']) (by unfold maxLen; have h := HLn.out; omega) (by have h := HLn.out; omega) (by simp; omega) ?_; intro v1 y1 own1 gr1 _; obtain ⟨hb1, ht1⟩ := bag_push HB.out (UInt8.ofNat (o % 256).toNat) HOp.out gr1 own1; obtain ⟨g1, p1, ev⟩ := own_some own1 (by omega); subst ev; have HB1 := hid hb1; have HT1 := hid ht1; clear lb pb fb lx px qx rx tx0 fx; obtain ⟨lb, pb, fb⟩ := ((HB.out.one.mono ((G.refl w4).alloc (.cells #[.int .u8 o] 5))).turned gr1 HB.out.ne); obtain ⟨lx, px, qx, rx, tx0, fx⟩ := ((BX.out.more (.cells #[.int .u8 o] 5)).turn (Turn.grown gr1 (X := fun k => v.ownBlock = some k) (fun _ h => h)) (row_ne_at BX.out HB.out.own HPne.out)); simp at qx rx tx0; clear hb1 ht1 own1 gr1)))
            clear lb pb fb
            have hT := HT1.out
            have hB := HB1.out
            clear l0 p0 q0 f0 lx px qx rx tx0 fx
            replace BC := hid (BC.out.turn hT (bag_off HB.out (by omega) (by omega)))
            replace BX := hid (BX.out.turn hT (bag_off_at HB.out BX.out HPne.out (by omega)))
            replace HG := hid (hT.G HG.out (bag_low HB.out (by omega) (by omega)))
            replace HB := hid hB
            clear hT hB
            obtain ⟨l0, p0, q0, f0⟩ := BC.out
            obtain ⟨lx, px, qx, rx, tx0, fx⟩ := BX.out
            simp at qx rx tx0
            refine (putn_any a (w2.heap.size + 1) (w.heap.size + 1) _ _ _ HO.out.a.1 HO.out.a.2 HB.out (by have := BC.out.lt; omega) (by have h := HLn.out; simp only [List.length_append, eight_len, List.length_cons, List.length_nil]; omega)).mono ?_
            rintro e za ⟨rfl, va, hB, hT⟩
            clear l0 p0 q0 f0 lx px qx rx tx0 fx
            replace BC := hid (BC.out.turn hT (bag_off HB.out (by omega) (by omega)))
            replace BX := hid (BX.out.turn hT (bag_off_at HB.out BX.out (by simp) (by omega)))
            replace HG := hid (hT.G HG.out (bag_low HB.out (by omega) (by omega)))
            replace HB := hid hB
            clear hT hB
            obtain ⟨l0, p0, q0, f0⟩ := BC.out
            obtain ⟨lx, px, qx, rx, tx0, fx⟩ := BX.out
            simp at qx rx tx0
            go_wp2_with fail
            refine (putn_any b (w2.heap.size + 1) (w.heap.size + 1) _ _ _ HO.out.b.1 HO.out.b.2 HB.out (by have := BC.out.lt; omega) (by have h := HLn.out; simp only [List.length_append, eight_len, List.length_cons, List.length_nil]; omega)).mono ?_
            rintro e zb ⟨rfl, vb, hB, hT⟩
            clear l0 p0 q0 f0 lx px qx rx tx0 fx
            replace BC := hid (BC.out.turn hT (bag_off HB.out (by omega) (by omega)))
            replace BX := hid (BX.out.turn hT (bag_off_at HB.out BX.out (by simp) (by omega)))
            replace HG := hid (hT.G HG.out (bag_low HB.out (by omega) (by omega)))
            replace HB := hid hB
            clear hT hB
            obtain ⟨l0, p0, q0, f0⟩ := BC.out
            obtain ⟨lx, px, qx, rx, tx0, fx⟩ := BX.out
            simp at qx rx tx0
            go_wp2_with fail
            go_roundg (xs.length - (k + 1))
            case measure => go_light; omega
            case rel =>
              go_light
              have e : insR (o, a, b, tx) = [UInt8.ofNat (o % 256).toNat] ++ eightR a ++ eightR b := by simp [insR, hasA, hasB, hasS, HS.out]
              have h := HB.out
              have hl : (((pre ++ [UInt8.ofNat (o % 256).toNat]) ++ eightR a) ++ eightR b) = ([UInt8.ofNat (es.length % 256)] ++ (es.map eightR).flatten ++ eightR xs.length) ++ ((xs.take (k + 1)).map insR).flatten := by
                rw [List.take_add_one, HX.out, ← hpre.out]
                simp [e]
              rw [hl] at h
              exact ⟨k + 1, by omega, rfl, by go_num, ⟨_, h⟩, BC.out, HG.out⟩
          · have b1 := bits41
            have b2 := bits42
            have b4 := bits44
            have HS := hid hs
            clear hs
            go_wp2_with fail
            have hbw : w2.heap.size + 1 < wr.heap.size := HB.out.one.lt
            have BX := hid (At.alloc wr o a b tx)
            refine (shape_to HS.out HO.out.o.1 HO.out.o.2 _).mono ?_
            rintro e w4 ⟨rfl, g⟩
            replace BX := hid (BX.out.mono g)
            replace BC := hid (BC.out.mono (((G.refl wr).alloc _).trans g))
            replace HB := hid (HB.out.mono (((G.refl wr).alloc _).trans g))
            replace HG := hid (HG.out.trans (((G.refl wr).alloc _).trans g))
            clear g
            obtain ⟨l0, p0, q0, f0⟩ := BC.out
            obtain ⟨lx, px, qx, rx, tx0, fx⟩ := BX.out
            simp at qx rx tx0
            obtain ⟨lb, pb, fb⟩ := HB.out.one
            obtain ⟨i, i1, i2, i3, i4⟩ := info5
            go_wp2_with (first | (at_builtin; go_loud (refine wpList_append_own _ rfl _ _ 34 rfl (w.heap.size + 1) 5 i (.int .u8 0) 1 1 Tryd.underlying34 i1 i2 i3 i4 rfl (by decide) _ _ _ rfl (HB.out.own.alloc _) ⟨w4.heap.size, 0, none⟩ 1 1 [.int .u8 o] rfl rfl (cell_new1 _ _ _) (by simp [Value.oneCell']) (by unfold maxLen; have h := HLn.out; omega) (by have h := HLn.out; omega) (by simp; omega) ?_; intro v1 y1 own1 gr1 _; obtain ⟨hb1, ht1⟩ := bag_push HB.out (UInt8.ofNat (o % 256).toNat) HOp.out gr1 own1; obtain ⟨g1, p1, ev⟩ := own_some own1 (by omega); subst ev; have HB1 := hid hb1; have HT1 := hid ht1; clear lb pb fb lx px qx rx tx0 fx; obtain ⟨lb, pb, fb⟩ := ((HB.out.one.mono ((G.refl w4).alloc (.cells #[.int .u8 o] 5))).turned gr1 HB.out.ne); obtain ⟨lx, px, qx, rx, tx0, fx⟩ := ((BX.out.more (.cells #[.int .u8 o] 5)).turn (Turn.grown gr1 (X := fun k => v.ownBlock = some k) (fun _ h => h)) (row_ne_at BX.out HB.out.own HPne.out)); simp at qx rx tx0; clear hb1 ht1 own1 gr1)))
            clear lb pb fb
            have hT := HT1.out
            have hB := HB1.out
            clear l0 p0 q0 f0 lx px qx rx tx0 fx
            replace BC := hid (BC.out.turn hT (bag_off HB.out (by omega) (by omega)))
            replace BX := hid (BX.out.turn hT (bag_off_at HB.out BX.out HPne.out (by omega)))
            replace HG := hid (hT.G HG.out (bag_low HB.out (by omega) (by omega)))
            replace HB := hid hB
            clear hT hB
            obtain ⟨l0, p0, q0, f0⟩ := BC.out
            obtain ⟨lx, px, qx, rx, tx0, fx⟩ := BX.out
            simp at qx rx tx0
            have hsz : tx.size ≤ 40 := by
              have h := HM.out
              simp only [mayI, mayR, Bool.and_eq_true, Bool.or_eq_true, decide_eq_true_eq] at h
              rcases h.2 with h | h
              · have h := nil_of2 h
                subst h
                decide
              · exact h.2
            have HSZ := hid hsz
            clear l0 p0 q0 f0 lx px qx rx tx0 fx
            have HSb : Hid ((tx.size : Int) = (UInt8.ofNat (tx.size % 256)).toNat) := hid (by rw [UInt8.toNat_ofNat']; omega)
            have HLp : Hid ((pre ++ [UInt8.ofNat (o % 256).toNat]).length ≤ 3000001) := hid (by have h := HLn.out; simp; omega)
            have HPn : Hid ((pre ++ [UInt8.ofNat (o % 256).toNat]) ≠ []) := hid (by simp)
            generalize y1.setCell ⟨w2.heap.size + 1, 0, none⟩ (.slice (some ⟨g1, 0, none⟩) (pre.length + 1) p1) = W0 at HB BC BX HG ⊢
            generalize (Value.slice (some ⟨g1, 0, none⟩) (pre.length + 1) p1) = v5 at HB
            obtain ⟨l6, hl6⟩ : ∃ l6, Hid ((pre ++ [UInt8.ofNat (o % 256).toNat]) = l6) := ⟨_, rfl⟩
            rw [hl6.out] at HB HLp HPn
            refine wp_region_chain 98 [0, 1, 2, 3, 4, 7, 8] [5, 6, 9, 10] [1, 3, 4, 7] [86, 87, 88, 89, 90, 91, 92, 93, 94, 95] (fun j => if j = 0 then [0, 2, 8] else if j = 1 then [0, 8] else if j = 2 then [8] else []) (fun i => if i = 0 then v5 else if i = 1 then (.pointer (some ⟨wr.heap.size, 3, none⟩)) else if i = 2 then .string tx else if i = 3 then .int .i64 tx.size else if i = 4 then .int .u8 tx.size else if i = 7 then (.pointer (some ⟨wr.heap.size, 3, none⟩)) else .string tx) (by kernel_rfl) (by kernel_rfl) (by kernel_rfl) rfl ?_ ?_
            · intro w1
              exact ⟨⟨_, rfl, fun ac hin => pure_addr rfl rfl (by decide) (hin 9 (by decide))⟩, ⟨_, rfl, fun ac hin => pure_len9 rfl rfl (hin 88 (by decide))⟩, ⟨_, rfl, fun ac hin => pure_byte rfl rfl (hin 89 (by decide)) (by omega) (by omega)⟩, ⟨_, rfl, fun ac hin => pure_addr rfl rfl (by decide) (hin 9 (by decide))⟩, trivial⟩
            · have hg0 : G W0 W0.drew := (G.refl W0).drew
              have hb0 := HB.out.mono hg0
              have hx0 := BX.out.mono hg0
              refine ⟨⟨⟨_, rfl, fun ac hin => pure_load34 rfl rfl hb0.one (hin 4 (by decide))⟩, ⟨_, rfl, fun ac hin => pure_load9 rfl rfl hx0 (hin 87 (by decide))⟩, ⟨_, rfl, fun ac hin => pure_load9 rfl rfl hx0 (hin 93 (by decide))⟩, trivial⟩, _, rfl, fun ac hin => ⟨rfl, eff_build_byte rfl (hin 90 (by decide)) ?_⟩⟩
              have hg1 : G W0.drew (W0.drew.alloc (.cells #[.int .u8 tx.size] 5)) := (G.refl _).alloc _
              have hb1 := hb0.mono hg1
              have hx1 := hx0.mono hg1
              refine ⟨⟨⟨_, rfl, fun ac hin => pure_load34 rfl rfl hb1.one (hin 4 (by decide))⟩, ⟨_, rfl, fun ac hin => pure_load9 rfl rfl hx1 (hin 93 (by decide))⟩, trivial⟩, _, rfl, fun ac hin => ⟨rfl, ?_⟩⟩
              have hlen := HLp.out
              refine eff_append _ _ 34 rfl (w.heap.size + 1) 5 i (.int .u8 0) 1 1 Tryd.underlying34 i1 i2 i3 i4 rfl (by decide) v5 l6.length (bys l6) (hin 86 (by decide)) hb1.own ⟨W0.drew.heap.size, 0, none⟩ 1 1 [.int .u8 tx.size] (hin 91 (by decide)) rfl (cell_new1 _ _ _) (by simp [Value.oneCell']) (by unfold maxLen; omega) (by omega) (by have h := HG.out.size; have h2 := BC.out.lt; simp; omega) ?_
              intro v6 w6 own6 gr6
              have hx6 := hx1.turn (Turn.grown gr6 (X := fun k => v5.ownBlock = some k) (fun _ h => h)) (row_ne_at hx1 hb1.own HPn.out)
              have hn6 : v6.ownBlock ≠ some wr.heap.size := by
                have e1 : bys l6 ++ [.int .u8 (tx.size : Int)] = bys (l6 ++ [UInt8.ofNat (tx.size % 256)]) := by rw [HSb.out]; simp [bys]
                rw [e1] at own6
                exact row_ne_at hx6 own6 (by simp)
              refine ⟨⟨⟨_, rfl, fun ac hin => pure_load9 rfl rfl hx6 (hin 93 (by decide))⟩, trivial⟩, _, rfl, fun ac hin => ⟨rfl, ?_⟩⟩
              refine eff_append_str _ _ rfl (w.heap.size + 1) i i1 i2 i3 i4 v6 (l6.length + 1) _ (hin 92 (by decide)) own6 tx (hin 94 (by decide)) (by unfold maxLen; omega) (by omega) (by have h := HG.out.size; have h2 := BC.out.lt; have h3 := gr6.size; simp at h3; omega) ?_
              intro v7 w7 own7 gr7
              obtain ⟨one6, one7, hB, hT⟩ := bag_text HB.out (hg0.trans hg1) _ HSb.out gr6 own6 gr7 own7
              refine ⟨trivial, _, rfl, fun ac hin => ⟨rfl, eff_store34 rfl one7 (hin 4 (by decide)) (hin 95 (by decide)) (slice_form own7) ⟨trivial, fun s' hs => ?_⟩⟩⟩
              have hlt6 := own6.lt
              replace BC := hid (BC.out.turn hT (three_off (fun j hj => (HB.out.own.lt j hj).1) (fun j hj => (hlt6 j hj).1) (by omega) (by omega)))
              replace HG := hid (hT.G HG.out (three_low (fun j hj => (HB.out.own.lt j hj).1) (fun j hj => (hlt6 j hj).1) (by omega) (by omega)))
              replace HB := hid hB
              clear hB hT one6 one7 own6 own7 gr6 gr7 hx0 hx1 hx6 hb0 hb1 hg0 hg1 hlt6 hn6 hs
              simp only [putAll, List.foldl_cons, List.foldl_nil]
              go_wp2_with fail
              go_roundg (xs.length - (k + 1))
              case measure => go_light; omega
              case rel =>
                go_light
                have e : insR (o, a, b, tx) = [UInt8.ofNat (o % 256).toNat] ++ (UInt8.ofNat (tx.size % 256) :: tx.data.toList) := by simp [insR, hasA, hasB, hasS, HS.out]
                have h := HB.out
                have hl : (l6 ++ (UInt8.ofNat (tx.size % 256) :: tx.data.toList)) = ([UInt8.ofNat (es.length % 256)] ++ (es.map eightR).flatten ++ eightR xs.length) ++ ((xs.take (k + 1)).map insR).flatten := by
                  rw [List.take_add_one, HX.out, ← hl6.out, ← hpre.out]
                  simp [e]
                rw [hl] at h
                exact ⟨k + 1, by omega, rfl, by go_num, ⟨_, h⟩, BC.out, HG.out⟩
        · obtain rfl : k = xs.length := by omega
          have hkz : ¬ (xs.length : Int) < (xs.length : Int) := by omega
          obtain ⟨lb, pb, fb⟩ := HB.out.one
          obtain ⟨lo, po, qo, fo⟩ := BC.out
          go_wp2_with fail
          go_ret2
          have h := HB.out.own
          rw [List.take_length] at h
          have e : ([UInt8.ofNat (es.length % 256)] ++ (es.map eightR).flatten ++ eightR xs.length) ++ (xs.map insR).flatten = codeR es xs := rfl
          rw [e] at h
          exact ⟨_, rfl, own_base h (by omega), HG.out⟩
theorem put_any (p q : Option Addr) (cap mc : Nat) (es : List Int) (xs : List I) (w : World) (hn : xs.length ≤ 1000000) (hm : es.length ≤ 1000000) (hrow : Row w p xs) (hent : Ents w q es) (hok : ∀ x ∈ xs, InsOk x) (hek : ∀ n ∈ es, EntOk n) :
    Calls Tryd.prog 12 #[.agg #[.slice p xs.length cap, .slice q es.length mc]] w (PutPost w es xs) := by
  by_cases h : putE es xs = 0
  · have h2 := h
    unfold putE at h2
    split at h2
    · cases h2
    · split at h2
      · cases h2
      · split at h2
        · cases h2
        · rename_i k1 k3 k4
          refine (put_good p q cap mc es xs w hrow hent hok hek (by omega) (by omega) (by simpa using k3) (by simpa using k4)).mono ?_
          rintro e w' ⟨v, rfl, ho, hg⟩
          exact ⟨hg, .inr ⟨h, v, rfl, ho⟩⟩
  · exact put_bad p q cap mc es xs w hn hm hrow hent hok h

end Go.Proofs.YtpeioflembhedaaDoor
