/-
  What each of the check's functions gives, and of the reference's. No conditions.
-/
import Derived.Test.YtoodfngcfdhnfaaGo
import Derived.Test.YtoodfngcfdhnfaaSays
import Derived.Laws.AppendOwnNone
import Derived.Lib.SlBytesConst
namespace Go.Proofs.Ytoodfngcfdhnfaa
open Go.RowKit Go.Proofs.Ytoodfngcfdhnfaa.Crc

theorem info5 : (Try.prog.info? 5).map (fun i => (i.zero, i.size, i.bytes)) = some (some (.int .u8 0), 1, 1) := by kernel_rfl

def cells (ns : List Nat) : List Value := ns.map fun n : Nat => Value.int .u8 (n : Int)
theorem cells_length (ns : List Nat) : (cells ns).length = ns.length := by simp [cells]
theorem cells_append (a b : List Nat) : cells (a ++ b) = cells a ++ cells b := by simp [cells]
theorem cells_one (ns : List Nat) : ∀ u ∈ cells ns, u.oneCell' = true := by
  intro u hu; obtain ⟨n, _, rfl⟩ := List.mem_map.1 hu; rfl

/-- What the call made itself: a row of bytes that it owns. -/
def Owns (B : Nat) (w : World) (v : Value) (ns : List Nat) : Prop := w.ownsRow B 5 1 v ns.length (cells ns)

theorem Owns.mono {B : Nat} {w w' : World} {v : Value} {ns : List Nat} (h : Owns B w v ns) (hg : G w w') : Owns B w' v ns := by
  refine ⟨h.1, ?_⟩
  rcases h.2 with h2 | ⟨g, cap, cur, hv, hb, hh, r⟩
  · exact .inl h2
  · exact .inr ⟨g, cap, cur, hv, hb, by rw [Below.block hg g (Array.getElem?_eq_some_iff.1 hh).1]; exact hh, r⟩
theorem Owns.row {B : Nat} {w : World} {v : Value} {ns : List Nat} (hb : Bytes ns) (h : Owns B w v ns) : ∃ p c, v = .slice p ns.length c ∧ c ≤ maxLen ∧ RowAt w p c ns := RowAt.of_owns hb h
theorem Owns.at {B : Nat} {w : World} {v : Value} {ns : List Nat} (h : Owns B w v ns) (hn : 0 < ns.length) :
    ∃ g c, v = .slice (some ⟨g, 0, none⟩) ns.length c ∧ B ≤ g ∧ ∀ j u, (cells ns)[j]? = some u → w.cell? ((⟨g, 0, none⟩ : Addr).add j) = some u := by
  have h0 := h
  rcases h.2 with ⟨_, h2⟩ | ⟨g, cap, cur, rfl, hb, hh, r⟩
  · omega
  · exact ⟨g, cap, rfl, hb, World.ownsRow.cells h0 rfl⟩

theorem RowAt.news {w : World} {a : Addr} {c : Nat} {ns : List Nat} (h : RowAt w (some a) c ns) : ∀ j u, (cells ns)[j]? = some u → w.cell? (a.add j) = some u := by
  intro j u hu
  have hj : j < ns.length := by
    have := (List.getElem?_eq_some_iff.1 hu).1
    simpa [cells] using this
  obtain ⟨b, o, e, hc⟩ := h.lies (by omega)
  cases e
  have e : (⟨b, o, none⟩ : Addr).add j = ⟨b, o + j, none⟩ := by unfold Addr.add; split <;> simp_all
  rw [e, hc j hj]
  simp [cells, hj] at hu
  rw [← hu]
  simp [List.getD, hj]

/-- 'append(v, b...)', v the call's own, b any row. -/
theorem wpList_append_row {w : World} {ops : Array Oper} {rest : List Oper} {o : Oper} {a : Act} {Q : Exit → Act → World → Prop} (hgd : o.guard = none) (s x : Operand)
    (ho : o.op = .call { callee := .builtin .append, args := #[s, x], argTypes := #[22, 22] }) (B : Nat) (v : Value) (ms : List Nat) (hs : a.eval s = v) (hown : Owns B w v ms)
    (p : Option Addr) (n c : Nat) (ns : List Nat) (hx : a.eval x = .slice p n c) (hn : ns.length = n) (hr : RowAt w p c ns) (hlen : ms.length + ns.length ≤ 140737488355328) (hB : B ≤ w.heap.size)
    (h : ∀ v' w', Owns B w' v' (ms ++ ns) → Below B w w' → wpList Try.prog ops Q rest (a.put o.dst v') w') : wpList Try.prog ops Q (o :: rest) a w := by
  obtain ⟨i0, hi, hz0, hz1, hz2⟩ := info_parts info5
  subst hn
  cases p with
  | none =>
    have hc := hr.nil rfl
    subst hc
    have hnil : ns = [] := List.eq_nil_of_length_eq_zero (Nat.le_zero.1 hr.le)
    subst hnil
    exact wpList_append_own_none hgd s x 22 ho B 5 i0 1 Try.underlying22 hi v ms.length (cells ms) hs hown hx (h v w (by rw [List.append_nil]; exact hown) (Below.refl _ _))
  | some ad =>
    refine wpList_append_own w hgd s x 22 ho B 5 i0 (.int .u8 0) 1 1 Try.underlying22 hi hz0 hz1 hz2 rfl (by decide) v ms.length (cells ms) hs hown ad ns.length c (cells ns) hx (by simp [cells]) hr.news (cells_one ns) (by unfold maxLen; omega) (by omega) hB ?_
    intro v' w' h2 h3 _
    refine h v' w' ?_ ((Below.refl _ _).grown h3 hB (fun q hq => (World.ownsRow.lt hown q hq).1))
    unfold Owns
    rw [List.length_append, cells_append]
    exact h2

theorem G.trans' {a b c : World} {B : Nat} (h : G a b) (k : Below B b c) (hB : a.heap.size ≤ B) : G a c := Below.trans h (Below.mono k hB)

theorem of_any (p : Option Addr) (c : Nat) (ns : List Nat) (w : World) (hr : RowAt w p c ns) (hlen : ns.length ≤ 140737488355328) :
    Calls Try.prog 10 #[.slice p ns.length c] w fun e w' => e = .returned (.int .u32 ((go 0 ns : Nat) : Int)) ∧ G w w' := by
  have hcon := go_any 0 p c ns w (by decide) hr hlen
  go_enter Try.func10, Try.ntmps10
  go_wp2_with (go_at_call 13; refine hcon.mono ?_; rintro e w1 ⟨rfl, hg1⟩)
  go_ret
  exact ⟨rfl, hg1⟩

theorem short_any (p : Option Addr) (c : Nat) (ns : List Nat) (w : World) (hr : RowAt w p c ns) (hc : c ≤ maxLen) :
    Calls Try.prog 9 #[.slice p ns.length c] w fun e w' => ∃ p', e = .returned (.slice p' (ns.take 2000).length c) ∧ RowAt w p' c (ns.take 2000) ∧ w = w' := by
  have hle := hr.le
  unfold maxLen at hc
  by_cases h : 2000 < ns.length
  · have hlen : (ns.take 2000).length = 2000 := by simp; omega
    rw [hlen]
    go_enter Try.func9, Try.ntmps9
    go_wp2
    go_ret
    exact ⟨p, rfl, hr.take 2000, rfl⟩
  · have ht : ns.take 2000 = ns := List.take_of_length_le (by omega)
    rw [ht]
    go_enter Try.func9, Try.ntmps9
    go_wp2
    go_ret
    exact ⟨p, rfl, hr, rfl⟩

set_option maxHeartbeats 400000 in
theorem clone_any (p : Option Addr) (c : Nat) (ns : List Nat) (w : World) (hr : RowAt w p c ns) (hlen : ns.length ≤ 140737488355328) :
    Calls Try.prog 19 #[.slice p ns.length c] w fun e w' => ∃ v', e = .returned v' ∧ Owns w.heap.size w' v' ns ∧ G w w' := by
  have q22 : ∀ (w : World) (a : Option Addr) (n c n' c' : Nat), (binOp .eql 22 (.slice a n c) (.slice none n' c')).run Try.prog w = .ok (.bool a.isNone) w := fun w a n c n' c' => Lib.run_eql_slice_nil w _ _ a n c n' c' Try.underlying22
  obtain ⟨i0, hi, hz0, hz1, hz2⟩ := info_parts info5
  cases p with
  | none =>
    have hnil : ns = [] := by
      rcases Nat.eq_zero_or_pos ns.length with h | h
      · exact List.eq_nil_of_length_eq_zero h
      · obtain ⟨b, o, e, _⟩ := hr.lies h; cases e
    subst hnil
    go_enter Try.func19, Try.ntmps19
    go_wp2
    go_ret
    exact ⟨_, rfl, World.ownsRow_nil _ _ _ _, G.refl _⟩
  | some a =>
    have hnews := hr.news
    have HN := hid hnews; clear hnews
    go_enter Try.func19, Try.ntmps19
    go_wp2_with (at_builtin; refine wpList_append_own _ rfl _ _ 22 rfl w.heap.size 5 i0 (.int .u8 0) 1 1 Try.underlying22 hi hz0 hz1 hz2 rfl (by decide) _ _ _ rfl (World.ownsRow_made w #[] 0 (Nat.le_refl _) (Nat.zero_le _) rfl) a ns.length c (cells ns) rfl ?qc1 ?qc2 ?qc3 ?qc4 ?qc5 ?qc6 ?_)
    case qc1 => simp [cells]
    case qc2 =>
      intro j u hj
      exact (((G.refl w).alloc _).cell (HN.out j u hj))
    case qc3 => exact cells_one ns
    case qc4 => unfold maxLen; omega
    case qc5 => omega
    case qc6 => simp
    intro v' w1 hown hgrow hnil
    go_wp2
    go_ret
    refine ⟨v', rfl, by simpa [Owns] using hown, ?_⟩
    exact ((G.refl w).alloc _).grown hgrow (by intro k hk; simp [Value.ownBlock] at hk; omega)

theorem equal_any (p q : Option Addr) (c d : Nat) (a b : List Nat) (w : World) (ha : RowAt w p c a) (hb : RowAt w q d b) :
    Calls Try.prog 17 #[.slice p a.length c, .slice q b.length d] w fun e w' => e = .returned (.bool (decide (a = b))) ∧ w = w' := by
  have h1 := ha.convert 22 5 9 Try.underlying22 Try.underlying5 Try.underlying9
  have h2 := hb.convert 22 5 9 Try.underlying22 Try.underlying5 Try.underlying9
  have h3 := str_eq ha.bytes hb.bytes
  go_enter Try.func17, Try.ntmps17
  go_wp2
  go_ret
  exact ⟨rfl, rfl⟩

theorem byte_u32 (n m k : Nat) : IntKind.u8.wrap ((n : Int) / ((m : Nat) : Int)) = ((n / m % 256 : Nat) : Int) := by
  rw [show ((n : Int) / ((m : Nat) : Int)) = ((n / m : Nat) : Int) from (Int.natCast_ediv n m).symm]
  simp [IntKind.wrap, IntKind.bits, IntKind.signed]

theorem le4_succ (n k : Nat) (h : k < 4) : (le4 n).take (k + 1) = (le4 n).take k ++ [n / 256 ^ k % 256] := by
  rcases (show k = 0 ∨ k = 1 ∨ k = 2 ∨ k = 3 by omega) with rfl | rfl | rfl | rfl <;> simp [le4]

set_option maxHeartbeats 1000000 in
theorem check_any (p : Option Addr) (c : Nat) (ns : List Nat) (w : World) (hr : RowAt w p c ns) (hlen : ns.length ≤ 140737488355328) :
    Calls Try.prog 18 #[.slice p ns.length c] w fun e w' => ∃ v', e = .returned v' ∧ Owns w.heap.size w' v' (le4 (go 0 ns)) ∧ G w w' := by
  have hcon := of_any p c ns w hr hlen
  obtain ⟨i0, hi, hz0, hz1, hz2⟩ := info_parts info5
  have hn : go 0 ns < 4294967296 := go_lt (by decide) hr.bytes
  generalize go 0 ns = n at *
  go_enter Try.func18, Try.ntmps18
  go_wp2_with (go_at_call 10; refine hcon.mono ?_; rintro e w1 ⟨rfl, hg1⟩)
  go_loopw [3, 5] (fun v i wr => ∃ k : Nat, k ≤ 4 ∧ i = .int .i64 k ∧ Owns w.heap.size wr v ((le4 n).take k) ∧ G w wr) (fun _ i _ => 4 - (intOf i).toNat)
  case atStart => exact ⟨0, by omega, rfl, World.ownsRow_nil _ _ _ _, hg1⟩
  case round =>
    clear hcon hg1
    obtain ⟨k, hk, rfl, hown, hg⟩ := hrel
    have hs := le4_succ n k
    have HS := hid hs; clear hs
    by_cases hlt : k < 4
    · have hlenk : ((le4 n).take k).length = k := by simp [le4]; omega
      have hv : (n : Int) / 2 ^ (8 * k) % 256 = ((n / 256 ^ k % 256 : Nat) : Int) := by
        rw [show (256 : Nat) ^ k = 2 ^ (8 * k) by rw [show (256 : Nat) = 2 ^ 8 from rfl, ← Nat.pow_mul]]
        simp
      have HV := hid hv; clear hv
      have hown2 := hown.alloc (.cells #[.int .u8 ((n : Int) / 2 ^ (8 * k) % 256)] 5)
      have HO := hid hown2; clear hown2
      go_wp2_with (at_builtin; refine wpList_append_own _ rfl _ _ 22 rfl w.heap.size 5 i0 (.int .u8 0) 1 1 Try.underlying22 hi hz0 hz1 hz2 rfl (by decide) _ _ _ rfl HO.out ⟨wr.heap.size, 0, none⟩ 1 1 [.int .u8 ((n : Int) / 2 ^ (8 * k) % 256)] rfl rfl ?qc2 ?qc3 ?qc4 ?qc5 ?qc6 ?_)
      case qc2 => exact cell_one_new _ _ _
      case qc3 => intro u hu; simp at hu; subst hu; rfl
      case qc4 => rw [hlenk]; unfold maxLen; omega
      case qc5 => rw [hlenk]; omega
      case qc6 => have := hg.size; simp; omega
      intro v' w1 hown' hgrow hnil
      have hown3 : Owns w.heap.size w1 v' ((le4 n).take (k + 1)) := by
        rw [HS.out hlt]
        unfold Owns
        rw [cells_append, List.length_append, hlenk]
        rw [HV.out] at hown'
        exact hown'
      have hg3 : G w w1 := (Below.alloc hg hg.size _).grown hgrow (by have := hg.size; simp; omega) (by
        intro q hq
        exact (World.ownsRow.lt hown q hq).1)
      clear hown' hgrow hnil HO hown
      go_wp2
      go_roundw
      case rel => exact ⟨k + 1, by omega, by go_num, hown3, hg3⟩
      case measure => simp [intOf]; omega
    · obtain rfl : k = 4 := by omega
      go_wp2_with fail
      go_ret
      exact ⟨_, rfl, by simpa [le4] using hown, hg⟩

theorem row_four (w : World) {a b c d : Int} {x y z u : Nat} (ha : a = (x : Int)) (hb : b = (y : Int)) (hc : c = (z : Int)) (hd : d = (u : Int)) (h0 : x < 256) (h1 : y < 256) (h2 : z < 256) (h3 : u < 256) :
    RowAt (w.alloc (.cells #[.int .u8 a, .int .u8 b, .int .u8 c, .int .u8 d] 5)) (some ⟨w.heap.size, 0, none⟩) 4 [x, y, z, u] := by
  subst ha; subst hb; subst hc; subst hd
  refine ⟨by simp, ?_, (fun h => by cases h), fun _ => ⟨_, _, rfl, fun i hi => ?_⟩⟩
  · intro v hv
    simp only [List.mem_cons, List.mem_nil_iff, or_false] at hv
    omega
  · rw [Nat.zero_add, World.cell?_alloc_new]
    simp only [List.length_cons, List.length_nil] at hi
    rcases (show i = 0 ∨ i = 1 ∨ i = 2 ∨ i = 3 by omega) with rfl | rfl | rfl | rfl <;> rfl

theorem le4_length (n : Nat) : (le4 n).length = 4 := rfl

set_option maxHeartbeats 400000 in
theorem put_any (p : Option Addr) (c : Nat) (ns : List Nat) (w : World) (hr : RowAt w p c ns) (hlen : ns.length ≤ 100000) :
    Calls Try.prog 15 #[.slice p ns.length c] w fun e w' => ∃ v', e = .returned v' ∧ Owns w.heap.size w' v' (put ns) ∧ G w w' := by
  obtain ⟨i0, hi, hz0, hz1, hz2⟩ := info_parts info5
  have hb := hr.bytes
  go_enter Try.func15, Try.ntmps15
  go_wp2_with fail
  refine (clone_any p c ns w hr (by omega)).mono ?_
  rintro e w1 ⟨v1, rfl, hown1, hg1⟩
  go_wp2_with fail
  refine (check_any p c ns w1 (hr.mono hg1) (by omega)).mono ?_
  rintro e w2 ⟨v2, rfl, hown2, hg2⟩
  have hown3 := hown1.mono hg2
  obtain ⟨g, c2, rfl, hgb, hnews⟩ := hown2.at (by rw [le4_length]; omega)
  rw [le4_length]
  have HN := hid hnews; clear hnews
  have HO := hid hown3; clear hown3
  go_wp2_with (at_builtin; refine wpList_append_own _ rfl _ _ 22 rfl w.heap.size 5 i0 (.int .u8 0) 1 1 Try.underlying22 hi hz0 hz1 hz2 rfl (by decide) _ _ _ rfl HO.out ⟨g, 0, none⟩ 4 c2 (cells (le4 (go 0 ns))) rfl rfl ?qc2 ?qc3 ?qc4 ?qc5 ?qc6 ?_)
  case qc2 => exact HN.out
  case qc3 => exact cells_one _
  case qc4 => unfold maxLen; omega
  case qc5 => omega
  case qc6 => exact (hg1.trans hg2).size
  intro v' w3 hown' hgrow _
  go_wp2
  go_ret
  refine ⟨v', rfl, ?_, ?_⟩
  · unfold Owns
    rw [put_length, put, cells_append]
    exact hown'
  · exact (hg1.trans hg2).grown hgrow (fun q hq => (World.ownsRow.lt HO.out q hq).1)

set_option maxHeartbeats 400000 in
theorem rput_any (p : Option Addr) (c : Nat) (ns : List Nat) (w : World) (hr : RowAt w p c ns) (hlen : ns.length ≤ 100000) :
    Calls Try.prog 16 #[.slice p ns.length c] w fun e w' => ∃ v', e = .returned v' ∧ Owns w.heap.size w' v' (put ns) ∧ G w w' := by
  obtain ⟨i0, hi, hz0, hz1, hz2⟩ := info_parts info5
  have hb := hr.bytes
  have hn : go 0 ns < 4294967296 := go_lt (by decide) hr.bytes
  go_enter Try.func16, Try.ntmps16
  go_wp2_with fail
  refine (rgo_any 0 p c ns w (by decide) hr (by omega)).mono ?_
  rintro e w1 ⟨rfl, rfl⟩
  have hO0 : Owns w.heap.size (w.alloc (.cells #[] 5)) (.slice (some ⟨w.heap.size, 0, none⟩) 0 0) [] := World.ownsRow_made w #[] 0 (Nat.le_refl _) (Nat.zero_le _) rfl
  have HO := hid hO0; clear hO0
  go_wp2_with (at_builtin; refine wpList_append_row rfl (.tmp 6) (.tmp 7) rfl w.heap.size _ [] rfl HO.out p _ c ns rfl rfl (hr.mono ((G.refl w).alloc _)) (by simp; omega) (by simp) ?_)
  intro v1 w1 hown1 hbel1
  have hown1 : Owns w.heap.size w1 v1 ns := by simpa using hown1
  have HO1 := hid hown1; clear hown1
  have HB1 := hid hbel1; clear hbel1
  have hn0 : ((go 0 ns : Nat) : Int) % 256 = ((go 0 ns % 256 : Nat) : Int) := by omega
  have hn1 : ((go 0 ns : Nat) : Int) / 256 % 256 = ((go 0 ns / 256 % 256 : Nat) : Int) := by omega
  have hn2 : ((go 0 ns : Nat) : Int) / 65536 % 256 = ((go 0 ns / 65536 % 256 : Nat) : Int) := by omega
  have hn3 : ((go 0 ns : Nat) : Int) / 16777216 = ((go 0 ns / 16777216 % 256 : Nat) : Int) := by omega
  have hr4 := row_four w1 hn0 hn1 hn2 hn3 (by omega) (by omega) (by omega) (by omega)
  have HR := hid hr4; clear hr4 hn0 hn1 hn2 hn3
  go_wp2_with (at_builtin; refine wpList_append_row rfl (.tmp 8) (.tmp 20) rfl w.heap.size _ ns rfl (HO1.out.mono ((G.refl w1).alloc _)) _ 4 4 (le4 (go 0 ns)) rfl rfl HR.out (by rw [le4_length]; omega) ?qs ?_)
  case qs => have := HB1.out.size; simp at this ⊢; omega
  intro v2 w2 hown2 hbel2
  go_wp2
  go_ret
  exact ⟨v2, rfl, hown2, (((G.refl w).alloc _).trans' HB1.out (by simp)).alloc _ |>.trans' hbel2 (Nat.le_refl _)⟩

set_option maxHeartbeats 400000 in
theorem shown_any (w : World) : Calls Try.prog 8 #[] w fun e w' => e = .returned (.bool true) ∧ G w w' := by
  have kc := fun (w : World) (C : Array Value) (n c : Nat) => Lib.run_convert_bytes_const (P := Try.prog) w 22 5 C n c Try.underlying22 Try.underlying5
  have hr : RowAt (w.alloc (.cells #[.int .u8 49, .int .u8 50, .int .u8 51, .int .u8 52, .int .u8 53, .int .u8 54, .int .u8 55, .int .u8 56, .int .u8 57] 5 (9, 10))) (some ⟨w.heap.size, 0, none⟩) 9 [49, 50, 51, 52, 53, 54, 55, 56, 57] := by
    refine ⟨by decide, ?_, (fun h => by cases h), fun _ => ⟨_, _, rfl, fun i hi => ?_⟩⟩
    · intro b hb
      simp only [List.mem_cons, List.mem_nil_iff, or_false] at hb
      omega
    · rw [Nat.zero_add, World.cell?_alloc_mark]
      simp only [List.length_cons, List.length_nil] at hi
      rcases (show i = 0 ∨ i = 1 ∨ i = 2 ∨ i = 3 ∨ i = 4 ∨ i = 5 ∨ i = 6 ∨ i = 7 ∨ i = 8 by omega) with rfl | rfl | rfl | rfl | rfl | rfl | rfl | rfl | rfl <;> rfl
  have hcon := of_any (some ⟨w.heap.size, 0, none⟩) 9 [49, 50, 51, 52, 53, 54, 55, 56, 57] _ hr (by decide)
  rw [nine] at hcon
  clear hr
  go_enter Try.func8, Try.ntmps8
  go_wp2_with (go_at_call 10; refine hcon.mono ?_; rintro e w1 ⟨rfl, hg1⟩)
  go_ret
  exact ⟨rfl, ((G.refl w).alloc _).trans hg1⟩
end Go.Proofs.Ytoodfngcfdhnfaa
