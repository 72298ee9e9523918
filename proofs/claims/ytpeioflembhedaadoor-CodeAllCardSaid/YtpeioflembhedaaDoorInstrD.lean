/-
  What the reader's instr gives, in plain Lean; the boxes that it writes. No conditions.
-/
import Derived.Test.YtpeioflembhedaaDoorReadN
import Derived.Laws.IdiomStrings
namespace Go.Proofs.YtpeioflembhedaaDoor
open Go.RowKit

def textR (n : Nat) (l : List UInt8) (e : Int) : ByteArray × List UInt8 × Int :=
  if askR (decide (n ≤ l.length)) 2 e = 0 then (⟨(l.take n).toArray⟩, l.drop n, 0) else (E, l, askR (decide (n ≤ l.length)) 2 e)
/-- An instruction, taken. -/
def insT (l : List UInt8) (e : Int) : I × List UInt8 × Int :=
  let r0 := oneR l e
  let o := r0.1
  let e0 := askR (decide (1 ≤ o) && decide (o ≤ 23)) 3 r0.2.2
  let rA := if hasA o then numbR r0.2.1 e0 else (0, r0.2.1, e0)
  let rB := if hasB o then numbR rA.2.1 rA.2.2 else (0, rA.2.1, rA.2.2)
  let rN := if hasS o then oneR rB.2.1 rB.2.2 else (0, rB.2.1, rB.2.2)
  let rS := if hasS o then textR rN.1.toNat rN.2.1 (askR (decide (rN.1 ≤ 40)) 3 rN.2.2) else (E, rN.2.1, rN.2.2)
  ((o, rA.1, rB.1, rS.1), rS.2.1, askR (mayR o rA.1 rB.1 rS.1) 3 rS.2.2)
theorem one_bd (l : List UInt8) (e : Int) : 0 ≤ (oneR l e).1 ∧ (oneR l e).1 ≤ 255 := by
  unfold oneR
  split
  · split
    · decide
    · rename_i b r
      have := b.toNat_lt
      simp only
      omega
  · exact ⟨Int.le_refl 0, by show (0 : Int) ≤ 255; decide⟩
theorem one_len (l : List UInt8) (e : Int) : (oneR l e).2.1.length ≤ l.length := by
  unfold oneR
  split
  · split <;> simp
  · simp
theorem sign_bd (n : Nat) (h : n < 18446744073709551616) : -9223372036854775808 ≤ signR n ∧ signR n ≤ 9223372036854775807 := by
  unfold signR
  split <;> omega
theorem big_lt : ∀ (l : List UInt8) (n k : Nat), n < 256 ^ k → l.foldl (fun n b => n * 256 + b.toNat) n < 256 ^ (k + l.length)
  | [], n, k, h => by simpa using h
  | b :: l, n, k, h => by
    have hb := b.toNat_lt
    have := big_lt l (n * 256 + b.toNat) (k + 1) (by rw [Nat.pow_succ]; omega)
    simp only [List.foldl_cons, List.length_cons]
    rw [show k + (l.length + 1) = k + 1 + l.length by omega]
    exact this
theorem numb_bd (l : List UInt8) (e : Int) : -9223372036854775808 ≤ (numbR l e).1 ∧ (numbR l e).1 ≤ 9223372036854775807 := by
  unfold numbR
  split
  · split
    · rename_i h
      refine sign_bd _ ?_
      have := big_lt (l.take 8) 0 0 (by decide)
      rw [List.length_take, show min 8 l.length = 8 by omega] at this
      simpa [bigR] using this
    · exact ⟨by show (-9223372036854775808 : Int) ≤ 0; decide, by show (0 : Int) ≤ 9223372036854775807; decide⟩
  · exact ⟨by show (-9223372036854775808 : Int) ≤ 0; decide, by show (0 : Int) ≤ 9223372036854775807; decide⟩
theorem numb_len (l : List UInt8) (e : Int) : (numbR l e).2.1.length ≤ l.length := by
  unfold numbR
  split
  · split <;> simp
  · simp
theorem text_size (n : Nat) (l : List UInt8) (e : Int) : (textR n l e).1.size ≤ n := by
  unfold textR
  split
  · simp [ByteArray.size]
    omega
  · exact Nat.zero_le _
theorem text_len (n : Nat) (l : List UInt8) (e : Int) : (textR n l e).2.1.length ≤ l.length := by
  unfold textR
  split <;> simp
theorem insT_len (l : List UInt8) (e : Int) : (insT l e).2.1.length ≤ l.length := by
  have h0 := one_len l e
  unfold insT
  simp only
  generalize oneR l e = r0 at *
  generalize askR (decide (1 ≤ r0.1) && decide (r0.1 ≤ 23)) 3 r0.2.2 = e0
  have hA : (if hasA r0.1 then numbR r0.2.1 e0 else (0, r0.2.1, e0)).2.1.length ≤ r0.2.1.length := by
    split
    · exact numb_len _ _
    · exact Nat.le_refl _
  generalize (if hasA r0.1 then numbR r0.2.1 e0 else (0, r0.2.1, e0)) = rA at *
  have hB : (if hasB r0.1 then numbR rA.2.1 rA.2.2 else (0, rA.2.1, rA.2.2)).2.1.length ≤ rA.2.1.length := by
    split
    · exact numb_len _ _
    · exact Nat.le_refl _
  generalize (if hasB r0.1 then numbR rA.2.1 rA.2.2 else (0, rA.2.1, rA.2.2)) = rB at *
  have hN : (if hasS r0.1 then oneR rB.2.1 rB.2.2 else (0, rB.2.1, rB.2.2)).2.1.length ≤ rB.2.1.length := by
    split
    · exact one_len _ _
    · exact Nat.le_refl _
  generalize (if hasS r0.1 then oneR rB.2.1 rB.2.2 else (0, rB.2.1, rB.2.2)) = rN at *
  have hS : (if hasS r0.1 then textR rN.1.toNat rN.2.1 (askR (decide (rN.1 ≤ 40)) 3 rN.2.2) else (E, rN.2.1, rN.2.2)).2.1.length ≤ rN.2.1.length := by
    split
    · exact text_len _ _ _
    · exact Nat.le_refl _
  generalize (if hasS r0.1 then textR rN.1.toNat rN.2.1 (askR (decide (rN.1 ≤ 40)) 3 rN.2.2) else (E, rN.2.1, rN.2.2)) = rS at *
  omega

theorem conv_text {w : World} {p : Option Addr} {l : List UInt8} {c : Nat} (h : Bys w p l c) : (convert 34 9 (.slice p l.length c)).run Tryd.prog w = .ok (.string ⟨l.toArray⟩) w := by
  cases l with
  | nil =>
    rw [List.length_nil, run_convert_bytes_string w 34 9 5 _ 0 c Tryd.underlying34 Tryd.underlying5 Tryd.underlying9]
    cases p <;> simp [Conv.bytesToString, loadCells]
    all_goals rfl
  | cons b r =>
    obtain ⟨hl, h0 | ⟨bk, off, rfl, _, hc⟩⟩ := h
    · simp at hl; omega
    · refine run_convert_bytes_back w 34 9 5 ⟨bk, off, none⟩ c (b :: r) Tryd.underlying34 Tryd.underlying5 Tryd.underlying9 fun j hj => ?_
      have := hc j _ (List.getElem?_eq_getElem hj)
      unfold Addr.add
      by_cases j0 : j = 0
      · subst j0
        simpa using this
      · simpa [j0] using this
set_option maxRecDepth 100000 in
theorem At.set0 {w : World} {k : Nat} {o a b : Int} {s : ByteArray} (h : At w k 0 o a b s) (x : Int) : At (w.setCell ⟨k, 0, none⟩ (.int .i64 x)) k 0 x a b s := by
  obtain ⟨l, c0, c1, c2, c3, f⟩ := h
  simp at c1 c2 c3
  refine ⟨by simpa using l, ?_, ?_, ?_, ?_, fun i => ?_⟩ <;> simp [go_sem, c0, c1, c2, c3, f]
theorem At.set1 {w : World} {k : Nat} {o a b : Int} {s : ByteArray} (h : At w k 0 o a b s) (x : Int) : At (w.setCell ⟨k, 1, none⟩ (.int .i64 x)) k 0 o x b s := by
  obtain ⟨l, c0, c1, c2, c3, f⟩ := h
  simp at c1 c2 c3
  refine ⟨by simpa using l, ?_, ?_, ?_, ?_, fun i => ?_⟩ <;> simp [go_sem, c0, c1, c2, c3, f]
theorem At.set2 {w : World} {k : Nat} {o a b : Int} {s : ByteArray} (h : At w k 0 o a b s) (x : Int) : At (w.setCell ⟨k, 2, none⟩ (.int .i64 x)) k 0 o a x s := by
  obtain ⟨l, c0, c1, c2, c3, f⟩ := h
  simp at c1 c2 c3
  refine ⟨by simpa using l, ?_, ?_, ?_, ?_, fun i => ?_⟩ <;> simp [go_sem, c0, c1, c2, c3, f]
theorem At.set3 {w : World} {k : Nat} {o a b : Int} {s : ByteArray} (h : At w k 0 o a b s) (x : ByteArray) : At (w.setCell ⟨k, 3, none⟩ (.string x)) k 0 o a b x := by
  obtain ⟨l, c0, c1, c2, c3, f⟩ := h
  simp at c1 c2 c3
  refine ⟨by simpa using l, ?_, ?_, ?_, ?_, fun i => ?_⟩ <;> simp [go_sem, c0, c1, c2, c3, f]
/-- A store into a block of the call's own. -/
theorem Turn.own {X : Nat → Prop} {w w' : World} (h : Turn X w w') {b o : Nat} (hb : w.heap.size ≤ b) (x : Value) : Turn X w (w'.setCell ⟨b, o, none⟩ x) := by
  refine ⟨h.os, h.tape, h.output, by simpa using h.size, fun k hk hn => ?_⟩
  have hne : b ≠ k := by omega
  rw [← h.block k hk hn]
  simp [World.setCell, Array.getElem?_modify, hne]
/-- A call's own changes, seen from an older world. -/
theorem Turn.late {X Y : Nat → Prop} {w w1 w2 : World} (h : Turn X w w1) (k : Turn Y w1 w2) (hy : ∀ b, Y b → X b ∨ w.heap.size ≤ b) : Turn X w w2 :=
  ⟨k.os.trans h.os, k.tape.trans h.tape, k.output.trans h.output, Nat.le_trans h.size k.size, fun j hj hx => (k.block j (Nat.lt_of_lt_of_le hj h.size) fun e => by
    rcases hy j e with h1 | h1
    · exact hx h1
    · omega).trans (h.block j hj hx)⟩
set_option maxRecDepth 20000 in
theorem results_box {fn : Func} {p : Tmp} {tmps : Array Value} {k : Nat} {w : World} {o a b : Int} {s : ByteArray} {K : Ending → World → Prop} (h : fn.results = #[.cell p 23]) (hp : tmps.getD p undef = .pointer (some ⟨k, 0, none⟩)) (ha : At w k 0 o a b s)
    (hk : K (.returned (.agg #[.int .i64 o, .int .i64 a, .int .i64 b, .string s])) w) : bodyPost Tryd.prog fn K .ret ⟨tmps, []⟩ w := by
  refine bodyPost_ret ?_ rfl hk
  rw [results_cell h, hp]
  exact ha.load
end Go.Proofs.YtpeioflembhedaaDoor
