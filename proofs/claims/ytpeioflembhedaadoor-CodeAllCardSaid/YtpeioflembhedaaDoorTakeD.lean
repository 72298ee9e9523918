/-
  What Take gives, in plain Lean; the single operations of its regions. No conditions.
-/
import Derived.Test.YtpeioflembhedaaDoorInstr
import Derived.Test.YtpeioflembhedaaDoorPures
namespace Go.Proofs.YtpeioflembhedaaDoor
open Go.RowKit

def entsT : Nat → List UInt8 → Int → List Int × List UInt8 × Int
  | 0, l, e => ([], l, e)
  | n + 1, l, e => if e = 0 then ((numbR l e).1 :: (entsT n (numbR l e).2.1 (numbR l e).2.2).1, (entsT n (numbR l e).2.1 (numbR l e).2.2).2) else ([], l, e)
def inssT : Nat → List UInt8 → Int → List I × List UInt8 × Int
  | 0, l, e => ([], l, e)
  | n + 1, l, e => if e = 0 then ((insT l e).1 :: (inssT n (insT l e).2.1 (insT l e).2.2).1, (inssT n (insT l e).2.1 (insT l e).2.2).2) else ([], l, e)
theorem entsT_bad (n : Nat) (l : List UInt8) (e : Int) (h : e ≠ 0) : entsT n l e = ([], l, e) := by
  cases n with
  | zero => rfl
  | succ n => simp [entsT, h]
theorem inssT_bad (n : Nat) (l : List UInt8) (e : Int) (h : e ≠ 0) : inssT n l e = ([], l, e) := by
  cases n with
  | zero => rfl
  | succ n => simp [inssT, h]
/-- An entry beyond the number of instructions. -/
def entOver (m : Int) (n : Int) : Bool := decide (n < 0) || decide (m < n)
/-- What Take answers. -/
def takeR (l : List UInt8) : (List Int × List I) × Int :=
  let r1 := oneR l 0
  let t := entsT r1.1.toNat r1.2.1 (askR (decide (r1.1 ≤ 6)) 3 r1.2.2)
  let r2 := numbR t.2.1 t.2.2
  let u := inssT r2.1.toNat r2.2.1 (askR (decide (0 ≤ r2.1) && decide (r2.1 ≤ 1200) && !t.1.any (entOver r2.1)) 3 r2.2.2)
  let e3 := askR (decide (u.2.1.length = 0)) 3 u.2.2
  if e3 = 0 then ((t.1, u.1), 0) else (([], []), e3)

/-- Ints as cells. -/
def ints (es : List Int) : List Value := es.map (.int .i64)
theorem ints_length (es : List Int) : (ints es).length = es.length := by simp [ints]
theorem info3 : ∃ i, Tryd.prog.info? 3 = some i ∧ i.zero = some (.int .i64 0) ∧ i.size = 1 ∧ i.bytes = 8 :=
  ⟨(Tryd.prog.info? 3).get (by kernel_rfl), by kernel_rfl, by kernel_rfl, by kernel_rfl, by kernel_rfl⟩
section
variable {ops : Array Oper} {a : Act} {w : World} {o : Oper}
theorem eff_build_int {x : Operand} {c : Int} {Φ : Post} (h : o.op = .buildSlice 26 1 #[(0, x)]) (hx : a.eval x = .int .i64 c) (hv : Φ (.slice (some ⟨w.heap.size, 0, none⟩) 1 1) (w.alloc (.cells #[.int .i64 c] 3))) : effAt Tryd.prog o a w Φ := by
  refine eff_run (v := .slice (some ⟨w.heap.size, 0, none⟩) 1 1) (w' := w.alloc (.cells #[.int .i64 c] 3)) ?_ hv
  have e1 : (#[(0, x)] : Array (Nat × Operand)).map (fun (i, y) => (i, a.eval y)) = #[(0, .int .i64 c)] := by simp [hx]
  unfold execOp
  rw [h]
  simp only [e1]
  simp [go_sem]
theorem eff_build_ins {x : Operand} {i : I} {Φ : Post} (h : o.op = .buildSlice 25 1 #[(0, x)]) (hx : a.eval x = .agg #[.int .i64 i.1, .int .i64 i.2.1, .int .i64 i.2.2.1, .string i.2.2.2])
    (hv : Φ (.slice (some ⟨w.heap.size, 0, none⟩) 1 1) (w.alloc (.cells #[.int .i64 i.1, .int .i64 i.2.1, .int .i64 i.2.2.1, .string i.2.2.2] 23))) : effAt Tryd.prog o a w Φ := by
  refine eff_run (v := .slice (some ⟨w.heap.size, 0, none⟩) 1 1) (w' := w.alloc (.cells #[.int .i64 i.1, .int .i64 i.2.1, .int .i64 i.2.2.1, .string i.2.2.2] 23)) ?_ hv
  have e1 : (#[(0, x)] : Array (Nat × Operand)).map (fun (i, y) => (i, a.eval y)) = #[(0, .agg #[.int .i64 i.1, .int .i64 i.2.1, .int .i64 i.2.2.1, .string i.2.2.2])] := by simp [hx]
  unfold execOp
  rw [h]
  simp only [e1]
  simp [go_sem]
theorem eff_store26 {x y : Operand} {b : Nat} {v u t : Value} {Φ : Post} (h : o.op = .store 26 x y) (ha : Var w b t u) (hx : a.eval x = .pointer (some ⟨b, 1, none⟩)) (hy : a.eval y = v) (hs : v = .slice none 0 0 ∨ ∃ g n c, v = .slice (some ⟨g, 0, none⟩) n c)
    (hv : Φ undef (w.setCell ⟨b, 1, none⟩ v)) : effAt Tryd.prog o a w Φ := by
  obtain ⟨l, c0, c1, f⟩ := ha
  have f0 := f 1
  rcases hs with rfl | ⟨g, n, c, rfl⟩
  all_goals (
    refine eff_skip (w' := w.setCell ⟨b, 1, none⟩ _) ?_ hv
    unfold execOp
    rw [h]
    simp only [hx, hy]
    simp [go_sem, c0, c1, f0])
theorem eff_store25 {x y : Operand} {b : Nat} {v u t : Value} {Φ : Post} (h : o.op = .store 25 x y) (ha : Var w b t u) (hx : a.eval x = .pointer (some ⟨b, 0, none⟩)) (hy : a.eval y = v) (hs : v = .slice none 0 0 ∨ ∃ g n c, v = .slice (some ⟨g, 0, none⟩) n c)
    (hv : Φ undef (w.setCell ⟨b, 0, none⟩ v)) : effAt Tryd.prog o a w Φ := by
  obtain ⟨l, c0, c1, f⟩ := ha
  have f0 := f 0
  rcases hs with rfl | ⟨g, n, c, rfl⟩
  all_goals (
    refine eff_skip (w' := w.setCell ⟨b, 0, none⟩ _) ?_ hv
    unfold execOp
    rw [h]
    simp only [hx, hy]
    simp [go_sem, c0, c1, f0])
theorem eff_store28 {x y : Operand} {b : Nat} {v1 v2 u t : Value} {Φ : Post} (h : o.op = .store 28 x y) (ha : Var w b t u) (hx : a.eval x = .pointer (some ⟨b, 0, none⟩)) (hy : a.eval y = .agg #[v1, v2]) (hs : v1 = .slice none 0 0) (hs2 : v2 = .slice none 0 0)
    (hv : Φ undef ((w.setCell ⟨b, 0, none⟩ v1).setCell ⟨b, 1, none⟩ v2)) : effAt Tryd.prog o a w Φ := by
  obtain ⟨l, c0, c1, f⟩ := ha
  have f0 := f 0
  have f1 := f 1
  subst hs hs2
  refine eff_skip (w' := (w.setCell ⟨b, 0, none⟩ _).setCell ⟨b, 1, none⟩ _) ?_ hv
  unfold execOp
  rw [h]
  simp only [hx, hy]
  simp [go_sem, c0, c1, f0, f1]
theorem pure_build28 (hw : Region.wanted o (yielded ops a.tmps) = true) (h : o.op = .build 28 #[]) : pureAt Tryd.prog ops o a w (.agg #[.slice none 0 0, .slice none 0 0]) := by
  refine pure_run hw ?_
  unfold execOp
  rw [h]
  simp [go_sem]
theorem pure_nilcheck {x : Operand} {ad : Addr} (hw : Region.wanted o (yielded ops a.tmps) = true) (h : o.op = .nilCheck x) (hx : a.eval x = .pointer (some ad)) : pureAt Tryd.prog ops o a w (.pointer (some ad)) := by
  refine pure_run hw ?_
  unfold execOp
  rw [h]
  simp only [hx]
  simp [go_sem]
theorem pure_addr57 {x : Operand} {k b : Nat} (hw : Region.wanted o (yielded ops a.tmps) = true) (h : o.op = .fieldAddr 57 x k) (hk : k < 2) (hx : a.eval x = .pointer (some ⟨b, 0, none⟩)) : pureAt Tryd.prog ops o a w (.pointer (some ⟨b, k, none⟩)) := by
  refine pure_run hw ?_
  unfold execOp
  rw [h]
  simp only [hx]
  rcases (show k = 0 ∨ k = 1 by omega) with rfl | rfl <;> simp [go_sem]
theorem pure_load35 {x : Operand} {b k : Nat} {c : Int} (hw : Region.wanted o (yielded ops a.tmps) = true) (h : o.op = .load 35 x) (hx : a.eval x = .pointer (some ⟨b, k, none⟩)) (hc : w.cell? ⟨b, k, none⟩ = some (.int .i64 c)) : pureAt Tryd.prog ops o a w (.int .i64 c) := by
  refine pure_run hw ?_
  unfold execOp
  rw [h]
  simp only [hx]
  simp [go_sem, hc]
end
theorem results_cell_tmp {fn : Func} {p u : Tmp} {ty : TypeId} (h : fn.results = #[.cell p ty, .tmp u]) (tmps : Array Value) (P : Program) (w : World) :
    (results fn tmps).run P w = ((asAddr (tmps.getD p undef)).run P w).andThen fun a w₁ => ((loadVar ty a).run P w₁).andThen fun x w₂ => .ok (.tuple #[x, tmps.getD u undef]) w₂ := by
  simp only [results, h]
  simp [Sem.run_bind, Result.andThen]
set_option maxRecDepth 20000 in
theorem post_code2 {fn : Func} {p u : Tmp} {tmps : Array Value} {b : Nat} {w : World} {x y e : Value} {K : Ending → World → Prop} (h : fn.results = #[.cell p 28, .tmp u]) (hp : tmps.getD p undef = .pointer (some ⟨b, 0, none⟩)) (hu : tmps.getD u undef = e) (ha : Var w b x y)
    (hk : K (.returned (.tuple #[.agg #[x, y], e])) w) : bodyPost Tryd.prog fn K .ret ⟨tmps, []⟩ w := by
  refine bodyPost_ret ?_ rfl hk
  rw [results_cell_tmp h, hp, hu]
  show ((loadVar 28 _).run Tryd.prog w).andThen _ = _
  rw [ha.load]
  rfl
theorem getD_eval (a : Act) (t : Tmp) : a.tmps.getD t undef = a.eval (.tmp t) := by
  simp only [Act.eval, Array.getD_eq_getD_getElem?]
theorem post_code2a {fn : Func} {p u : Tmp} {a : Act} {b : Nat} {w : World} {x y e : Value} {K : Ending → World → Prop} (h : fn.results = #[.cell p 28, .tmp u]) (hd : a.defers = []) (hp : a.eval (.tmp p) = .pointer (some ⟨b, 0, none⟩)) (hu : a.eval (.tmp u) = e) (ha : Var w b x y)
    (hk : K (.returned (.tuple #[.agg #[x, y], e])) w) : bodyPost Tryd.prog fn K .ret a w := by
  cases a with
  | mk tmps defers =>
    simp only at hd
    subst hd
    exact post_code2 h ((getD_eval _ _).trans hp) ((getD_eval _ _).trans hu) ha hk
set_option maxRecDepth 100000 in
theorem over_any (n m : Int) (lb : Nat) (w : World) (hv : w.cell? ⟨lb, 0, none⟩ = some (.int .i64 m)) :
    Calls Tryd.prog 39 #[.int .i64 n, .pointer (some ⟨lb, 0, none⟩)] w fun e w' => e = .returned (.bool (entOver m n)) ∧ w = w' := by
  unfold entOver
  rcases (show n < 0 ∨ (0 ≤ n ∧ m < n) ∨ (0 ≤ n ∧ ¬ m < n) by omega) with h | ⟨h, h2⟩ | ⟨h, h2⟩
  all_goals (
    go_enter Tryd.func39, Tryd.ntmps39
    go_wp2_with fail
    go_ret
    refine ⟨?_, rfl⟩)
  · simp [h]
  · simp [h2]
  · have h3 : ¬ n < 0 := by omega
    simp [h2, h3]
theorem contains_over {w : World} {B : Nat} {ve : Value} {es : List Int} (ho : w.ownsRow B 3 1 ve es.length (ints es)) (lb : Nat) (m : Int) (hn : es.length ≤ 1000000) (hv : w.cell? ⟨lb, 0, none⟩ = some (.int .i64 m)) {y : Bool} (hy : es.any (entOver m) = y) :
    Calls Tryd.prog 26 #[ve, .func (.func 39) #[] #[.pointer (some ⟨lb, 0, none⟩)]] w fun e w' => e = .returned (.bool y) ∧ G w w' := by
  subst hy
  rcases own_form ho with ⟨rfl, h0⟩ | ⟨g, c, rfl, _, _, _⟩
  · have : es = [] := List.eq_nil_of_length_eq_zero h0
    subst this
    refine (Tryd.slices_ContainsFunc_empty (α := Int) none 0 _ w).mono ?_
    rintro e w' ⟨rfl, rfl⟩
    exact ⟨rfl, G.refl _⟩
  · have hc := own_cells ho
    refine (Tryd.slices_ContainsFunc (fun n : Int => .int .i64 n) (entOver m) 39 #[.pointer (some ⟨lb, 0, none⟩)] Tryd.call39 g 0 es.length c es w ?_ (Nat.le_refl _) (by omega) ?_).mono ?_
    · intro W x hb
      refine (over_any x m lb W (G.cell (w := w) hb hv)).mono ?_
      rintro e w' ⟨rfl, rfl⟩
      exact ⟨rfl, 0, rfl⟩
    · intro j hj
      have h1 : (ints es)[j]? = some (.int .i64 es[j]) := by simp [ints, hj]
      have h2 := hc j _ h1
      rw [add_off] at h2
      rw [Nat.zero_add, h2, getElem!_pos es j hj]
    · rintro e w' ⟨rfl, q2, rfl⟩
      refine ⟨by rw [List.take_length], G.drawn w _⟩
end Go.Proofs.YtpeioflembhedaaDoor
