/-
  Single operations of a region's chain: a call, an append to a row of the call's own, a store, a new row; and of its free operations: loads and addresses. No conditions.
-/
import Derived.Test.YtpeioflembhedaaDoorFlow
import Derived.Test.YtpeioflembhedaaDoorSays
import Derived.Test.YtpeioflembhedaaDoorBytes
namespace Go.Proofs.YtpeioflembhedaaDoor
open Go.RowKit
section
variable {P : Program} {ops : Array Oper} {a : Act} {w : World}
theorem eff_run {o : Oper} {v : Value} {w' : World} {Φ : Post} (h : (execOp a.eval o).run P w = .ok (.value v) w') (hv : Φ v w') : effAt P o a w Φ := by
  intro K Q hk
  unfold Oper.wp
  rw [h]
  exact hk _ _ hv
theorem eff_skip {o : Oper} {w' : World} {Φ : Post} (h : (execOp a.eval o).run P w = .ok .skip w') (hv : Φ undef w') : effAt P o a w Φ := by
  intro K Q hk
  unfold Oper.wp
  rw [h]
  exact hk _ _ hv
theorem eff_call {dst : Option Tmp} {f : FuncId} {xs : Array Operand} {ats : Array TypeId} {ty : TypeId} {pos : String} {after : Array Edge} {guard : Option (Nat × Bool)} {Φ : Post} (hcall : ∀ args w, (callFunc f args).run P w = .ok (.enter f args) w)
    (args : Array Value) (hargs : xs.map a.eval = args) (hc : Calls P f args w (fun e w'' => ∃ v, e = .returned v ∧ Φ v w'')) :
    effAt P { dst, op := .call { callee := .value (.func f), args := xs, argTypes := ats }, type := ty, pos, after, guard } a w Φ := by
  intro K Q hk
  unfold Oper.wp
  rw [execOp_call_go, hargs, hcall]
  simp only [Oper.upon, Array.empty_append, Array.append_empty]
  refine hc.mono ?_
  rintro e w'' ⟨v, rfl, h⟩
  exact hk _ _ h
theorem eff_append {o : Oper} (s x : Operand) (t : TypeId)
    (ho : o.op = .call { callee := .builtin .append, args := #[s, x], argTypes := #[t, t] })
    (base : Nat) (e : TypeId) (i : TypeInfo) (z : Value) (size bytes : Nat) (ht : P.underlying t = some (.slice e)) (hi : P.info? e = some i) (hz : i.zero = some z)
    (hsize : i.size = size) (hby : i.bytes = bytes) (hzs : z.cells.size = size) (hsz : 0 < size)
    (v : Value) (n : Nat) (xs : List Value) (hs : a.eval s = v) (hown : w.ownsRow base e size v n xs)
    (ad : Addr) (m c : Nat) (news : List Value) (hx : a.eval x = .slice (some ad) m c) (hl : news.length = m * size) (hnews : ∀ j u, news[j]? = some u → w.cell? (ad.add j) = some u) (h1 : ∀ u ∈ news, u.oneCell' = true)
    (h63 : n + m ≤ maxLen) (hbytes : (n + m) * bytes ≤ 140737488355328) (hbase : base ≤ w.heap.size) {Φ : Post}
    (h : ∀ v' w', w'.ownsRow base e size v' (n + m) (xs ++ news) → w.grownBy w' v.ownBlock → Φ v' w') : effAt P o a w Φ :=
  fun _ _ hk => wp_append_own w s x t ho base e i z size bytes ht hi hz hsize hby hzs hsz v n xs hs hown ad m c news hx hl hnews h1 h63 hbytes hbase fun v' w' h2 h3 _ => hk _ _ (h v' w' h2 h3)
theorem pure_run {o : Oper} {c : Value} (hw : Region.wanted o (yielded ops a.tmps) = true) (h : (execOp a.eval o).run P w = .ok (.value c) w) : pureAt P ops o a w c := .inl ⟨hw, h⟩
theorem pure_move {o : Oper} {x : Operand} {c : Value} (hw : Region.wanted o (yielded ops a.tmps) = true) (h : o.op = .move x) (hv : a.eval x = c) : pureAt P ops o a w c :=
  pure_run hw (by unfold execOp; rw [h]; subst hv; rfl)
end
/-- A variable of one cell. -/
structure One (w : World) (b : Nat) (v : Value) : Prop where
  lt : b < w.heap.size
  c0 : w.cell? ⟨b, 0, none⟩ = some v
  fr : ∀ i : Nat, w.frozen? ⟨b, i, none⟩ = false
theorem One.mono {w w' : World} {b : Nat} {v : Value} (h : One w b v) (hg : G w w') : One w' b v :=
  ⟨Nat.lt_of_lt_of_le h.lt hg.size, hg.cell h.c0, fun i => (Below.frozen hg h.lt).trans (h.fr i)⟩
theorem One.turned {w w' : World} {b : Nat} {v : Value} {row : Option Nat} (h : One w b v) (hg : w.grownBy w' row) (hne : ∀ j, row = some j → j ≠ b) : One w' b v := by
  have hr : some b ≠ row := fun e => hne b e.symm rfl
  have hb := hg.block b h.lt hr
  exact ⟨Nat.lt_of_lt_of_le h.lt hg.size, (World.cell?_of_block hb).trans h.c0, fun i => (World.frozen?_of_block hb).trans (h.fr i)⟩
theorem One.set {w : World} {b : Nat} {v : Value} (h : One w b v) (x : Value) : One (w.setCell ⟨b, 0, none⟩ x) b x := by
  obtain ⟨l, c0, f⟩ := h
  refine ⟨by simpa using l, ?_, fun i => ?_⟩ <;> simp [go_sem, c0, f]
theorem One.keep {w : World} {b c o : Nat} {v : Value} (h : One w b v) (hne : b ≠ c) (x : Value) : One (w.setCell ⟨c, o, none⟩ x) b v := by
  obtain ⟨l, c0, f⟩ := h
  refine ⟨by simpa using l, ?_, fun i => ?_⟩ <;> simp [go_sem, c0, f, hne]

/-- Nothing but the blocks that X names has turned. -/
structure Turn (X : Nat → Prop) (w w' : World) : Prop where
  os : w'.os = w.os
  tape : w'.tape = w.tape
  output : w'.output = w.output
  size : w.heap.size ≤ w'.heap.size
  block : ∀ k, k < w.heap.size → ¬ X k → w'.heap[k]? = w.heap[k]?
theorem Turn.refl (X : Nat → Prop) (w : World) : Turn X w w := ⟨rfl, rfl, rfl, Nat.le_refl _, fun _ _ _ => rfl⟩
theorem Turn.trans {X : Nat → Prop} {a b c : World} (h : Turn X a b) (k : Turn X b c) : Turn X a c :=
  ⟨k.os.trans h.os, k.tape.trans h.tape, k.output.trans h.output, Nat.le_trans h.size k.size, fun j hj hx => (k.block j (Nat.lt_of_lt_of_le hj h.size) hx).trans (h.block j hj hx)⟩
theorem Turn.weak {X Y : Nat → Prop} {a b : World} (h : Turn X a b) (hxy : ∀ k, k < a.heap.size → X k → Y k) : Turn Y a b :=
  ⟨h.os, h.tape, h.output, h.size, fun j hj hx => h.block j hj fun e => hx (hxy j hj e)⟩
theorem Turn.of {X : Nat → Prop} {a b : World} (h : G a b) : Turn X a b := ⟨h.os, h.tape, h.output, h.size, fun k hk _ => h.block k hk⟩
theorem Turn.grown {X : Nat → Prop} {a b : World} {row : Option Nat} (h : a.grownBy b row) (hx : ∀ k, row = some k → X k) : Turn X a b :=
  ⟨h.os, h.tape, h.output, h.size, fun k hk hn => h.block k hk fun e => hn (hx k e.symm)⟩
theorem Turn.set {X : Nat → Prop} (w : World) {b o : Nat} (hx : X b) (x : Value) : Turn X w (w.setCell ⟨b, o, none⟩ x) := by
  refine ⟨rfl, rfl, rfl, by simp, fun k hk hn => ?_⟩
  have hne : b ≠ k := fun e => hn (e ▸ hx)
  simp [World.setCell, Array.getElem?_modify, hne]
theorem Turn.G {X : Nat → Prop} {a w w' : World} (h : Turn X w w') (hg : G a w) (hx : ∀ k, X k → a.heap.size ≤ k) : G a w' :=
  ⟨h.os.trans hg.os, h.tape.trans hg.tape, h.output.trans hg.output, Nat.le_trans hg.size h.size, fun k hk => (h.block k (Nat.lt_of_lt_of_le hk hg.size) fun e => by have := hx k e; omega).trans (hg.block k hk)⟩
theorem One.turn {X : Nat → Prop} {w w' : World} {b : Nat} {v : Value} (h : One w b v) (hg : Turn X w w') (hne : ¬ X b) : One w' b v := by
  have hb := hg.block b h.lt hne
  exact ⟨Nat.lt_of_lt_of_le h.lt hg.size, (World.cell?_of_block hb).trans h.c0, fun i => (World.frozen?_of_block hb).trans (h.fr i)⟩
theorem Var.turn {X : Nat → Prop} {w w' : World} {b : Nat} {u v : Value} (h : Var w b u v) (hg : Turn X w w') (hne : ¬ X b) : Var w' b u v := by
  have hb := hg.block b h.lt hne
  exact ⟨Nat.lt_of_lt_of_le h.lt hg.size, (World.cell?_of_block hb).trans h.c0, (World.cell?_of_block hb).trans h.c1, fun i => (World.frozen?_of_block hb).trans (h.fr i)⟩
theorem At.turn {X : Nat → Prop} {w w' : World} {k f : Nat} {o a b : Int} {s : ByteArray} (h : At w k f o a b s) (hg : Turn X w w') (hne : ¬ X k) : At w' k f o a b s := by
  have hb := hg.block k h.lt hne
  exact ⟨Nat.lt_of_lt_of_le h.lt hg.size, (World.cell?_of_block hb).trans h.c0, (World.cell?_of_block hb).trans h.c1, (World.cell?_of_block hb).trans h.c2, (World.cell?_of_block hb).trans h.c3, fun i => (World.frozen?_of_block hb).trans (h.fr i)⟩
theorem own_g {w w' : World} {B n e s : Nat} {v : Value} {xs : List Value} (h : w.ownsRow B e s v n xs) (k : G w w') : w'.ownsRow B e s v n xs := h.kept k.turned (by cases v.ownBlock <;> simp)
theorem own_cells {w : World} {B n e s g c : Nat} {xs : List Value} (h : w.ownsRow B e s (.slice (some ⟨g, 0, none⟩) n c) n xs) : ∀ j u, xs[j]? = some u → w.cell? ((⟨g, 0, none⟩ : Addr).add j) = some u := h.cells rfl
theorem bys_one (l : List UInt8) : ∀ u ∈ bys l, u.oneCell' = true := by
  intro u hu
  simp only [bys, List.mem_map] at hu
  obtain ⟨b, _, rfl⟩ := hu
  rfl
/-- The writing operations' own equations. -/
theorem eff_store34 {o : Oper} {a : Act} {w : World} {x y : Operand} {b : Nat} {v u : Value} {Φ : Post} (h : o.op = .store 34 x y) (ha : One w b u) (hx : a.eval x = .pointer (some ⟨b, 0, none⟩)) (hy : a.eval y = v) (hs : v = .slice none 0 0 ∨ ∃ g n c, v = .slice (some ⟨g, 0, none⟩) n c)
    (hv : Φ undef (w.setCell ⟨b, 0, none⟩ v)) : effAt Tryd.prog o a w Φ := by
  obtain ⟨l, c0, f⟩ := ha
  have f0 := f 0
  rcases hs with rfl | ⟨g, n, c, rfl⟩
  all_goals (
    refine eff_skip (w' := w.setCell ⟨b, 0, none⟩ _) ?_ hv
    unfold execOp
    rw [h]
    simp only [hx, hy]
    simp [go_sem, c0, f0])
theorem pure_load34 {ops : Array Oper} {o : Oper} {a : Act} {w : World} {x : Operand} {b : Nat} {v : Value} (hw : Region.wanted o (yielded ops a.tmps) = true) (h : o.op = .load 34 x) (ha : One w b v) (hx : a.eval x = .pointer (some ⟨b, 0, none⟩)) : pureAt Tryd.prog ops o a w v := by
  refine pure_run hw ?_
  obtain ⟨l, c0, f⟩ := ha
  unfold execOp
  rw [h]
  simp only [hx]
  simp [go_sem, c0]
end Go.Proofs.YtpeioflembhedaaDoor
