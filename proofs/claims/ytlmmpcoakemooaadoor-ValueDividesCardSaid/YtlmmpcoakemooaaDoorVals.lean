/-
  A value of the program as the model has it; the variables that hold one; what a function hands back out of its variable. No conditions.
-/
import Derived.Test.YtlmmpcoakemooaaDoorGrow
import Derived.Test.YtlmmpcoakemooaaDoorRows
import Derived.WalkKit
import Derived.WalkSpells
import Derived.Deep.Cut
import Derived.Laws.ResultCell
namespace Go.Proofs.YtlmmpcoakemooaaDoor
open Go.RowKit

theorem hid {p : Prop} (h : p) : Hid p := h

/-- A value of the program: its type, its number, its text. -/
def V (t n : Int) (s : ByteArray) : Value := .agg #[.int .i64 t, .int .i64 n, .string s]

theorem G.set {a w : World} (h : G a w) {p : Addr} (hp : a.heap.size ≤ p.block) (u : Value) : G a (w.setCell p u) := Below.setCell h hp u
theorem G.then {a b c : World} (h : G a b) (k : Hid (G b c)) : G a c := h.trans k.out

/-- The variable in block b holds a value; it is no memory that strings share. -/
structure At (w : World) (b : Nat) (t n : Int) (s : ByteArray) : Prop where
  lt : b < w.heap.size
  c0 : w.cell? ⟨b, 0, none⟩ = some (.int .i64 t)
  c1 : w.cell? ⟨b, 1, none⟩ = some (.int .i64 n)
  c2 : w.cell? ⟨b, 2, none⟩ = some (.string s)
  fr : ∀ o : Nat, w.frozen? ⟨b, o, none⟩ = false
theorem At.mono {w w' : World} {b : Nat} {t n : Int} {s : ByteArray} (h : At w b t n s) (hg : G w w') : At w' b t n s :=
  ⟨Nat.lt_of_lt_of_le h.lt hg.size, hg.cell h.c0, hg.cell h.c1, hg.cell h.c2, fun o => (Below.frozen hg h.lt).trans (h.fr o)⟩
theorem At.alloc (w : World) (t n : Int) (s : ByteArray) : At (w.alloc (.cells #[.int .i64 t, .int .i64 n, .string s] 24)) w.heap.size t n s := by
  refine ⟨by simp, ?_, ?_, ?_, fun o => ?_⟩ <;> simp [go_sem]
theorem At.more {w : World} {b : Nat} {t n : Int} {s : ByteArray} (h : At w b t n s) (o : Obj) : At (w.alloc o) b t n s := h.mono ((G.refl w).alloc o)
theorem At.set {w : World} {b : Nat} {t n : Int} {s : ByteArray} (h : At w b t n s) (t' n' : Int) (s' : ByteArray) :
    At (((w.setCell ⟨b, 0, none⟩ (.int .i64 t')).setCell ⟨b, 1, none⟩ (.int .i64 n')).setCell ⟨b, 2, none⟩ (.string s')) b t' n' s' := by
  obtain ⟨l, c0, c1, c2, f⟩ := h
  refine ⟨by simpa using l, ?_, ?_, ?_, fun o => ?_⟩ <;> simp [go_sem, c0, c1, c2, f]

theorem At.load {w : World} {b : Nat} {t n : Int} {s : ByteArray} (h : At w b t n s) : (loadVar 24 ⟨b, 0, none⟩).run Tryd.prog w = .ok (V t n s) w := by
  obtain ⟨l, c0, c1, c2, f⟩ := h
  simp [go_sem, c0, c1, c2, V]

theorem At.new2 (w : World) (o : Obj) (t n : Int) (s : ByteArray) : At ((w.alloc o).alloc (.cells #[.int .i64 t, .int .i64 n, .string s] 24)) (w.heap.size + 1) t n s := by
  have h := At.alloc (w.alloc o) t n s
  simpa using h
theorem At.new3 (w : World) (o p : Obj) (t n : Int) (s : ByteArray) : At (((w.alloc o).alloc p).alloc (.cells #[.int .i64 t, .int .i64 n, .string s] 24)) (w.heap.size + 2) t n s := by
  have h := At.alloc ((w.alloc o).alloc p) t n s
  simpa using h
theorem At.after {w w1 : World} {t n : Int} {s : ByteArray} (h : G (w.alloc (.cells #[.int .i64 t, .int .i64 n, .string s] 24)) w1) : At w1 w.heap.size t n s := (At.alloc _ _ _ _).mono h
theorem At.after2 {w w1 : World} {o : Obj} {t n : Int} {s : ByteArray} (h : G ((w.alloc o).alloc (.cells #[.int .i64 t, .int .i64 n, .string s] 24)) w1) : At w1 (w.heap.size + 1) t n s := (At.new2 _ _ _ _ _).mono h
theorem At.after3 {w w1 : World} {o p : Obj} {t n : Int} {s : ByteArray} (h : G (((w.alloc o).alloc p).alloc (.cells #[.int .i64 t, .int .i64 n, .string s] 24)) w1) : At w1 (w.heap.size + 2) t n s := (At.new3 _ _ _ _ _ _).mono h

theorem results_cell {fn : Func} {p : Tmp} {ty : TypeId} (h : fn.results = #[.cell p ty]) (tmps : Array Value) (P : Program) (w : World) :
    (results fn tmps).run P w = ((asAddr (tmps.getD p undef)).run P w).andThen fun a w₁ => (loadVar ty a).run P w₁ := by
  simp only [results, h]
  simp [Sem.run_bind, Result.andThen]

theorem addr_run (w : World) (a : Addr) : (asAddr (.pointer (some a))).run Tryd.prog w = .ok a w := rfl

theorem ret1 {fn : Func} {p : Tmp} (h : fn.results = #[.cell p 24]) {tmps : Array Value} {b : Nat} (hp : tmps.getD p undef = .pointer (some ⟨b, 0, none⟩)) {w : World} {t n : Int} {s : ByteArray} (ha : At w b t n s) :
    (results fn tmps).run Tryd.prog w = .ok (V t n s) w := by
  rw [results_cell h, hp, addr_run]
  exact ha.load
theorem ret2 {fn : Func} {p u : Tmp} (h : fn.results = #[.cell p 24, .tmp u]) {tmps : Array Value} {b : Nat} (hp : tmps.getD p undef = .pointer (some ⟨b, 0, none⟩)) {v : Value} (hu : tmps.getD u undef = v) {w : World} {t n : Int} {s : ByteArray} (ha : At w b t n s) :
    (results fn tmps).run Tryd.prog w = .ok (.tuple #[V t n s, v]) w := by
  rw [results_cell_tmp h, hp, hu, addr_run]
  show ((loadVar 24 _).run Tryd.prog w).andThen _ = _
  rw [ha.load]
  rfl
theorem post1 {fn : Func} {p : Tmp} {tmps : Array Value} {b : Nat} {w : World} {t n : Int} {s : ByteArray} {K : Ending → World → Prop} (h : fn.results = #[.cell p 24]) (hp : tmps.getD p undef = .pointer (some ⟨b, 0, none⟩)) (ha : At w b t n s)
    (hk : K (.returned (V t n s)) w) : bodyPost Tryd.prog fn K .ret ⟨tmps, []⟩ w := bodyPost_ret (ret1 h hp ha) rfl hk
theorem post2 {fn : Func} {p u : Tmp} {tmps : Array Value} {b : Nat} {w : World} {t n : Int} {s : ByteArray} {v : Value} {K : Ending → World → Prop} (h : fn.results = #[.cell p 24, .tmp u]) (hp : tmps.getD p undef = .pointer (some ⟨b, 0, none⟩)) (hu : tmps.getD u undef = v)
    (ha : At w b t n s) (hk : K (.returned (.tuple #[V t n s, v])) w) : bodyPost Tryd.prog fn K .ret ⟨tmps, []⟩ w := bodyPost_ret (ret2 h hp hu ha) rfl hk
end Go.Proofs.YtlmmpcoakemooaaDoor
