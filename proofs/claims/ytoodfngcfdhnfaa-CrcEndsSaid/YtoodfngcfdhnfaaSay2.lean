/-
  The contracts of the check's functions in the form in which regions and walks take them. No conditions.
-/
import Derived.Test.YtoodfngcfdhnfaaTake
namespace Go.Proofs.Ytoodfngcfdhnfaa
open Go.RowKit Go.Proofs.Ytoodfngcfdhnfaa.Crc

theorem IsRow.bytes {ns : List Nat} {v : Value} {w : World} (h : IsRow ns v w) : Bytes ns := let ⟨_, _, _, _, hr⟩ := h; hr.bytes

theorem go_say {n : Nat} {u v : Value} {ns : List Nat} {w : World} (hu : u = .int .u32 (n : Int)) (hv : IsRow ns v w) (hn : n < 4294967296) (hlen : ns.length ≤ 100000) :
    Calls Try.prog 13 #[u, v] w fun e w' => ∃ x, e = .returned x ∧ G w w' ∧ x = .int .u32 ((go n ns : Nat) : Int) := by
  obtain ⟨p, c, rfl, _, hr⟩ := hv
  subst hu
  exact (go_any n p c ns w hn hr (by omega)).mono fun e w' ⟨he, hg⟩ => ⟨_, he, hg, rfl⟩
theorem rgo_say {n : Nat} {u v : Value} {ns : List Nat} {w : World} (hu : u = .int .u32 (n : Int)) (hv : IsRow ns v w) (hn : n < 4294967296) (hlen : ns.length ≤ 100000) :
    Calls Try.prog 14 #[u, v] w fun e w' => ∃ x, e = .returned x ∧ G w w' ∧ x = .int .u32 ((go n ns : Nat) : Int) := by
  obtain ⟨p, c, rfl, _, hr⟩ := hv
  subst hu
  exact (rgo_any n p c ns w hn hr (by omega)).mono fun e w' ⟨he, hw⟩ => ⟨_, he, hw ▸ G.refl _, rfl⟩
theorem of_say {v : Value} {ns : List Nat} {w : World} (hv : IsRow ns v w) (hlen : ns.length ≤ 100000) :
    Calls Try.prog 10 #[v] w fun e w' => ∃ x, e = .returned x ∧ G w w' ∧ x = .int .u32 ((go 0 ns : Nat) : Int) := by
  obtain ⟨p, c, rfl, _, hr⟩ := hv
  exact (of_any p c ns w hr (by omega)).mono fun e w' ⟨he, hg⟩ => ⟨_, he, hg, rfl⟩
theorem put_say {ns : List Nat} {v : Value} {w : World} (hv : IsRow ns v w) (hlen : ns.length ≤ 100000) :
    Calls Try.prog 15 #[v] w fun e w' => ∃ u, e = .returned u ∧ G w w' ∧ IsRow (put ns) u w' := by
  obtain ⟨p, c, rfl, _, hr⟩ := hv
  exact (put_any p c ns w hr hlen).mono fun e w' ⟨u, he, ho, hg⟩ => ⟨u, he, hg, owns_isRow (put_bytes hr.bytes) ho⟩
theorem short_say {ns : List Nat} {v : Value} {w : World} (hv : IsRow ns v w) :
    Calls Try.prog 9 #[v] w fun e w' => ∃ p c, e = .returned (.slice p (ns.take 2000).length c) ∧ c ≤ maxLen ∧ RowAt w p c (ns.take 2000) ∧ w = w' := by
  obtain ⟨p, c, rfl, hc, hr⟩ := hv
  exact (short_any p c ns w hr hc).mono fun e w' ⟨q, he, h, hw⟩ => ⟨q, c, he, hc, h, hw⟩
theorem short_len (ns : List Nat) : (ns.take 2000).length ≤ 2000 := List.length_take_le _ _
theorem taken_bytes {ns : List Nat} (h : Bytes ns) : Bytes (taken ns) := by
  unfold taken
  split
  · exact bytes_take h _
  · intro b hb; cases hb

theorem put_cut (b : List Nat) : (put b).take ((put b).length - 4) = b ∧ (put b).drop ((put b).length - 4) = le4 (go 0 b) := by
  rw [put_length, show b.length + 4 - 4 = b.length by omega]
  unfold put
  exact ⟨List.take_left, List.drop_left⟩
theorem take_put (b : List Nat) : okB (put b) = true := by
  unfold okB
  rw [(put_cut b).1, (put_cut b).2, put_length]
  simp
theorem taken_put (b : List Nat) : taken (put b) = b := by
  unfold taken
  rw [take_put, if_pos rfl, (put_cut b).1]

theorem grow_len {a : Act} {w : World} {dst : Option Tmp} {x : Operand} {ty : TypeId} {pos : String} {after : Array Edge} {guard : Option (Nat × Bool)} {Ψ : Post} {p : Option Addr} {n c : Nat} (hx : a.eval x = .slice p n c) (hv : Ψ (.int .i64 (n : Int)) w) :
    growAt Try.prog { dst, op := .call { callee := .builtin .len, args := #[x], argTypes := #[22] }, type := ty, pos, after, guard } a w Ψ := by
  refine grow_run ?_ hv
  have e : (#[x] : Array Operand).map a.eval = #[.slice p n c] := by simp only [List.map_toArray, List.map_cons, List.map_nil, hx]
  rw [BigFrame.execOp_builtin, e]
  simp [go_sem]
theorem owns_one (w : World) (k : Int) (n : Nat) (h : k = (n : Int)) : Owns w.heap.size (w.alloc (.cells #[.int .u8 k] 5)) (.slice (some ⟨w.heap.size, 0, none⟩) 1 1) [n] := by
  subst h
  exact ⟨rfl, .inr ⟨w.heap.size, 1, _, rfl, Nat.le_refl _, heap_alloc_new w _, Nat.le_refl _, by unfold maxLen; omega, rfl, rfl⟩⟩

theorem grow_made {a : Act} {w w' : World} {o : Oper} {v : Value} {Ψ : Post} (h : (execOp a.eval o).run Try.prog w = .ok (.value v) w') (hg : G w w') (hv : Ψ v w') : growAt Try.prog o a w Ψ := by
  unfold growAt
  rw [h]
  exact ⟨hg, hv⟩
theorem grow_xoru32 {a : Act} {w : World} {o : Oper} {x y : Operand} {t t2 : TypeId} {m n : Nat} {Ψ : Post} (h : o.op = .binOp .xor t x y t2) (hx : a.eval x = .int .u32 (m : Int)) (hy : a.eval y = .int .u32 (n : Int)) (hm : m < 4294967296) (hn : n < 4294967296)
    (hv : Ψ (.int .u32 ((m ^^^ n : Nat) : Int)) w) : growAt Try.prog o a w Ψ := by
  refine grow_run ?_ hv
  have e := u32_xor_nat m n hm hn
  unfold execOp
  rw [h]
  simp only [hx, hy]
  simp [go_sem, e]
theorem grow_xoru8 {a : Act} {w : World} {o : Oper} {x y : Operand} {t t2 : TypeId} {m n : Nat} {Ψ : Post} (h : o.op = .binOp .xor t x y t2) (hx : a.eval x = .int .u8 (m : Int)) (hy : a.eval y = .int .u8 (n : Int)) (hm : m < 256) (hn : n < 256)
    (hv : Ψ (.int .u8 ((m ^^^ n : Nat) : Int)) w) : growAt Try.prog o a w Ψ := by
  refine grow_run ?_ hv
  have e := u8_xor_nat m n hm hn
  unfold execOp
  rw [h]
  simp only [hx, hy]
  simp [go_sem, e]
theorem grow_index {a : Act} {w : World} {o : Oper} {x y : Operand} {b q n c k : Nat} {Ψ : Post} (h : o.op = .indexAddr 22 x y) (hx : a.eval x = .slice (some ⟨b, q, none⟩) n c) (hy : a.eval y = .int .i64 (k : Int)) (hk : k < n)
    (hv : Ψ (.pointer (some ⟨b, q + k, none⟩)) w) : growAt Try.prog o a w Ψ := by
  refine grow_run ?_ hv
  have e : (⟨b, q, none⟩ : Addr).add k = ⟨b, q + k, none⟩ := by unfold Addr.add; split <;> simp_all
  have hk' : (k : Int) < (n : Int) := by omega
  unfold execOp
  rw [h]
  simp only [hx, hy]
  simp [go_sem, Instr.indexAt, asIntOf, hk', e]
  omega
theorem grow_load8 {a : Act} {w : World} {o : Oper} {x : Operand} {b q : Nat} {v : Value} {Ψ : Post} (h : o.op = .load 5 x) (hx : a.eval x = .pointer (some ⟨b, q, none⟩)) (hc : w.cell? ⟨b, q, none⟩ = some v)
    (hv : Ψ v w) : growAt Try.prog o a w Ψ := by
  refine grow_run ?_ hv
  unfold execOp
  rw [h]
  simp only [hx]
  simp [go_sem, hc]
theorem grow_slice_to {a : Act} {w : World} {o : Oper} {x y : Operand} {p : Option Addr} {n c k : Nat} {ns : List Nat} {Ψ : Post} (h : o.op = .slice 22 x none (some y) none) (hx : a.eval x = .slice p n c) (hy : a.eval y = .int .i64 (k : Int)) (hk : k ≤ c)
    (hv : Ψ (.slice p k c) w) : growAt Try.prog o a w Ψ := by
  refine grow_run ?_ hv
  have hk' : (k : Int) ≤ (c : Int) := by omega
  unfold execOp
  rw [h]
  simp only [hx, hy, Option.map_some, Option.map_none]
  simp [go_sem, hk']
theorem grow_made_one {a : Act} {w : World} {o : Oper} {x : Operand} {k : Nat} {Ψ : Post} (h : o.op = .buildSlice 22 1 #[(0, x)]) (hx : a.eval x = .int .u8 (k : Int)) (hk : k < 256) (hv : ∀ v w', IsRow [k] v w' → Ψ v w') : growAt Try.prog o a w Ψ := by
  have hrun : (execOp a.eval o).run Try.prog w = .ok (.value (.slice (some ⟨w.heap.size, 0, none⟩) 1 1)) (w.alloc (.cells #[.int .u8 (k : Int)] 5)) := by
    unfold execOp
    rw [h]
    simp only [List.map_toArray, List.map_cons, List.map_nil, hx]
    simp [go_sem]
  exact grow_made hrun ((G.refl w).alloc _) (hv _ _ (owns_isRow (fun b hb => by simp at hb; omega) (owns_one w k k rfl)))
theorem grow_made_zeros {a : Act} {w : World} {o : Oper} {x y : Operand} {k : Nat} {Ψ : Post} (h : o.op = .makeSlice 22 x y) (hx : a.eval x = .int .i64 (k : Int)) (hy : a.eval y = .int .i64 (k : Int)) (hk : k ≤ 100000) (hv : ∀ v w', IsRow (List.replicate k 0) v w' → Ψ v w') : growAt Try.prog o a w Ψ := by
  obtain ⟨i0, hi, hz0, hz1, hz2⟩ := info_parts info5
  obtain ⟨w', hrun, r1, r2⟩ := run_make_full (P := Try.prog) w w.heap.size 22 5 i0 (.int .u8 0) 1 Try.underlying22 hi hz0 hz1 .i64 .i64 k (by rw [hz2]; omega) (by unfold maxLen; omega) (Nat.le_refl _)
  have hr2 : (execOp a.eval o).run Try.prog w = .ok (.value (.slice (some ⟨w.heap.size, 0, none⟩) k k)) w' := by
    unfold execOp
    rw [h]
    simp only [hx, hy]
    simp [hrun, Result.andThen]
  refine grow_made hr2 ((G.refl w).grown r2 (fun q hq => by cases hq)) (hv _ _ (owns_isRow (B := w.heap.size) (fun b hb => by have := List.eq_of_mem_replicate hb; omega) ?_))
  unfold Owns
  rw [List.length_replicate]
  have e : cells (List.replicate k 0) = (madeCells (Value.int .u8 0).cells (k * 1)).toList := by
    rw [Nat.mul_one]
    apply List.ext_getElem?
    intro i
    by_cases hik : i < k
    · simp [cells, madeCells, Value.cells, hik, Nat.mod_one]
    · simp [cells, madeCells, Value.cells, hik]
  rw [e]
  exact r1
end Go.Proofs.Ytoodfngcfdhnfaa
