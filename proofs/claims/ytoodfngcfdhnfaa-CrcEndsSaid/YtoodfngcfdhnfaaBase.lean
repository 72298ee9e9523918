/-
  Rows of bytes as the check's functions see them, and the laws of single operations over them. No conditions.
-/
import Derived.Test.YtoodfngcfdhnfaaGrow
import Derived.Test.YtoodfngcfdhnfaaMath
import Derived.WalkKit
import Derived.WalkSpells
import Derived.Lib.Bytes
namespace Go.Proofs.Ytoodfngcfdhnfaa
open Go.RowKit Go.Proofs.Ytoodfngcfdhnfaa.Crc

theorem hid {p : Prop} (h : p) : Hid p := h

/-- The numbers of a row, as the model's integers. -/
def ints (ns : List Nat) : List Int := ns.map fun n : Nat => (n : Int)
theorem ints_length (ns : List Nat) : (ints ns).length = ns.length := by simp [ints]
theorem ints_getD (ns : List Nat) (i : Nat) : (ints ns).getD i 0 = ((ns.getD i 0 : Nat) : Int) := by
  unfold ints
  by_cases h : i < ns.length <;> simp [List.getD, h]

/-- A slice of bytes: its numbers, wherever they lie. -/
structure RowAt (w : World) (p : Option Addr) (c : Nat) (ns : List Nat) : Prop where
  le : ns.length ≤ c
  bytes : Bytes ns
  nil : p = none → c = 0
  lies : 0 < ns.length → ∃ b o, p = some ⟨b, o, none⟩ ∧ ∀ i, i < ns.length → w.cell? ⟨b, o + i, none⟩ = some (.int .u8 ((ns.getD i 0 : Nat) : Int))

theorem RowAt.mono {w w' : World} {p : Option Addr} {c : Nat} {ns : List Nat} (h : RowAt w p c ns) (hg : G w w') : RowAt w' p c ns :=
  ⟨h.le, h.bytes, h.nil, fun hp => let ⟨b, o, e, hc⟩ := h.lies hp; ⟨b, o, e, fun i hi => hg.cell (hc i hi)⟩⟩

theorem RowAt.empty (w : World) : RowAt w none 0 [] := ⟨Nat.le_refl _, (fun _ h => by cases h), (fun _ => rfl), (fun h => by simp at h)⟩

/-- 'b[lo:hi]' -/
theorem RowAt.cut {w : World} {p : Option Addr} {c : Nat} {ns : List Nat} (h : RowAt w p c ns) (lo hi : Nat) (hl : lo ≤ hi) (hh : hi ≤ ns.length) :
    RowAt w (if c = lo then p else p.map (·.add (lo * 1))) (c - lo) ((ns.drop lo).take (hi - lo)) := by
  have hle := h.le
  have hlen : ((ns.drop lo).take (hi - lo)).length = hi - lo := by simp; omega
  refine ⟨by omega, fun b hb => h.bytes b (List.mem_of_mem_drop (List.mem_of_mem_take hb)), fun hp => ?_, fun hp => ?_⟩
  · split at hp
    · have := h.nil hp; omega
    · cases p with
      | none => have := h.nil rfl; omega
      | some a => cases hp
  rw [hlen] at hp
  obtain ⟨b, o, e, hc⟩ := h.lies (by omega)
  refine ⟨b, o + lo, ?_, fun i hi' => ?_⟩
  · rw [if_neg (by omega), e]
    simp only [Option.map_some, Nat.mul_one, Option.some.injEq]
    unfold Addr.add
    split
    · rename_i h0; rw [h0]; rfl
    · rfl
  · rw [hlen] at hi'
    rw [Nat.add_assoc, hc (lo + i) (by omega)]
    congr 3
    simp [List.getD, List.getElem?_take, List.getElem?_drop, hi']

theorem RowAt.take {w : World} {p : Option Addr} {c : Nat} {ns : List Nat} (h : RowAt w p c ns) (k : Nat) : RowAt w p c (ns.take k) := by
  refine ⟨Nat.le_trans (List.length_take_le' _ _) h.le, fun b hb => h.bytes b (List.mem_of_mem_take hb), h.nil, fun hp => ?_⟩
  simp only [List.length_take] at hp
  obtain ⟨b, o, e, hc⟩ := h.lies (by omega)
  refine ⟨b, o, e, fun i hi => ?_⟩
  simp only [List.length_take] at hi
  rw [hc i (by omega)]
  rw [List.getD_eq_getElem?_getD, List.getD_eq_getElem?_getD, List.getElem?_take, if_pos (by omega)]

theorem RowAt.of_owns {w : World} {B : Nat} {v : Value} {ns : List Nat} (hb : Bytes ns) (h : w.ownsRow B 5 1 v ns.length (ns.map fun n : Nat => Value.int .u8 (n : Int))) :
    ∃ p c, v = .slice p ns.length c ∧ c ≤ maxLen ∧ RowAt w p c ns := by
  have h0 := h
  obtain ⟨hl, hc⟩ := h
  rcases hc with ⟨rfl, hn⟩ | ⟨g, cap, cur, rfl, hg, hh, hn, hcap, hsz, htake⟩
  · have hnil : ns = [] := List.eq_nil_of_length_eq_zero hn
    subst hnil
    exact ⟨none, 0, rfl, by unfold maxLen; omega, RowAt.empty w⟩
  · refine ⟨_, _, rfl, hcap, ⟨hn, hb, (fun h => by cases h), fun hp => ⟨g, 0, rfl, fun i hi => ?_⟩⟩⟩
    rw [Nat.zero_add, h0.cellAt i (by omega)]
    simp [List.getD, hi]

/-- The string of a row. -/
def str (ns : List Nat) : ByteArray := strOfNums (ints ns)

theorem RowAt.convert {P : Program} {w : World} {p : Option Addr} {c : Nat} {ns : List Nat} (h : RowAt w p c ns) (src e dst : TypeId)
    (hs : P.underlying src = some (.slice e)) (he : P.underlying e = some (.int .u8)) (hd : P.underlying dst = some .string) :
    (Go.convert src dst (.slice p ns.length c)).run P w = .ok (.string (str ns)) w := by
  rcases Nat.eq_zero_or_pos ns.length with hn | hn
  · have hnil : ns = [] := List.eq_nil_of_length_eq_zero hn
    subst hnil
    rw [run_convert_bytes_string w src dst e _ _ c hs he hd]
    cases p <;> simp [Conv.bytesToString, loadCells]
    all_goals rfl
  · obtain ⟨b, o, rfl, hc⟩ := h.lies hn
    exact run_convert_bytes_arg (P := P) w src e hs he b o ns.length c (ints ns) (ints_length ns) (fun i hi => by rw [hc i hi, ints_getD]) dst hd

theorem str_inj {a b : List Nat} (ha : Bytes a) (hb : Bytes b) (h : str a = str b) : a = b := by
  have h1 : (ints a).map (fun n => UInt8.ofNat n.toNat) = (ints b).map (fun n => UInt8.ofNat n.toNat) := by
    rw [← strOfNums_data, ← strOfNums_data]; exact congrArg (fun s : ByteArray => s.data.toList) h
  have h2 : ∀ l : List Nat, Bytes l → ((ints l).map (fun n => UInt8.ofNat n.toNat)).map (·.toNat) = l := by
    intro l hl
    unfold ints
    rw [List.map_map, List.map_map]
    refine (List.map_congr_left fun x hx => ?_).trans (List.map_id l)
    have := hl x hx
    simp
    omega
  rw [← h2 a ha, ← h2 b hb, h1]

theorem str_eq {a b : List Nat} (ha : Bytes a) (hb : Bytes b) : ((str a).toList == (str b).toList) = decide (a = b) := by
  by_cases h : a = b
  · subst h; simp
  · have : ¬ (str a).toList = (str b).toList := fun e => h (str_inj ha hb (by
      rw [str, str, Lib.strOfNums_toList, Lib.strOfNums_toList] at e
      unfold str strOfNums
      exact congrArg (fun l : List UInt8 => (⟨l.toArray⟩ : ByteArray)) e))
    simp [h, this]

theorem _root_.Go.RowKit.Below.setRow {B : Nat} {a w : World} (h : Below B a w) {g : Nat} (hg : B ≤ g) (cs : Array Value) : Below B a (w.setRow g cs) :=
  h.trans ⟨rfl, rfl, rfl, by simp, fun k hk => setRow_other w g k cs (by omega)⟩

/-! ### Arrays -/
/-- 'var t [256]uint32', whatever the zero value looks like. -/
theorem wpList_alloc_big {P : Program} {ops : Array Oper} {rest : List Oper} {o : Oper} {a : Act} {w : World} {Q : Exit → Act → World → Prop} (hg : o.guard = none) (t : TypeId) (ho : o.op = .alloc t) (z : Array Value)
    (hz : (P.info? t).map (·.zero) = some (some (.agg z)))
    (h : wpList P ops Q rest (a.put o.dst (.pointer (some ⟨w.heap.size, 0, none⟩))) (w.alloc (.cells z t))) : wpList P ops Q (o :: rest) a w := by
  refine wpList_plain hg fun K hK => ?_
  obtain ⟨i, hi, hzz⟩ := Option.map_eq_some_iff.1 hz
  unfold Oper.wp execOp
  simp [ho, Instr.alloc, zeroValue, typeInfo, hi, hzz, newVar, newRow, Value.cells]
  exact hK _ _ h

/-- A whole array stored into a variable. -/
theorem wpList_store_big {P : Program} {ops : Array Oper} {rest : List Oper} {o : Oper} {a : Act} {w : World} {Q : Exit → Act → World → Prop} (hg : o.guard = none) (t : TypeId) (x y : Operand) (ho : o.op = .store t x y)
    (g : Nat) (hx : a.eval x = .pointer (some ⟨g, 0, none⟩)) (cs cur : Array Value) (ty : TypeId) (hy : a.eval y = .agg cs) (hcur : w.heap[g]? = some (.cells cur ty (0, 0))) (hsz : cs.size = cur.size)
    (hi : (P.info? t).map (·.size) = some cs.size) (h1 : ∀ v ∈ cs.toList, v.oneCell' = true)
    (h : wpList P ops Q rest (a.put o.dst undef) (w.setRow g cs)) : wpList P ops Q (o :: rest) a w := by
  refine wpList_plain hg fun K hK => ?_
  obtain ⟨i, hii, hs⟩ := Option.map_eq_some_iff.1 hi
  have hst := run_storeCells_at P g 0 ty cs.toList 0 cur w hcur (by simp [hsz]) h1
  have hst' : (storeCells ⟨g, 0, none⟩ cs.toList 0).run P w = .ok () (w.setRow g cs) := by
    rw [hst]
    congr 2
    simp only [Nat.add_zero, Nat.zero_add, List.take_zero, List.nil_append, Array.length_toList, hsz]
    rw [List.drop_eq_nil_of_le (by simp), List.append_nil]
  unfold Oper.wp execOp
  simp [ho, hx, hy, Instr.storeAt, Instr.sureAddr, storeVar, sizeOf, typeInfo, hii, hs, Value.cells, hst']
  exact hK _ _ h
end Go.Proofs.Ytoodfngcfdhnfaa
