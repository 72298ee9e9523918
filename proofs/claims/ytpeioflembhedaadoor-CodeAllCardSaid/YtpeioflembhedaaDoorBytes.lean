/-
  The eight bytes of a number, as both functions make them. No conditions but that it is an int.
-/
import Derived.Test.YtpeioflembhedaaDoorFew
import Derived.Laws.Bits64
namespace Go.Proofs.YtpeioflembhedaaDoor
open Go.RowKit

/-- Bytes as cells. -/
def bys (l : List UInt8) : List Value := l.map fun b => .int .u8 b.toNat
theorem bys_append (l m : List UInt8) : bys (l ++ m) = bys l ++ bys m := by simp [bys]
theorem bys_length (l : List UInt8) : (bys l).length = l.length := by simp [bys]
theorem info5 : ∃ i, Tryd.prog.info? 5 = some i ∧ i.zero = some (.int .u8 0) ∧ i.size = 1 ∧ i.bytes = 1 :=
  ⟨(Tryd.prog.info? 5).get (by kernel_rfl), by kernel_rfl, by kernel_rfl, by kernel_rfl, by kernel_rfl⟩
/-- The k-th of a number's eight bytes, the greatest first. -/
def eightAt (n : Int) (k : Nat) : UInt8 := UInt8.ofNat ((n % 18446744073709551616).toNat / 2 ^ (8 * (7 - k)) % 256)
theorem eight_val (n : Int) (k : Nat) : IntKind.u64.wrap n / 2 ^ (8 * (7 - k)) % 256 = ((eightAt n k).toNat : Int) := by
  have e : IntKind.u64.wrap n = (((n % 18446744073709551616).toNat : Nat) : Int) := by
    rw [IntKind.wrap_u64]
    omega
  rw [e]
  unfold eightAt
  rw [UInt8.toNat_ofNat']
  generalize (n % 18446744073709551616).toNat = m
  have e2 : ((m : Int) / 2 ^ (8 * (7 - k)) % 256) = ((m / 2 ^ (8 * (7 - k)) % 256 : Nat) : Int) := by rw [Int.natCast_emod, Int.natCast_ediv, Int.natCast_pow]; rfl
  rw [e2]
  congr 1
  omega
theorem cell_new1 (w : World) (v : Value) (T : TypeId) : ∀ j u, [v][j]? = some u → (w.alloc (.cells #[v] T)).cell? ((⟨w.heap.size, 0, none⟩ : Addr).add j) = some u := by
  intro j u hj
  match j, hj with
  | 0, hj =>
    simp at hj
    subst hj
    simp [go_sem]
def eightR (n : Int) : List UInt8 := (List.range 8).map (eightAt n)

set_option maxRecDepth 100000 in
set_option maxHeartbeats 2000000 in
theorem bytes_any (n : Int) (w : World) (h0 : -9223372036854775808 ≤ n) (h1 : n ≤ 9223372036854775807) :
    Calls Tryd.prog 31 #[.int .i64 n] w fun e w' => ∃ v, e = .returned v ∧ w'.ownsRow w.heap.size 5 1 v 8 (bys (eightR n)) ∧ G w w' := by
  obtain ⟨i, i1, i2, i3, i4⟩ := info5
  go_enter Tryd.func31, Tryd.ntmps31
  go_wp2_with fail
  go_loopw [3, 5] (fun v j wr => ∃ k : Nat, k ≤ 8 ∧ j = .int .i64 k ∧ wr.ownsRow w.heap.size 5 1 v k (bys ((List.range k).map (eightAt n))) ∧ G w wr) (fun _ j _ => 8 - (intOf j).toNat)
  case atStart => exact ⟨0, by omega, rfl, World.ownsRow_nil _ _ _ _, G.refl _⟩
  case round =>
    obtain ⟨k, hk, rfl, hv, hg⟩ := hrel
    have HG := hid hg
    have HV := hid hv
    clear hg hv
    by_cases hk8 : k < 8
    · have hk9 : (k : Int) < 8 := by omega
      have CB := hid HV.out.lt
      have hs := HG.out.size
      go_wp2_with (first | (at_builtin; refine wpList_append_own _ rfl _ _ 34 rfl w.heap.size 5 i (.int .u8 0) 1 1 Tryd.underlying34 i1 i2 i3 i4 rfl (by decide) _ _ _ rfl (HV.out.alloc _) ⟨wr.heap.size, 0, none⟩ 1 1 [.int .u8 (IntKind.u64.wrap n / 2 ^ (8 * (7 - k)) % 256)] rfl rfl (cell_new1 _ _ _) (by simp [Value.oneCell']) (by unfold maxLen; omega) (by omega) (by simp; omega) ?_; intro v1 y1 own1 gr1 _))
      refine ⟨⟨k + 1, by omega, by simp, ?_, (HG.out.alloc _).grown gr1 (fun j hj => (CB.out j hj).1)⟩, by simp [intOf]; omega⟩
      rw [eight_val] at own1
      rw [List.range_succ, List.map_append, bys_append]
      exact own1
    · have hk9 : ¬ (k : Int) < 8 := by omega
      obtain rfl : k = 8 := by omega
      go_wp2_with fail
      go_ret
      exact ⟨_, rfl, HV.out, HG.out⟩
end Go.Proofs.YtpeioflembhedaaDoor
