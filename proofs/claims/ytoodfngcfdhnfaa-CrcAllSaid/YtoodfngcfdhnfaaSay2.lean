/-
  The contracts of the check's functions in the form in which regions and walks take them. No conditions.
-/
import Derived.Test.YtoodfngcfdhnfaaTake
namespace Go.Proofs.Ytoodfngcfdhnfaa
open Go.RowKit Go.Proofs.Ytoodfngcfdhnfaa.Crc

theorem IsRow.bytes {ns : List Nat} {v : Value} {w : World} (h : IsRow ns v w) : Bytes ns := let ⟨_, _, _, _, hr⟩ := h; hr.bytes

theorem go_say {n : Nat} {u v : Value} {ns : List Nat} {w : World} (hu : u = .int .u32 (n : Int)) (hv : IsRow ns v w) (hn : n < 4294967296) (hlen : ns.length ≤ 100000) :
    Calls Try.prog 13 #[u, v] w fun e w' => ∃ x, e = .returned x ∧ G w w' ∧ x = .int .u32 ((go n ns : Nat) : Int) := by
  obtain ⟨p, c, rfl, _, hr⟩ := hv
  subst hu
  exact (go_any n p c ns w hn hr (by omega)).mono fun e w' ⟨he, hg⟩ => ⟨_, he, hg, rfl⟩
theorem rgo_say {n : Nat} {u v : Value} {ns : List Nat} {w : World} (hu : u = .int .u32 (n : Int)) (hv : IsRow ns v w) (hn : n < 4294967296) (hlen : ns.length ≤ 100000) :
    Calls Try.prog 14 #[u, v] w fun e w' => ∃ x, e = .returned x ∧ G w w' ∧ x = .int .u32 ((go n ns : Nat) : Int) := by
  obtain ⟨p, c, rfl, _, hr⟩ := hv
  subst hu
  exact (rgo_any n p c ns w hn hr (by omega)).mono fun e w' ⟨he, hw⟩ => ⟨_, he, hw ▸ G.refl _, rfl⟩
theorem of_say {v : Value} {ns : List Nat} {w : World} (hv : IsRow ns v w) (hlen : ns.length ≤ 100000) :
    Calls Try.prog 10 #[v] w fun e w' => ∃ x, e = .returned x ∧ G w w' ∧ x = .int .u32 ((go 0 ns : Nat) : Int) := by
  obtain ⟨p, c, rfl, _, hr⟩ := hv
  exact (of_any p c ns w hr (by omega)).mono fun e w' ⟨he, hg⟩ => ⟨_, he, hg, rfl⟩
theorem put_say {ns : List Nat} {v : Value} {w : World} (hv : IsRow ns v w) (hlen : ns.length ≤ 100000) :
    Calls Try.prog 15 #[v] w fun e w' => ∃ u, e = .returned u ∧ G w w' ∧ IsRow (put ns) u w' := by
  obtain ⟨p, c, rfl, _, hr⟩ := hv
  exact (put_any p c ns w hr hlen).mono fun e w' ⟨u, he, ho, hg⟩ => ⟨u, he, hg, owns_isRow (put_bytes hr.bytes) ho⟩
theorem short_say {ns : List Nat} {v : Value} {w : World} (hv : IsRow ns v w) :
    Calls Try.prog 9 #[v] w fun e w' => ∃ p c, e = .returned (.slice p (ns.take 2000).length c) ∧ c ≤ maxLen ∧ RowAt w p c (ns.take 2000) ∧ w = w' := by
  obtain ⟨p, c, rfl, hc, hr⟩ := hv
  exact (short_any p c ns w hr hc).mono fun e w' ⟨q, he, h, hw⟩ => ⟨q, c, he, hc, h, hw⟩
theorem short_len (ns : List Nat) : (ns.take 2000).length ≤ 2000 := List.length_take_le _ _
theorem taken_bytes {ns : List Nat} (h : Bytes ns) : Bytes (taken ns) := by
  unfold taken
  split
  · exact bytes_take h _
  · intro b hb; cases hb
end Go.Proofs.Ytoodfngcfdhnfaa
