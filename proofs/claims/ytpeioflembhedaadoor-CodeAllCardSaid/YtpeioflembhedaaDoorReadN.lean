/-
  The reader's byte and number. No conditions but on sizes.
-/
import Derived.Test.YtpeioflembhedaaDoorReader
import Derived.Deep.LoopGhost
import Derived.Laws.Bits64b
import Derived.Laws.BitsLemmas
namespace Go.Proofs.YtpeioflembhedaaDoor
open Go.RowKit

def oneR (l : List UInt8) (e : Int) : Int × List UInt8 × Int := if e = 0 then (match l with
  | [] => (0, [], 2)
  | b :: r => (b.toNat, r, 0)) else (0, l, e)
def RdPost (rb : Nat) (p : Option Addr) (c : Nat) (v : Int) (l' : List UInt8) (e' : Int) (w : World) (x : Ending) (w' : World) : Prop :=
  x = .returned (.int .i64 v) ∧ ∃ p' c', Rd w' rb p' l' c' e' ∧ Sub p' c' p c ∧ Turn (fun k => k = rb) w w'
theorem Bys.head {w : World} {p : Option Addr} {b : UInt8} {r : List UInt8} {c : Nat} (h : Bys w p (b :: r) c) : ∃ bk off, p = some ⟨bk, off, none⟩ ∧ w.cell? ⟨bk, off, none⟩ = some (.int .u8 b.toNat) ∧ 0 < c := by
  have hl := h.1
  simp at hl
  rcases h.2 with h0 | ⟨bk, off, e, _, i⟩
  · omega
  · exact ⟨bk, off, e, i 0 b rfl, by omega⟩
set_option maxRecDepth 100000 in
theorem one_no (rb : Nat) (p : Option Addr) (l : List UInt8) (c : Nat) (e e1 : Int) (w : World) (h : Rd w rb p l c e) (hl : l.length ≤ 1000000) (he : askR (decide (1 ≤ l.length)) 2 e = e1) (h1 : e1 ≠ 0) : Calls Tryd.prog 36 #[.pointer (some ⟨rb, 0, none⟩)] w (RdPost rb p c 0 l e1 w) := by
  have HR := hid h
  have HE := hid he
  have H1 := hid h1
  clear h he h1
  go_enter Tryd.func36, Tryd.ntmps36
  go_wp2_with fail
  refine (some_no rb p l c e 1 _ HR.out HE.out H1.out hl).mono ?_
  rintro x w1 ⟨rfl, hr, ht⟩
  have HR1 := hid hr
  have HT1 := hid ht
  clear hr ht
  go_wp2_with fail
  go_ret
  exact ⟨rfl, p, c, HR1.out, Sub.refl _ _, HT1.out⟩
set_option maxRecDepth 100000 in
theorem one_yes (rb : Nat) (p : Option Addr) (b : UInt8) (r : List UInt8) (c : Nat) (w : World) (h : Rd w rb p (b :: r) c 0) (hl : (b :: r).length ≤ 1000000) : Calls Tryd.prog 36 #[.pointer (some ⟨rb, 0, none⟩)] w (RdPost rb p c b.toNat r 0 w) := by
  have HR := hid h
  clear h
  go_enter Tryd.func36, Tryd.ntmps36
  go_wp2_with fail
  refine (some_yes rb p (b :: r) c 0 1 _ HR.out (by simp [askR]) hl).mono ?_
  rintro x w1 ⟨p1, c1, p2, c2, rfl, hb, hr, hs1, hs2, ht⟩
  obtain ⟨bk, off, rfl, hc, hc1⟩ := Bys.head (b := b) (r := []) hb
  have HR1 := hid hr
  have HT1 := hid ht
  have HS := hid hs2
  clear hr ht hs1 hs2 hb
  have hbl : (b.toNat : Int) ≤ 255 := by have := b.toNat_lt; omega
  go_wp2_with fail
  go_ret
  exact ⟨rfl, p2, c2, HR1.out, HS.out, HT1.out⟩
theorem one_any (rb : Nat) (p : Option Addr) (l : List UInt8) (c : Nat) (e : Int) (w : World) (h : Rd w rb p l c e) (hl : l.length ≤ 1000000) : Calls Tryd.prog 36 #[.pointer (some ⟨rb, 0, none⟩)] w (RdPost rb p c (oneR l e).1 (oneR l e).2.1 (oneR l e).2.2 w) := by
  by_cases he : e = 0
  · subst he
    cases l with
    | nil => exact one_no rb p [] c 0 2 w h hl rfl (by decide)
    | cons b r => exact one_yes rb p b r c w h hl
  · have e1 : oneR l e = (0, l, e) := by simp [oneR, he]
    rw [e1]
    exact one_no rb p l c e e w h hl (by simp [askR, he]) he

/-- A number out of eight bytes. -/
def bigR (l : List UInt8) : Nat := l.foldl (fun n b => n * 256 + b.toNat) 0
def signR (n : Nat) : Int := if n < 9223372036854775808 then n else (n : Int) - 18446744073709551616
def numbR (l : List UInt8) (e : Int) : Int × List UInt8 × Int := if e = 0 then (if 8 ≤ l.length then (signR (bigR (l.take 8)), l.drop 8, 0) else (0, l, 2)) else (0, l, e)
theorem or_byte (M : Nat) (b : UInt8) (h : M < 72057594037927936) : bits BinOp.or IntKind.u64 (IntKind.u64.wrap ((M : Int) * 256)) (IntKind.u64.wrap (b.toNat : Int)) = ((M * 256 + b.toNat : Nat) : Int) := by
  have hb := b.toNat_lt
  have e1 : IntKind.u64.wrap ((M : Int) * 256) = ((M * 256 : Nat) : Int) := by
    rw [IntKind.wrap_u64]
    omega
  have e2 : IntKind.u64.wrap (b.toNat : Int) = (b.toNat : Int) := by
    rw [IntKind.wrap_u64]
    omega
  rw [e1, e2, bits_or_u64_nat _ _ (by omega) (by omega)]
  have e3 := Nat.two_pow_add_eq_or_of_lt (i := 8) (b := b.toNat) (by omega) M
  rw [show M * 256 = 2 ^ 8 * M by omega, ← e3]
theorem sign_val (M : Nat) (h : M < 18446744073709551616) : wrap64 (M : Int) = signR M := by
  unfold wrap64 signR
  split <;> omega
theorem big_snoc (l : List UInt8) (k : Nat) (b : UInt8) (h : l[k]? = some b) : bigR (l.take (k + 1)) = bigR (l.take k) * 256 + b.toNat := by
  unfold bigR
  rw [List.take_add_one, h, List.foldl_append]
  rfl
theorem pow_le7 {k : Nat} (h : k < 8) : 256 ^ k ≤ 72057594037927936 := Nat.le_trans (Nat.pow_le_pow_right (by decide) (by omega : k ≤ 7)) (by decide)
set_option maxRecDepth 100000 in
theorem numb_no (rb : Nat) (p : Option Addr) (l : List UInt8) (c : Nat) (e e1 : Int) (w : World) (h : Rd w rb p l c e) (hl : l.length ≤ 1000000) (he : askR (decide (8 ≤ l.length)) 2 e = e1) (h1 : e1 ≠ 0) : Calls Tryd.prog 38 #[.pointer (some ⟨rb, 0, none⟩)] w (RdPost rb p c 0 l e1 w) := by
  have HR := hid h
  have HE := hid he
  have H1 := hid h1
  clear h he h1
  go_enter Tryd.func38, Tryd.ntmps38
  go_wp2_with fail
  refine (some_no rb p l c e 8 _ HR.out HE.out H1.out hl).mono ?_
  rintro x w1 ⟨rfl, hr, ht⟩
  have HR1 := hid hr
  have HT1 := hid ht
  clear hr ht
  go_wp2_with fail
  go_ret
  exact ⟨rfl, p, c, HR1.out, Sub.refl _ _, HT1.out⟩
set_option maxRecDepth 100000 in
theorem numb_yes (rb : Nat) (p : Option Addr) (l : List UInt8) (c : Nat) (w : World) (h : Rd w rb p l c 0) (hl : l.length ≤ 1000000) (h8 : 8 ≤ l.length) : Calls Tryd.prog 38 #[.pointer (some ⟨rb, 0, none⟩)] w (RdPost rb p c (signR (bigR (l.take 8))) (l.drop 8) 0 w) := by
  have HR := hid h
  clear h
  go_enter Tryd.func38, Tryd.ntmps38
  go_wp2_with fail
  refine (some_yes rb p l c 0 8 _ HR.out (by simp [askR, h8]) hl).mono ?_
  rintro x w1 ⟨p1, c1, p2, c2, rfl, hb, hr, hs1, hs2, ht⟩
  have hbl := hb.1
  have h8l : (l.take 8).length = 8 := by rw [List.length_take]; omega
  rcases hb.2 with h0 | ⟨bk, off, rfl, _, hcell⟩
  · omega
  have HC := hid hcell
  have HR1 := hid hr
  have HT1 := hid ht
  have HS := hid hs2
  have H8 := hid h8l
  clear hr ht hs1 hs2 hb hbl h8l hcell
  go_wp2_with fail
  go_loopg [4, 14] 8 (fun n m j wx => wx = w1 ∧ ∃ k : Nat, k ≤ 8 ∧ n = 8 - k ∧ j = .int .i64 k ∧ ∃ M : Nat, M < 256 ^ k ∧ m = .int .u64 M ∧ Hid (M = bigR ((l.take 8).take k)))
  case atStart => exact ⟨rfl, 0, by omega, rfl, rfl, 0, by decide, rfl, rfl⟩
  case round =>
    obtain ⟨rfl, k, hk, rfl, rfl, M, hM, rfl, hMe⟩ := hrel
    by_cases hkl : k < 8
    · obtain ⟨b, hb⟩ : ∃ b, (l.take 8)[k]? = some b := ⟨(l.take 8)[k]'(by have := H8.out; omega), List.getElem?_eq_getElem _⟩
      have hc := HC.out k b hb
      have HB := hid hb
      have hkz : (k : Int) < 8 := by omega
      clear hb
      go_wp2_with fail
      have h7 := pow_le7 hkl
      have hor := or_byte M b (by omega)
      rw [hor]
      have hsn := big_snoc (l.take 8) k b HB.out
      go_roundg (8 - (k + 1))
      case measure => go_light; omega
      case rel =>
        go_light
        refine ⟨rfl, k + 1, by omega, rfl, by go_num, M * 256 + b.toNat, ?_, rfl, ?_⟩
        · have := b.toNat_lt
          rw [Nat.pow_succ]
          omega
        · rw [hsn, ← hMe]
          rfl
    · obtain rfl : k = 8 := by omega
      have hM2 : M < 18446744073709551616 := by simpa using hM
      have hsv := hid (sign_val M hM2)
      have hME := hid hMe.out
      clear hM hMe
      go_wp2_with fail
      go_ret
      refine ⟨?_, p2, c2, HR1.out, HS.out, HT1.out⟩
      have h8t : (l.take 8).take 8 = l.take 8 := List.take_of_length_le (by rw [H8.out]; exact Nat.le_refl _)
      rw [hsv.out, hME.out, h8t]
      rfl
theorem numb_any (rb : Nat) (p : Option Addr) (l : List UInt8) (c : Nat) (e : Int) (w : World) (h : Rd w rb p l c e) (hl : l.length ≤ 1000000) : Calls Tryd.prog 38 #[.pointer (some ⟨rb, 0, none⟩)] w (RdPost rb p c (numbR l e).1 (numbR l e).2.1 (numbR l e).2.2 w) := by
  by_cases he : e = 0
  · subst he
    by_cases h8 : 8 ≤ l.length
    · have e1 : numbR l 0 = (signR (bigR (l.take 8)), l.drop 8, 0) := by simp [numbR, h8]
      rw [e1]
      exact numb_yes rb p l c w h hl h8
    · have e1 : numbR l 0 = (0, l, 2) := by simp [numbR, h8]
      rw [e1]
      exact numb_no rb p l c 0 2 w h hl (by simp [askR, h8]) (by decide)
  · have e1 : numbR l e = (0, l, e) := by simp [numbR, he]
    rw [e1]
    exact numb_no rb p l c e e w h hl (by simp [askR, he]) he
end Go.Proofs.YtpeioflembhedaaDoor
