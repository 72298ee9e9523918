/-
  The line of any instruction of a short text, and the document's example. No conditions but the library's own (its table of the powers of ten stands as laid, its variable MaxLen holds a number).
-/
import Derived.Test.YtpeioflembhedaaDoorLine
import Derived.Lib.ItoaLen
namespace Go.Proofs.YtpeioflembhedaaDoor
open Go.RowKit

def itoaS (n : Int) : ByteArray := ⟨(Lib.itoa n).toArray⟩
/-- The words of a line. -/
def wordsR (o a b : Int) (tx : ByteArray) : List ByteArray :=
  if shapeR o = 0 then [nameR o] else if shapeR o = 1 then [nameR o, itoaS a] else if shapeR o = 3 then [nameR o, itoaS a, itoaS b] else [nameR o, tx]
def lineR (o a b : Int) (tx : ByteArray) : ByteArray := ⟨(Lib.join ((wordsR o a b tx).map (·.data.toList)) [32]).toArray⟩
theorem name_len (o : Int) : (nameR o).data.toList.length ≤ 10 := by
  unfold nameR
  split
  · rename_i h
    obtain ⟨k, hk, e⟩ : ∃ k : Nat, k < 23 ∧ (o - 1).toNat = k := ⟨(o - 1).toNat, by omega, rfl⟩
    rw [e]
    have : ∀ k, k < 23 → (namesL.getD k E).data.toList.length ≤ 10 := by decide
    exact this k hk
  · decide
theorem line_any (o a b : Int) (tx : ByteArray) (w : World) (h0 : -9223372036854775808 ≤ o) (h1 : o ≤ 9223372036854775807) (a0 : -9223372036854775808 ≤ a) (a1 : a ≤ 9223372036854775807) (c0 : -9223372036854775808 ≤ b) (c1 : b ≤ 9223372036854775807)
    (hx : tx.size ≤ 60) (ht : Tab w) (hm : Max w) : Calls Tryd.prog 11 #[V o a b tx] w fun e w' => e = .returned (.string (lineR o a b tx)) ∧ G w w' := by
  have l1 := name_len o
  have l2 := Lib.itoa_length_le a a0 a1
  have l3 := Lib.itoa_length_le b c0 c1
  have l4 : tx.data.toList.length ≤ 60 := by simpa using hx
  rcases shapes4 o with hs | hs | hs | hs
  · unfold lineR wordsR
    rw [if_pos hs]
    exact line0 o a b tx _ 0 w h0 h1 hs rfl rfl hm (by simp [Lib.join] at *; omega)
  · unfold lineR wordsR itoaS
    rw [if_neg (by omega), if_pos hs]
    exact line1 o a b tx _ 1 w h0 h1 hs rfl rfl hm a0 a1 ht (by simp [Lib.join] at *; omega)
  · unfold lineR wordsR itoaS
    rw [if_neg (by omega), if_neg (by omega), if_pos hs]
    exact line3 o a b tx _ 3 w h0 h1 hs rfl rfl hm a0 a1 c0 c1 ht (by simp [Lib.join] at *; omega)
  · unfold lineR wordsR
    rw [if_neg (by omega), if_neg (by omega), if_neg (by omega)]
    exact line4 o a b tx _ 4 w h0 h1 hs rfl rfl hm (by simp [Lib.join] at *; omega)

theorem example_line : lineR 5 2 1 E = ⟨#[108, 111, 97, 100, 32, 50, 32, 49]⟩ := by
  have e : wordsR 5 2 1 E = [⟨#[108, 111, 97, 100]⟩, ⟨#[50]⟩, ⟨#[49]⟩] := by
    simp [wordsR, shapeR, nameR, namesL, itoaS, Lib.itoa, Lib.decDigits]
  unfold lineR
  rw [e]
  rfl
theorem shown_any (w : World) (ht : Tab w) (hm : Max w) : Calls Tryd.prog 7 #[] w fun e w' => e = .returned (.bool true) ∧ G w w' := by
  go_enter Tryd.func7, Tryd.ntmps7
  go_wp2_with fail
  refine (line_any 5 2 1 E w (by decide) (by decide) (by decide) (by decide) (by decide) (by decide) (by decide) ht hm).mono ?_
  rintro e w1 ⟨rfl, g⟩
  rw [example_line]
  have HG := hid g
  clear g
  go_wp2_with fail
  go_ret
  exact ⟨rfl, HG.out⟩
end Go.Proofs.YtpeioflembhedaaDoor
