/-
  The document's reader: so many bytes, a byte, a number, an error noted. No conditions but on sizes.
-/
import Derived.Test.YtpeioflembhedaaDoorPutRef
namespace Go.Proofs.YtpeioflembhedaaDoor
open Go.RowKit

set_option maxRecDepth 100000 in
theorem corrupt_any (rb : Nat) (p : Option Addr) (l : List UInt8) (c : Nat) (e : Int) (ok : Bool) (w : World) (h : Rd w rb p l c e) :
    Calls Tryd.prog 42 #[.pointer (some ⟨rb, 0, none⟩), .bool ok] w fun x w' => x = .returned undef ∧ Rd w' rb p l c (askR ok 3 e) ∧ Turn (fun k => k = rb) w w' := by
  have HR := hid h
  obtain ⟨hlt, c0, c1, f, bs, ne⟩ := h
  clear bs ne
  by_cases he : e = 0
  · subst he
    cases ok
    · have HE : Hid (askR false 3 0 = 3) := hid rfl
      rw [HE.out]
      go_enter Tryd.func42, Tryd.ntmps42
      go_wp2_with fail
      go_end0
      exact ⟨rfl, HR.out.err 3, Turn.set (X := fun k => k = rb) _ rfl _⟩
    · have HE : Hid (askR true 3 0 = 0) := hid rfl
      rw [HE.out]
      go_enter Tryd.func42, Tryd.ntmps42
      go_wp2_with fail
      go_end0
      exact ⟨rfl, HR.out, Turn.refl _ _⟩
  · have HE : Hid (askR ok 3 e = e) := hid (by simp [askR, he])
    rw [HE.out]
    have he2 : (e == 0) = false := by simp [he]
    clear he
    cases ok
    all_goals (
      go_enter Tryd.func42, Tryd.ntmps42
      go_wp2_with fail
      go_end0
      exact ⟨rfl, HR.out, Turn.refl _ _⟩)
set_option maxRecDepth 100000 in
theorem somer_no (rb : Nat) (p : Option Addr) (l : List UInt8) (c : Nat) (e : Int) (n : Nat) (w : World) (h : Rd w rb p l c e) {e1 : Int} (he : askR (decide (n ≤ l.length)) 2 e = e1) (h1 : e1 ≠ 0) (hl : l.length ≤ 1000000) :
    Calls Tryd.prog 55 #[.pointer (some ⟨rb, 0, none⟩), .int .i64 n] w fun x w' => x = .returned (.slice none 0 0) ∧ Rd w' rb p l c e1 ∧ Turn (fun k => k = rb) w w' := by
  have HR := hid h
  obtain ⟨hlt, c0, c1, f, bs, ne⟩ := h
  clear bs ne
  by_cases h0 : e = 0
  · subst h0
    by_cases hn : n ≤ l.length
    · exfalso
      apply h1
      rw [← he]
      simp [askR, hn]
    · have e2 : e1 = 2 := by rw [← he]; simp [askR, hn]
      subst e2
      clear he h1
      have hn2 : (l.length : Int) < n := by omega
      have hn3 : decide (l.length < n) = true := by simp; omega
      go_enter Tryd.func55, Tryd.ntmps55
      go_wp2_with fail
      go_ret
      exact ⟨rfl, HR.out.err 2, Turn.set (X := fun k => k = rb) _ rfl _⟩
  · have e2 : e1 = e := by rw [← he]; simp [askR, h0]
    subst e2
    have he2 : (e1 == 0) = false := by simp [h0]
    clear he h1 h0
    go_enter Tryd.func55, Tryd.ntmps55
    go_wp2_with fail
    go_ret
    exact ⟨rfl, HR.out, Turn.refl _ _⟩
set_option maxRecDepth 100000 in
theorem somer_yes (rb : Nat) (p : Option Addr) (l : List UInt8) (c : Nat) (e : Int) (n : Nat) (w : World) (h : Rd w rb p l c e) (he : askR (decide (n ≤ l.length)) 2 e = 0) (hl : l.length ≤ 1000000) :
    Calls Tryd.prog 55 #[.pointer (some ⟨rb, 0, none⟩), .int .i64 n] w (SomeYes rb p c l n w) := by
  obtain ⟨hn, rfl⟩ := some_ok he
  have HR := hid h
  obtain ⟨hlt, c0, c1, f, bs, ne⟩ := h
  have NE := hid ne
  have hlc := bs.1
  have hng : ¬ (l.length : Int) < n := by omega
  have hn3 : decide (l.length < n) = false := by simp; omega
  clear he
  rcases (show c = 0 ∨ (0 < c ∧ n = c) ∨ (0 < c ∧ n < c) by omega) with hc | ⟨hc, hnc⟩ | ⟨hc, hnc⟩
  · have hl0 : l = [] := List.eq_nil_of_length_eq_zero (by omega)
    subst hl0
    obtain rfl : n = 0 := by simpa using hn
    subst hc
    clear bs ne
    rcases p with _ | a
    all_goals (
      go_enter Tryd.func55, Tryd.ntmps55
      go_wp2_with fail
      go_ret
      exact ⟨_, 0, _, 0, rfl, ⟨Nat.le_refl _, .inl rfl⟩, HR.out.row (l' := []) (c' := 0) ⟨Nat.le_refl _, .inl rfl⟩ NE.out, Sub.refl _ _, Sub.refl _ _, Turn.set (X := fun k => k = rb) _ rfl _⟩)
  · rcases bs.2 with h0 | ⟨bk, off, rfl, _, _⟩
    · omega
    · obtain rfl : n = c := hnc
      have hln : l.length = n := by omega
      clear bs ne
      go_enter Tryd.func55, Tryd.ntmps55
      go_wp2_with fail
      go_ret
      have hdn : l.drop n = [] := List.drop_eq_nil_of_le (by omega)
      refine ⟨some ⟨bk, off, none⟩, n, some ⟨bk, off, none⟩, 0, rfl, (HR.out.bs.take n).turn (Turn.set (X := fun k => k = rb) _ rfl _) NE.out, ?_, Sub.refl _ _, .inl rfl, Turn.set (X := fun k => k = rb) _ rfl _⟩
      rw [hdn]
      exact HR.out.row (l' := []) (c' := 0) ⟨Nat.le_refl _, .inl rfl⟩ (.inl rfl)
  · rcases bs.2 with h0 | ⟨bk, off, rfl, _, _⟩
    · omega
    · clear bs ne
      go_enter Tryd.func55, Tryd.ntmps55
      go_wp2_with fail
      go_ret
      have hb2 := (HR.out.bs.drop n hn)
      have hs2 : Sub (some ⟨bk, off + n, none⟩) (c - n) (some ⟨bk, off, none⟩) c := .inr ⟨by omega, fun a ha => by cases ha; exact ⟨_, rfl, rfl⟩⟩
      have hne2 : Off (fun k => k = rb) (some ⟨bk, off + n, none⟩) (c - n) := hs2.off NE.out
      have hr2 := HR.out.row hb2 hne2
      have hT : Turn (fun k => k = rb) w (w.setCell ⟨rb, 0, none⟩ (.slice (some ⟨bk, off + n, none⟩) (l.drop n).length (c - n))) := Turn.set (X := fun k => k = rb) _ rfl _
      rw [List.length_drop] at hr2 hT
      refine ⟨some ⟨bk, off, none⟩, c, some ⟨bk, off + n, none⟩, c - n, rfl, (HR.out.bs.take n).turn hT NE.out, hr2, Sub.refl _ _, hs2, hT⟩
end Go.Proofs.YtpeioflembhedaaDoor
