/-
  The reader of bytes: what its functions hand back and what becomes of it. No conditions but on sizes.
-/
import Derived.Test.YtpeioflembhedaaDoorLong
namespace Go.Proofs.YtpeioflembhedaaDoor
open Go.RowKit

/-- A slice of bytes lies in memory. -/
def Bys (w : World) (p : Option Addr) (l : List UInt8) (c : Nat) : Prop := l.length ≤ c ∧ (c = 0 ∨ ∃ bk off, p = some ⟨bk, off, none⟩ ∧ bk < w.heap.size ∧ ∀ (k : Nat) b, l[k]? = some b → w.cell? ⟨bk, off + k, none⟩ = some (.int .u8 b.toNat))
/-- It does not lie in the blocks that X names. -/
def Off (X : Nat → Prop) (p : Option Addr) (c : Nat) : Prop := c = 0 ∨ ∀ a, p = some a → ¬ X a.block
/-- One lies where another lies. -/
def Sub (p2 : Option Addr) (c2 : Nat) (p : Option Addr) (c : Nat) : Prop := c2 = 0 ∨ (c ≠ 0 ∧ ∀ a, p2 = some a → ∃ a0, p = some a0 ∧ a0.block = a.block)
theorem Sub.refl (p : Option Addr) (c : Nat) : Sub p c p c := by
  rcases Nat.eq_zero_or_pos c with h | h
  · exact .inl h
  · exact .inr ⟨by omega, fun a h => ⟨a, h, rfl⟩⟩
theorem Sub.trans {p q r : Option Addr} {c d e : Nat} (h : Sub p c q d) (k : Sub q d r e) : Sub p c r e := by
  rcases h with h | ⟨hd, h⟩
  · exact .inl h
  · rcases k with k | ⟨he, k⟩
    · exact absurd k hd
    · refine .inr ⟨he, fun a ha => ?_⟩
      obtain ⟨b, hb, e1⟩ := h a ha
      obtain ⟨x, hx, e2⟩ := k b hb
      exact ⟨x, hx, e2.trans e1⟩
theorem Sub.off {p q : Option Addr} {c d : Nat} (h : Sub p c q d) {X : Nat → Prop} (hx : Off X q d) : Off X p c := by
  rcases h with h | ⟨hd, h⟩
  · exact .inl h
  · rcases hx with hx | hx
    · exact absurd hx hd
    · refine .inr fun a ha => ?_
      obtain ⟨b, hb, e⟩ := h a ha
      rw [← e]
      exact hx b hb
theorem Bys.off {w : World} {p : Option Addr} {l : List UInt8} {c : Nat} (h : Bys w p l c) {X : Nat → Prop} (hx : ∀ k, X k → w.heap.size ≤ k) : Off X p c := by
  rcases h.2 with h0 | ⟨bk, off, e, hl, _⟩
  · exact .inl h0
  · refine .inr fun a ha hX => ?_
    rw [e] at ha
    cases ha
    have := hx _ hX
    simp only at this
    omega
theorem Bys.on {w w' : World} {p : Option Addr} {l : List UInt8} {c : Nat} (h : Bys w p l c) (k : G w w') : Bys w' p l c :=
  ⟨h.1, h.2.imp_right fun ⟨b, o, e, hl, i⟩ => ⟨b, o, e, Nat.lt_of_lt_of_le hl k.size, fun j x hx => k.cell (i j x hx)⟩⟩
theorem Bys.turn {X : Nat → Prop} {w w' : World} {p : Option Addr} {l : List UInt8} {c : Nat} (h : Bys w p l c) (hg : Turn X w w') (hx : Off X p c) : Bys w' p l c := by
  refine ⟨h.1, ?_⟩
  rcases h.2 with h0 | ⟨b, o, e, hl, i⟩
  · exact .inl h0
  · rcases hx with hx | hx
    · exact .inl hx
    · exact .inr ⟨b, o, e, Nat.lt_of_lt_of_le hl hg.size, fun j x hj => turn_cell (i j x hj) hg (show ¬ X b from hx _ e)⟩
/-- The reader: what is left, and the first error. -/
structure Rd (w : World) (rb : Nat) (p : Option Addr) (l : List UInt8) (c : Nat) (e : Int) : Prop where
  lt : rb < w.heap.size
  c0 : w.cell? ⟨rb, 0, none⟩ = some (.slice p l.length c)
  c1 : w.cell? ⟨rb, 1, none⟩ = some (.int .i64 e)
  fr : ∀ i : Nat, w.frozen? ⟨rb, i, none⟩ = false
  bs : Bys w p l c
  ne : Off (fun k => k = rb) p c
theorem Rd.on {w w' : World} {rb : Nat} {p : Option Addr} {l : List UInt8} {c : Nat} {e : Int} (h : Rd w rb p l c e) (k : G w w') : Rd w' rb p l c e :=
  ⟨Nat.lt_of_lt_of_le h.lt k.size, k.cell h.c0, k.cell h.c1, fun i => (Below.frozen k h.lt).trans (h.fr i), h.bs.on k, h.ne⟩
theorem Rd.turn {X : Nat → Prop} {w w' : World} {rb : Nat} {p : Option Addr} {l : List UInt8} {c : Nat} {e : Int} (h : Rd w rb p l c e) (hg : Turn X w w') (h1 : ¬ X rb) (hx : Off X p c) : Rd w' rb p l c e := by
  have hb := hg.block rb h.lt h1
  exact ⟨Nat.lt_of_lt_of_le h.lt hg.size, turn_cell h.c0 hg h1, turn_cell h.c1 hg h1, fun i => (World.frozen?_of_block hb).trans (h.fr i), h.bs.turn hg hx, h.ne⟩
theorem Rd.err {w : World} {rb : Nat} {p : Option Addr} {l : List UInt8} {c : Nat} {e : Int} (h : Rd w rb p l c e) (e' : Int) : Rd (w.setCell ⟨rb, 1, none⟩ (.int .i64 e')) rb p l c e' := by
  obtain ⟨hl, c0, c1, f, bs, ne⟩ := h
  refine ⟨by simpa using hl, ?_, ?_, fun i => ?_, bs.turn (Turn.set (X := fun k => k = rb) _ rfl _) ne, ne⟩ <;> simp [go_sem, c0, c1, f]
theorem Rd.row {w : World} {rb : Nat} {p : Option Addr} {l : List UInt8} {c : Nat} {e : Int} (h : Rd w rb p l c e) {p' : Option Addr} {l' : List UInt8} {c' : Nat} (hb : Bys w p' l' c') (hn : Off (fun k => k = rb) p' c') : Rd (w.setCell ⟨rb, 0, none⟩ (.slice p' l'.length c')) rb p' l' c' e := by
  obtain ⟨hl, c0, c1, f, bs, ne⟩ := h
  refine ⟨by simpa using hl, ?_, ?_, fun i => ?_, hb.turn (Turn.set (X := fun k => k = rb) _ rfl _) hn, hn⟩ <;> simp [go_sem, c0, c1, f]

/-- The first error, behind a question. -/
def askR (ok : Bool) (e' e : Int) : Int := if ok = false ∧ e = 0 then e' else e
set_option maxRecDepth 100000 in
theorem ask_any (rb : Nat) (p : Option Addr) (l : List UInt8) (c : Nat) (e e' : Int) (ok : Bool) (w : World) (h : Rd w rb p l c e) :
    Calls Tryd.prog 37 #[.pointer (some ⟨rb, 0, none⟩), .bool ok, .int .i64 e'] w fun x w' => x = .returned (.bool (decide (askR ok e' e = 0))) ∧ Rd w' rb p l c (askR ok e' e) ∧ Turn (fun k => k = rb) w w' := by
  have HR := hid h
  obtain ⟨hl, c0, c1, f, bs, ne⟩ := h
  clear bs ne
  by_cases he : e = 0
  · subst he
    cases ok
    · have f1 := f 1
      have HE : Hid (askR false e' 0 = e') := hid (by simp [askR])
      rw [HE.out]
      obtain ⟨d, hd⟩ : ∃ d, Hid (decide (e' = 0) = d) := ⟨_, rfl⟩
      go_enter Tryd.func37, Tryd.ntmps37
      go_wp2_with fail
      go_ret
      refine ⟨?_, HR.out.err e', Turn.set (X := fun k => k = rb) _ rfl _⟩
      by_cases h0 : e' = 0 <;> simp [h0]
    · have HE : Hid (askR true e' 0 = 0) := hid (by simp [askR])
      rw [HE.out]
      go_enter Tryd.func37, Tryd.ntmps37
      go_wp2_with fail
      go_ret
      exact ⟨rfl, HR.out, Turn.refl _ _⟩
  · have HE : Hid (askR ok e' e = e) := hid (by simp [askR, he])
    rw [HE.out]
    have he2 : (e == 0) = false := by simp [he]
    have HX := hid he
    clear he
    cases ok
    all_goals (
      go_enter Tryd.func37, Tryd.ntmps37
      go_wp2_with fail
      go_ret
      refine ⟨?_, HR.out, Turn.refl _ _⟩
      simp [HX.out])
set_option maxRecDepth 100000 in
theorem some_no (rb : Nat) (p : Option Addr) (l : List UInt8) (c : Nat) (e : Int) (n : Nat) (w : World) (h : Rd w rb p l c e) {e1 : Int} (he : askR (decide (n ≤ l.length)) 2 e = e1) (h1 : e1 ≠ 0) (hl : l.length ≤ 1000000) :
    Calls Tryd.prog 54 #[.pointer (some ⟨rb, 0, none⟩), .int .i64 n] w fun x w' => x = .returned (.slice none 0 0) ∧ Rd w' rb p l c e1 ∧ Turn (fun k => k = rb) w w' := by
  have HR := hid h
  obtain ⟨hlt, c0, c1, f, bs, ne⟩ := h
  clear bs ne
  have HE := hid he
  have H1 := hid h1
  obtain ⟨ok, hok⟩ : ∃ ok, Hid (decide (n ≤ l.length) = ok) := ⟨_, rfl⟩
  rw [hok.out] at HE
  have hdz := hok.out
  clear he h1
  go_enter Tryd.func54, Tryd.ntmps54
  go_wp2_with fail
  refine (ask_any rb p l c e 2 ok _ HR.out).mono ?_
  rintro x w1 ⟨rfl, hr, ht⟩
  rw [HE.out] at hr ⊢
  rw [show decide (e1 = 0) = false from decide_eq_false H1.out]
  have HR1 := hid hr
  have HT1 := hid ht
  clear c0 c1 f hr ht hdz
  go_wp2_with fail
  go_ret
  exact ⟨rfl, HR1.out, HT1.out⟩
theorem some_ok {n : Nat} {l : List UInt8} {e : Int} (h : askR (decide (n ≤ l.length)) 2 e = 0) : n ≤ l.length ∧ e = 0 := by
  unfold askR at h
  split at h
  · cases h
  · rename_i hn
    subst h
    simp at hn
    exact ⟨hn, rfl⟩
theorem Bys.take {w : World} {p : Option Addr} {l : List UInt8} {c : Nat} (h : Bys w p l c) (n : Nat) : Bys w p (l.take n) c :=
  ⟨Nat.le_trans (List.length_take_le' _ _) h.1, h.2.imp_right fun ⟨b, o, e, hl, i⟩ => ⟨b, o, e, hl, fun j x hj => by
    rw [List.getElem?_take] at hj
    split at hj
    · exact i j x hj
    · cases hj⟩⟩
theorem Bys.drop {w : World} {bk off : Nat} {l : List UInt8} {c : Nat} (h : Bys w (some ⟨bk, off, none⟩) l c) (n : Nat) (hn : n ≤ l.length) : Bys w (some ⟨bk, off + n, none⟩) (l.drop n) (c - n) := by
  have hl := h.1
  refine ⟨by rw [List.length_drop]; omega, ?_⟩
  rcases h.2 with h0 | ⟨b, o, e, hlt, i⟩
  · left
    omega
  · right
    cases e
    refine ⟨bk, off + n, rfl, hlt, fun j x hj => ?_⟩
    rw [List.getElem?_drop] at hj
    have := i _ _ hj
    rw [show off + n + j = off + (n + j) by omega]
    exact this
/-- What some hands back and leaves. -/
def SomeYes (rb : Nat) (p : Option Addr) (c : Nat) (l : List UInt8) (n : Nat) (w : World) (x : Ending) (w' : World) : Prop :=
  ∃ p1 c1 p2 c2, x = .returned (.slice p1 n c1) ∧ Bys w' p1 (l.take n) c1 ∧ Rd w' rb p2 (l.drop n) c2 0 ∧ Sub p1 c1 p c ∧ Sub p2 c2 p c ∧ Turn (fun k => k = rb) w w'
set_option maxRecDepth 100000 in
theorem some_yes (rb : Nat) (p : Option Addr) (l : List UInt8) (c : Nat) (e : Int) (n : Nat) (w : World) (h : Rd w rb p l c e) (he : askR (decide (n ≤ l.length)) 2 e = 0) (hl : l.length ≤ 1000000) :
    Calls Tryd.prog 54 #[.pointer (some ⟨rb, 0, none⟩), .int .i64 n] w (SomeYes rb p c l n w) := by
  obtain ⟨hn, rfl⟩ := some_ok he
  have HR := hid h
  obtain ⟨hlt, c0, c1, f, bs, ne⟩ := h
  have BS := hid bs
  have NE := hid ne
  have HE := hid he
  have hd : decide (n ≤ l.length) = true := decide_eq_true hn
  have hlc := bs.1
  rcases (show c = 0 ∨ (0 < c ∧ n = c) ∨ (0 < c ∧ n < c) by omega) with hc | ⟨hc, hnc⟩ | ⟨hc, hnc⟩
  · have hl0 : l = [] := List.eq_nil_of_length_eq_zero (by omega)
    subst hl0
    obtain rfl : n = 0 := by simpa using hn
    subst hc
    clear bs ne he
    rcases p with _ | a
    all_goals (
      go_enter Tryd.func54, Tryd.ntmps54
      go_wp2_with fail
      refine (ask_any rb _ _ _ 0 2 true _ HR.out).mono ?_
      rintro x w1 ⟨rfl, hr, ht⟩
      have HR1 := hid hr
      have HT1 := hid ht
      obtain ⟨hlt1, d0, d1, f1, bs1, ne1⟩ := hr
      clear c0 c1 f ht bs1 ne1
      rw [show askR true 2 0 = 0 from rfl] at d1 ⊢
      simp only [show decide ((0 : Int) = 0) = true from rfl]
      go_wp2_with fail
      go_ret
      exact ⟨_, 0, _, 0, rfl, ⟨Nat.le_refl _, .inl rfl⟩, HR1.out.row (l' := []) (c' := 0) ⟨Nat.le_refl _, .inl rfl⟩ NE.out, Sub.refl _ _, Sub.refl _ _, HT1.out.trans (Turn.set (X := fun k => k = rb) _ rfl _)⟩)
  · rcases bs.2 with h0 | ⟨bk, off, rfl, _, _⟩
    · omega
    · obtain rfl : n = c := hnc
      have hln : l.length = n := by omega
      clear bs ne he
      go_enter Tryd.func54, Tryd.ntmps54
      go_wp2_with fail
      refine (ask_any rb _ _ _ 0 2 true _ HR.out).mono ?_
      rintro x w1 ⟨rfl, hr, ht⟩
      have HR1 := hid hr
      have HT1 := hid ht
      obtain ⟨hlt1, d0, d1, f1, bs1, ne1⟩ := hr
      clear c0 c1 f ht bs1 ne1
      rw [show askR true 2 0 = 0 from rfl] at d1 ⊢
      simp only [show decide ((0 : Int) = 0) = true from rfl]
      go_wp2_with fail
      go_ret
      have hdn : l.drop n = [] := List.drop_eq_nil_of_le (by omega)
      refine ⟨some ⟨bk, off, none⟩, n, some ⟨bk, off, none⟩, 0, rfl, (HR1.out.bs.take n).turn (Turn.set (X := fun k => k = rb) _ rfl _) NE.out, ?_, Sub.refl _ _, .inl rfl, HT1.out.trans (Turn.set (X := fun k => k = rb) _ rfl _)⟩
      rw [hdn]
      exact HR1.out.row (l' := []) (c' := 0) ⟨Nat.le_refl _, .inl rfl⟩ (.inl rfl)
  · rcases bs.2 with h0 | ⟨bk, off, rfl, _, _⟩
    · omega
    · clear bs ne he
      go_enter Tryd.func54, Tryd.ntmps54
      go_wp2_with fail
      refine (ask_any rb _ _ _ 0 2 true _ HR.out).mono ?_
      rintro x w1 ⟨rfl, hr, ht⟩
      have HR1 := hid hr
      have HT1 := hid ht
      obtain ⟨hlt1, d0, d1, f1, bs1, ne1⟩ := hr
      clear c0 c1 f ht bs1 ne1
      rw [show askR true 2 0 = 0 from rfl] at d1 ⊢
      simp only [show decide ((0 : Int) = 0) = true from rfl]
      go_wp2_with fail
      go_ret
      have hb2 := (HR1.out.bs.drop n hn)
      have hs2 : Sub (some ⟨bk, off + n, none⟩) (c - n) (some ⟨bk, off, none⟩) c := .inr ⟨by omega, fun a ha => by cases ha; exact ⟨_, rfl, rfl⟩⟩
      have hne2 : Off (fun k => k = rb) (some ⟨bk, off + n, none⟩) (c - n) := hs2.off NE.out
      have hr2 := HR1.out.row hb2 hne2
      have hT : Turn (fun k => k = rb) w1 (w1.setCell ⟨rb, 0, none⟩ (.slice (some ⟨bk, off + n, none⟩) (l.drop n).length (c - n))) := Turn.set (X := fun k => k = rb) _ rfl _
      rw [List.length_drop] at hr2 hT
      refine ⟨some ⟨bk, off, none⟩, c, some ⟨bk, off + n, none⟩, c - n, rfl, (HR1.out.bs.take n).turn hT NE.out, hr2, Sub.refl _ _, hs2, HT1.out.trans hT⟩
end Go.Proofs.YtpeioflembhedaaDoor
