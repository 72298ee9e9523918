/-
  What an instruction has: the map that tells it, made anew at each call; what is found in it. No conditions.
-/
import Derived.Test.YtpeioflembhedaaDoorGrow
import Derived.Test.YtpeioflembhedaaDoorChecked
import Derived.WalkKit
import Derived.WalkSpells
import Derived.Maps.Own
namespace Go.Proofs.YtpeioflembhedaaDoor
open Go.RowKit Go.Maps

theorem hid {p : Prop} (h : p) : Hid p := h
theorem law3 : Keyed Tryd.prog 3 := int_keyed Tryd.underlying3
theorem zero3 (w : World) : (zeroValue 3).run Tryd.prog w = .ok (.int .i64 0) w := by kernel_rfl
/-- The map that the call has made as its first block, and nothing that was there has turned. -/
def Mp (w0 w : World) (n : Nat) (D : DataW Unit) : Prop := w.ownsMap Tryd.prog 3 (plainElem Tryd.prog 3) w0.heap.size n D ∧ G w0 w
theorem made (w : World) : Mp w (w.alloc (.map #[] 0)) 0 (.map []) := ⟨World.ownsMap_made _ _ _ _, (G.refl w).alloc _⟩
theorem upd {w0 w : World} {n : Nat} {D : DataW Unit} (h : Mp w0 w n D) (hn : n < maxLen) (k c : Int) (wk : (Lit.int .i64 k).wf = true) (wc : (Lit.int .i64 c).wf = true) :
    ∃ w', (Instr.mapUpdate 66 (.map (some w0.heap.size)) (.int .i64 k) (.int .i64 c)).run Tryd.prog w = .ok () w' ∧ Mp w0 w' (n + 1) (D.put (.int .i64 k) (.lit (.int .i64 c))) := by
  obtain ⟨w', hrun, r1, r2⟩ := h.1.update law3 Tryd.underlying66 hn (keyOf_int_mk Tryd.underlying3 wk) (plainElem_int Tryd.underlying3 wc)
  exact ⟨w', hrun, r1, h.2.grown r2 fun j hj => by cases hj; exact Nat.le_refl _⟩

/-- All that the map tells. -/
def told : DataW Unit := ((((((((((((((((DataW.map []).put (.int .i64 1) (.lit (.int .i64 1))).put (.int .i64 2) (.lit (.int .i64 1))).put (.int .i64 3) (.lit (.int .i64 1))).put (.int .i64 6) (.lit (.int .i64 1))).put (.int .i64 11) (.lit (.int .i64 1))).put (.int .i64 12) (.lit (.int .i64 1))).put (.int .i64 16) (.lit (.int .i64 1))).put (.int .i64 17) (.lit (.int .i64 1))).put (.int .i64 18) (.lit (.int .i64 1))).put (.int .i64 19) (.lit (.int .i64 1))).put (.int .i64 22) (.lit (.int .i64 1))).put (.int .i64 5) (.lit (.int .i64 3))).put (.int .i64 20) (.lit (.int .i64 3))).put (.int .i64 4) (.lit (.int .i64 4))).put (.int .i64 7) (.lit (.int .i64 4)))
set_option maxRecDepth 20000 in
theorem shapes_any (w : World) : Calls Tryd.prog 47 #[] w fun e w' => e = .returned (.map (some w.heap.size)) ∧ Mp w w' 15 told := by
  have hmm := @run_makeMap Tryd.prog
  have m0 := made w
  obtain ⟨w1, e1, m1⟩ := upd m0 (by unfold maxLen; omega) 1 1 (by decide) (by decide)
  obtain ⟨w2, e2, m2⟩ := upd m1 (by unfold maxLen; omega) 2 1 (by decide) (by decide)
  obtain ⟨w3, e3, m3⟩ := upd m2 (by unfold maxLen; omega) 3 1 (by decide) (by decide)
  obtain ⟨w4, e4, m4⟩ := upd m3 (by unfold maxLen; omega) 6 1 (by decide) (by decide)
  obtain ⟨w5, e5, m5⟩ := upd m4 (by unfold maxLen; omega) 11 1 (by decide) (by decide)
  obtain ⟨w6, e6, m6⟩ := upd m5 (by unfold maxLen; omega) 12 1 (by decide) (by decide)
  obtain ⟨w7, e7, m7⟩ := upd m6 (by unfold maxLen; omega) 16 1 (by decide) (by decide)
  obtain ⟨w8, e8, m8⟩ := upd m7 (by unfold maxLen; omega) 17 1 (by decide) (by decide)
  obtain ⟨w9, e9, m9⟩ := upd m8 (by unfold maxLen; omega) 18 1 (by decide) (by decide)
  obtain ⟨w10, e10, m10⟩ := upd m9 (by unfold maxLen; omega) 19 1 (by decide) (by decide)
  obtain ⟨w11, e11, m11⟩ := upd m10 (by unfold maxLen; omega) 22 1 (by decide) (by decide)
  obtain ⟨w12, e12, m12⟩ := upd m11 (by unfold maxLen; omega) 5 3 (by decide) (by decide)
  obtain ⟨w13, e13, m13⟩ := upd m12 (by unfold maxLen; omega) 20 3 (by decide) (by decide)
  obtain ⟨w14, e14, m14⟩ := upd m13 (by unfold maxLen; omega) 4 4 (by decide) (by decide)
  obtain ⟨w15, e15, m15⟩ := upd m14 (by unfold maxLen; omega) 7 4 (by decide) (by decide)
  have M := hid m15
  clear m0 m1 m2 m3 m4 m5 m6 m7 m8 m9 m10 m11 m12 m13 m14 m15
  go_enter Tryd.func47, Tryd.ntmps47
  go_wp2_with fail
  go_ret
  exact ⟨rfl, M.out⟩

/-- What an instruction of a kind has: 1 its first number, 2 its second, 4 its text. -/
def shapeR (x : Int) : Int := if x = 1 ∨ x = 2 ∨ x = 3 ∨ x = 6 ∨ x = 11 ∨ x = 12 ∨ x = 16 ∨ x = 17 ∨ x = 18 ∨ x = 19 ∨ x = 22 then 1 else if x = 5 ∨ x = 20 then 3 else if x = 4 ∨ x = 7 then 4 else 0
theorem found (x c : Int) (h : told.atKey (.int .i64 x) (.lit (.int .i64 0)) = .lit (.int .i64 c)) : c = shapeR x := by
  have e : told = .map [(.int .i64 1, .lit (.int .i64 1)), (.int .i64 2, .lit (.int .i64 1)), (.int .i64 3, .lit (.int .i64 1)), (.int .i64 4, .lit (.int .i64 4)), (.int .i64 5, .lit (.int .i64 3)), (.int .i64 6, .lit (.int .i64 1)), (.int .i64 7, .lit (.int .i64 4)), (.int .i64 11, .lit (.int .i64 1)), (.int .i64 12, .lit (.int .i64 1)), (.int .i64 16, .lit (.int .i64 1)), (.int .i64 17, .lit (.int .i64 1)), (.int .i64 18, .lit (.int .i64 1)), (.int .i64 19, .lit (.int .i64 1)), (.int .i64 20, .lit (.int .i64 3)), (.int .i64 22, .lit (.int .i64 1))] := by rfl
  rw [e] at h
  simp only [DataW.atKey, List.find?, Lit.sameKey] at h
  by_cases k1 : x = 1
  · subst k1
    simp at h
    subst h
    simp [shapeR]
  by_cases k2 : x = 2
  · subst k2
    simp at h
    subst h
    simp [shapeR]
  by_cases k3 : x = 3
  · subst k3
    simp at h
    subst h
    simp [shapeR]
  by_cases k4 : x = 4
  · subst k4
    simp at h
    subst h
    simp [shapeR]
  by_cases k5 : x = 5
  · subst k5
    simp at h
    subst h
    simp [shapeR]
  by_cases k6 : x = 6
  · subst k6
    simp at h
    subst h
    simp [shapeR]
  by_cases k7 : x = 7
  · subst k7
    simp at h
    subst h
    simp [shapeR]
  by_cases k11 : x = 11
  · subst k11
    simp at h
    subst h
    simp [shapeR]
  by_cases k12 : x = 12
  · subst k12
    simp at h
    subst h
    simp [shapeR]
  by_cases k16 : x = 16
  · subst k16
    simp at h
    subst h
    simp [shapeR]
  by_cases k17 : x = 17
  · subst k17
    simp at h
    subst h
    simp [shapeR]
  by_cases k18 : x = 18
  · subst k18
    simp at h
    subst h
    simp [shapeR]
  by_cases k19 : x = 19
  · subst k19
    simp at h
    subst h
    simp [shapeR]
  by_cases k20 : x = 20
  · subst k20
    simp at h
    subst h
    simp [shapeR]
  by_cases k22 : x = 22
  · subst k22
    simp at h
    subst h
    simp [shapeR]
  simp [Ne.symm k1, Ne.symm k2, Ne.symm k3, Ne.symm k4, Ne.symm k5, Ne.symm k6, Ne.symm k7, Ne.symm k11, Ne.symm k12, Ne.symm k16, Ne.symm k17, Ne.symm k18, Ne.symm k19, Ne.symm k20, Ne.symm k22] at h
  subst h
  simp [shapeR, k1, k2, k3, k4, k5, k6, k7, k11, k12, k16, k17, k18, k19, k20, k22]
theorem shape_any (x : Int) (h0 : -9223372036854775808 ≤ x) (h1 : x ≤ 9223372036854775807) (w : World) : Calls Tryd.prog 22 #[.int .i64 x] w fun e w' => e = .returned (.int .i64 (shapeR x)) ∧ G w w' := by
  have wx : (Lit.int .i64 x).wf = true := by simp [Lit.wf, IntKind.min, IntKind.max, IntKind.signed, IntKind.bits]; omega
  go_enter Tryd.func22, Tryd.ntmps22
  go_wp2_with fail
  refine (shapes_any _).mono ?_
  rintro e w1 ⟨rfl, m1⟩
  obtain ⟨c, hrun, hat, _⟩ := m1.1.lookup_int law3 Tryd.underlying66 Tryd.underlying3 (zero3 _) (keyOf_int_mk Tryd.underlying3 wx)
  have hc := found x c hat
  have HG := hid m1.2
  clear hat m1
  go_wp2_with fail
  go_ret
  exact ⟨rfl, HG.out⟩
end Go.Proofs.YtpeioflembhedaaDoor
