/-
  Put's own closure: a number's eight bytes behind the row that it has caught. No conditions but on sizes that rows have.
-/
import Derived.Test.YtpeioflembhedaaDoorEffs
namespace Go.Proofs.YtpeioflembhedaaDoor
open Go.RowKit

/-- A variable holds a row of the call's own of bytes, behind block B; the row does not lie in the variable. -/
structure Bag (w : World) (bb B : Nat) (v : Value) (l : List UInt8) : Prop where
  one : One w bb v
  own : w.ownsRow B 5 1 v l.length (bys l)
  ne : ∀ j, v.ownBlock = some j → j ≠ bb
theorem slice_form {w : World} {B n e s : Nat} {v : Value} {xs : List Value} (h : w.ownsRow B e s v n xs) : v = .slice none 0 0 ∨ ∃ g n c, v = .slice (some ⟨g, 0, none⟩) n c := by
  rcases own_form h with ⟨e, _⟩ | ⟨g, c, e, _⟩
  · exact .inl e
  · exact .inr ⟨g, _, c, e⟩
/-- A row of bytes does not lie where a slice lies. -/
theorem row_ne {w : World} {bb B n : Nat} {u v : Value} {l : List UInt8} (h1 : One w bb u) (hu : u = .slice none 0 0 ∨ ∃ g n c, u = .slice (some ⟨g, 0, none⟩) n c) (h : w.ownsRow B 5 1 v n (bys l)) (hl : bys l ≠ []) : ∀ j, v.ownBlock = some j → j ≠ bb := by
  intro j hj e
  subst e
  have hc := h.cells hj
  cases l with
  | nil => exact hl rfl
  | cons x xs =>
    have h2 := hc 0 (.int .u8 x.toNat) rfl
    have h3 : w.cell? ⟨j, 0, none⟩ = some (.int .u8 x.toNat) := h2
    rw [h1.c0] at h3
    rcases hu with rfl | ⟨g, n, c, rfl⟩ <;> cases h3
set_option maxRecDepth 100000 in
set_option maxHeartbeats 1000000 in
theorem putn_any (n : Int) (bb B : Nat) (v : Value) (l : List UInt8) (w : World) (h0 : -9223372036854775808 ≤ n) (h1 : n ≤ 9223372036854775807) (hb : Bag w bb B v l) (hB : B ≤ w.heap.size) (hl : l.length ≤ 1000000000) :
    Calls Tryd.prog 30 #[.int .i64 n, .pointer (some ⟨bb, 0, none⟩)] w fun e w' => e = .returned undef ∧ ∃ v', Bag w' bb B v' (l ++ eightR n) ∧ Turn (fun k => k = bb ∨ v.ownBlock = some k) w w' := by
  obtain ⟨i, i1, i2, i3, i4⟩ := info5
  go_enter Tryd.func30, Tryd.ntmps30
  refine wp_region_flow 7 [0, 1] [2, 3, 4] [1] (fun j => if j ≤ 1 then [0] else []) (fun i => if i = 0 then v else .int .i64 n) (by kernel_rfl) (by kernel_rfl) rfl ?_ ?_
  · intro w1
    refine ⟨⟨_, rfl, fun a hin => ?_⟩, trivial⟩
    exact pure_move rfl rfl (hin 0 (by decide))
  · have hb1 : One w.drew bb v := hb.one.mono (G.drew (G.refl w))
    refine ⟨⟨⟨_, rfl, fun a hin => pure_load34 rfl rfl hb1 (hin 1 (by decide))⟩, trivial⟩, _, rfl, fun a hin => ⟨rfl, ?_⟩⟩
    have h4 : a.eval (.tmp 4) = .int .i64 n := hin 4 (by decide)
    refine eff_call Tryd.call31 #[.int .i64 n] (by simp only [List.map_toArray, List.map_cons, List.map_nil, h4]) ((bytes_any n _ h0 h1).mono ?_)
    rintro e w2 ⟨u, rfl, hu, hg⟩
    refine ⟨u, rfl, ?_⟩
    have g2 : G w w2 := (G.drew (G.refl w)).trans hg
    have hb2 : One w2 bb v := hb.one.mono g2
    refine ⟨⟨⟨_, rfl, fun a hin => pure_load34 rfl rfl hb2 (hin 1 (by decide))⟩, trivial⟩, _, rfl, fun a hin => ⟨rfl, ?_⟩⟩
    have h3 : a.eval (.tmp 3) = v := hin 3 (by decide)
    have h5 : a.eval (.tmp 5) = u := hin 5 (by decide)
    obtain ⟨g, c, rfl⟩ := own_some hu (by decide)
    refine eff_append _ _ 34 rfl B 5 i _ 1 1 Tryd.underlying34 i1 i2 i3 i4 rfl (by decide) v l.length (bys l) h3 (own_g hb.own g2) ⟨g, 0, none⟩ 8 c (bys (eightR n)) h5 rfl (own_cells hu) (bys_one _) (by unfold maxLen; omega) (by omega) (Nat.le_trans hB g2.size) ?_
    intro v' w3 hown hgr
    refine ⟨trivial, _, rfl, fun a hin => ⟨rfl, ?_⟩⟩
    have h1' : a.eval (.tmp 1) = .pointer (some ⟨bb, 0, none⟩) := hin 1 (by decide)
    have h6 : a.eval (.tmp 6) = v' := hin 6 (by decide)
    have hb3 : One w3 bb v := hb2.turned hgr hb.ne
    refine eff_store34 rfl hb3 h1' h6 (slice_form hown) ?_
    refine ⟨trivial, fun s hs => ?_⟩
    rw [show List.range 7 = [0, 1, 2, 3, 4, 5, 6] from rfl]
    simp only [List.map_cons, List.map_nil]
    go_end0
    refine ⟨rfl, v', ⟨hb3.set v', ?_, ?_⟩, ?_⟩
    · have e : (l ++ eightR n).length = l.length + 8 := by simp [eightR]
      rw [e, bys_append]
      refine own_keep hown (fun j hj => ?_) _
      rw [← bys_append] at hown
      exact row_ne hb3 (slice_form hb.own) hown (by simp [bys, eightR]) j hj
    · rw [← bys_append] at hown
      exact row_ne hb3 (slice_form hb.own) hown (by simp [bys, eightR])
    · exact ((Turn.of g2).trans (Turn.grown hgr (fun k hk => .inr hk))).trans (Turn.set _ (.inl rfl) _)
end Go.Proofs.YtpeioflembhedaaDoor
