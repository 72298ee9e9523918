/-
  ValueTexts holds, whatever the input: the Go function returns true, and the arguments read as they did; and its card. No conditions.
-/
import Derived.Test.YtlmmpcoakemooaaDoorCards
import Derived.Test.YtlmmpcoakemooaaDoorTie
import Derived.Test.YtlmmpcoakemooaaDoorTextsLaw
import Derived.WalkKit
import Derived.ProofKit
import Derived.OpenShut
import Derived.Deep.DeepHandedRow
import Derived.Lib.LaidTab
import Derived.Lib.SmallJoins
import Derived.Stop.LaidErr
namespace Go.Proofs.YtlmmpcoakemooaaDoor.valueTexts
open Go.ChangeShapes Go.WideShapes Go.ChangeAt Go.RowKit Go.Joins
set_option linter.unusedVariables false

theorem own : ownKnob Tryd.prog.godebug = none := by kernel_rfl
theorem cells24 : Tryd.prog.cellsOf 24 = 3 := by kernel_rfl

theorem gPow : Tryd.prog.globalNamed "internal/strconv.uint64pow10" = some 0 := by kernel_rfl
theorem gPowType : (Tryd.prog.globals[0]?).map (·.type) = some 56 := by kernel_rfl
theorem cells48 : Tryd.prog.cellsOf 48 = 1 := by kernel_rfl
theorem cells56 : Tryd.prog.cellsOf 56 = 20 := by kernel_rfl
/-- What the row's list gives of the powers of ten. -/
theorem table {W : World} (h : laidMetH Tryd.prog Rows.valueTextsRow.laid W) : Tab W :=
  Lib.tabIs_of_head (rest := []) gPow gPowType Tryd.underlying56 Tryd.underlying48 cells48 cells56 (laidMet.tail (laidMet.tail h))

theorem contract (H : Type) (enc : TypeId × Value → H) (W : World) (base : Nat) (args : Array Value) (ds gs : List (DataW H)) (before : List MemPlace)
    (hval0 : ∀ (j : Nat) t v, Tryd.f9.params[j]? = some t → args[j]? = some v → Value.okWide Tryd.prog W .any base t v)
    (hW : DataW.Whole enc Tryd.prog Tryd.f9.params.toList Rows.valueTextsSpec.vars false W args.toList ds gs before) (hL : laidMetH Tryd.prog Rows.valueTextsRow.laid W) :
    Calls Tryd.prog 9 args W fun e W' => ∃ v, e = .returned v ∧ Rows.valueTextsSpec.post enc Tryd.prog Tryd.f9 false true false false W args v W' := by
  have hval : ∀ (j : Nat) t v, Tryd.f9.params[j]? = some t → args[j]? = some v → Value.okWide Tryd.prog W .any base t v := hval0
  have hW' := hW
  obtain ⟨p, q, hA0, hV, rfl, hfz, hnd⟩ := hW
  have hA : DataW.TrodAll enc Tryd.prog W 0 (fun _ => true) true Tryd.f9.params.toList args.toList ds p := hA0
  rw [Tryd.params9] at hA hval
  obtain ⟨v0, vs0, d0, ds0, p0, q0, hargs, rfl, rfl, h0, r0⟩ := trodAll_cons hA
  obtain ⟨v1, vs1, d1, ds1, p1, q1, rfl, rfl, rfl, h1, r1⟩ := trodAll_cons r0
  obtain ⟨rfl, rfl, rfl⟩ := trodAll_nil r1
  obtain rfl : args = #[v0, v1] := by cases args; simp_all
  obtain ⟨rfl, rfl⟩ := trodVars_none hV
  obtain ⟨c0, c1, c2, y0, y1, y2, m0, rfl, rfl, rfl, hy0, hy1, hy2⟩ := open_agg3 Tryd.underlying24 (by kernel_rfl) cells24 (hval 0 24 v0 rfl rfl) h0
  obtain ⟨t0, e0, rfl, wt0⟩ := DataW.trod_int Tryd.underlying3 hy0
  obtain ⟨n0, e1, rfl, wn0⟩ := DataW.trod_int Tryd.underlying3 hy1
  obtain ⟨s0, e2, rfl, ws0⟩ := DataW.trod_string Tryd.underlying9 hy2
  simp at e0 e1 e2
  subst e0 e1 e2
  have b0 : -9223372036854775808 ≤ n0 ∧ n0 ≤ 9223372036854775807 := by simpa [Lit.wf, IntKind.min, IntKind.max, IntKind.signed, IntKind.bits] using wn0
  obtain ⟨c0, c1, c2, y0, y1, y2, m1, rfl, rfl, rfl, hy0, hy1, hy2⟩ := open_agg3 Tryd.underlying24 (by kernel_rfl) cells24 (hval 1 24 v1 rfl rfl) h1
  obtain ⟨t1, e0, rfl, wt1⟩ := DataW.trod_int Tryd.underlying3 hy0
  obtain ⟨n1, e1, rfl, wn1⟩ := DataW.trod_int Tryd.underlying3 hy1
  obtain ⟨s1, e2, rfl, ws1⟩ := DataW.trod_string Tryd.underlying9 hy2
  simp at e0 e1 e2
  subst e0 e1 e2
  have b1 : -9223372036854775808 ≤ n1 ∧ n1 ≤ 9223372036854775807 := by simpa [Lit.wf, IntKind.min, IntKind.max, IntKind.signed, IntKind.bits] using wn1
  clear hA0 hval0
  refine (Bx.texts_law t0 n0 t1 n1 s0 s1 W b0.1 b0.2 b1.1 b1.2 (table hL)).mono fun e W' ⟨he, bel⟩ => ?_
  subst he
  exact ⟨_, rfl, _, _, _, [], _, [], hW', trodAll_mk1 (shut_bool Tryd.underlying4 _), (trodAll_cons_mk (shut_agg3 (y0 := (.lit (.int .i64 t0), [])) (y1 := (.lit (.int .i64 n0), [])) (y2 := (.lit (.string s0.data.toList), [])) Tryd.underlying24 (by kernel_rfl) cells24 ⟨1, by simp [DataW.trod, Tryd.underlying3, wt0]⟩ ⟨1, by simp [DataW.trod, Tryd.underlying3, wn0]⟩ ⟨1, by simp [DataW.trod, Tryd.underlying9, ws0]⟩) (trodAll_cons_mk (shut_agg3 (y0 := (.lit (.int .i64 t1), [])) (y1 := (.lit (.int .i64 n1), [])) (y2 := (.lit (.string s1.data.toList), [])) Tryd.underlying24 (by kernel_rfl) cells24 ⟨1, by simp [DataW.trod, Tryd.underlying3, wt1]⟩ ⟨1, by simp [DataW.trod, Tryd.underlying3, wn1]⟩ ⟨1, by simp [DataW.trod, Tryd.underlying9, ws1]⟩) trodAll_mk0)), rfl, bel.frame _, fun h => by cases h⟩

def put (cs : Array Value) : Obj → Obj
  | .cells _ t frozen => .cells cs t frozen
  | o => o
/-- A world for the witness: the three tables hold what their initialisers lay. -/
noncomputable def laidWorld (os : Os) : World :=
  { World.holding Tryd.prog os ⟨#[], #[], []⟩ with heap := (((World.holding Tryd.prog os ⟨#[], #[], []⟩).heap.modify 0 (put #[.int .u64 1, .int .u64 10, .int .u64 100, .int .u64 1000, .int .u64 10000, .int .u64 100000, .int .u64 1000000, .int .u64 10000000, .int .u64 100000000, .int .u64 1000000000, .int .u64 10000000000, .int .u64 100000000000, .int .u64 1000000000000, .int .u64 10000000000000, .int .u64 100000000000000, .int .u64 1000000000000000, .int .u64 10000000000000000, .int .u64 100000000000000000, .int .u64 1000000000000000000, .int .u64 10000000000000000000])).modify 1 (put #[.int .u8 0, .int .u8 1, .int .u8 28, .int .u8 2, .int .u8 29, .int .u8 14, .int .u8 24, .int .u8 3, .int .u8 30, .int .u8 22, .int .u8 20, .int .u8 15, .int .u8 25, .int .u8 17, .int .u8 4, .int .u8 8, .int .u8 31, .int .u8 27, .int .u8 13, .int .u8 23, .int .u8 21, .int .u8 19, .int .u8 16, .int .u8 7, .int .u8 26, .int .u8 12, .int .u8 18, .int .u8 6, .int .u8 11, .int .u8 5, .int .u8 10, .int .u8 9])).modify 2 (put #[.int .u8 0, .int .u8 1, .int .u8 56, .int .u8 2, .int .u8 57, .int .u8 49, .int .u8 28, .int .u8 3, .int .u8 61, .int .u8 58, .int .u8 42, .int .u8 50, .int .u8 38, .int .u8 29, .int .u8 17, .int .u8 4, .int .u8 62, .int .u8 47, .int .u8 59, .int .u8 36, .int .u8 45, .int .u8 43, .int .u8 51, .int .u8 22, .int .u8 53, .int .u8 39, .int .u8 33, .int .u8 30, .int .u8 24, .int .u8 18, .int .u8 12, .int .u8 5, .int .u8 63, .int .u8 55, .int .u8 48, .int .u8 27, .int .u8 60, .int .u8 41, .int .u8 37, .int .u8 16, .int .u8 46, .int .u8 35, .int .u8 44, .int .u8 21, .int .u8 52, .int .u8 32, .int .u8 23, .int .u8 11, .int .u8 54, .int .u8 26, .int .u8 40, .int .u8 15, .int .u8 34, .int .u8 20, .int .u8 31, .int .u8 10, .int .u8 25, .int .u8 14, .int .u8 19, .int .u8 9, .int .u8 13, .int .u8 8, .int .u8 7, .int .u8 6]) }
set_option maxRecDepth 100000 in
theorem laid_met (os : Os) : laidMet Tryd.prog Rows.valueTextsRow.laid ((laidWorld os).forCall (fun _ _ => 0) ⟨#[], #[.agg #[.int .i64 0, .int .i64 0, .string ⟨#[]⟩], .agg #[.int .i64 0, .int .i64 0, .string ⟨#[]⟩]], []⟩).memory :=
  laidMet_of_run' 8 (by kernel_rfl) (by kernel_rfl)
theorem reads (os : Os) {H : Type} (enc : TypeId × Value → H) : ∃ places, DataW.whole enc Tryd.prog ((laidWorld os).forCall (fun _ _ => 0) ⟨#[], #[.agg #[.int .i64 0, .int .i64 0, .string ⟨#[]⟩], .agg #[.int .i64 0, .int .i64 0, .string ⟨#[]⟩]], []⟩).memory Tryd.f9.params.toList Rows.valueTextsSpec.vars false (#[.agg #[.int .i64 0, .int .i64 0, .string ⟨#[]⟩], .agg #[.int .i64 0, .int .i64 0, .string ⟨#[]⟩]] : Array Value).toList 8 = some ([.agg [.lit (.int .i64 0), .lit (.int .i64 0), .lit (.string [])], .agg [.lit (.int .i64 0), .lit (.int .i64 0), .lit (.string [])]], [], places) :=
  ⟨[], by kernel_rfl⟩

set_option maxRecDepth 100000 in
theorem lifted (os : Os) (started : os.Started) (H : Type) (enc : TypeId × Value → H) (F : Stop.Interp) :
    ReturnsInHanded {} Tryd.checked os 9 .any ((OpenSpec.ofChange Rows.valueTextsSpec).preRow enc Tryd.prog Tryd.f9 Rows.valueTextsRow.domain false Rows.valueTextsRow.laid) (((OpenSpec.ofChange Rows.valueTextsSpec).at F).post enc Tryd.prog Tryd.f9 false true false false) := by
  obtain ⟨places, hx⟩ := reads os enc
  refine returnsInHanded_of_row (C := Tryd.checked) (s := OpenSpec.ofChange Rows.valueTextsSpec) own started (by kernel_rfl) Tryd.func9
    (witness_row_at (enc := enc) (C := Tryd.checked) false (laidWorld os) #[.agg #[.int .i64 0, .int .i64 0, .string ⟨#[]⟩], .agg #[.int .i64 0, .int .i64 0, .string ⟨#[]⟩]] rfl (by kernel_rfl) (by kernel_rfl) (by kernel_rfl)
      (OpenSpec.preRow_of_cond 8 hx (by kernel_rfl) (fun k hk => by cases hk) (by kernel_rfl) (laid_met os))) ?_
  intro W base args ds gs before hval hW _ _ _ hL _ _
  exact contract H enc W base args ds gs before hval hW hL

theorem said : Rows.ValueTextsSaid :=
  OpenClaim.holds_of_cond 9 Tryd.f9 rfl rfl rfl rfl rfl rfl rfl ⟨rfl, rfl, rfl, rfl, rfl⟩ rfl rfl rfl rfl rfl (by kernel_rfl) Tryd.func9 (by kernel_rfl)
    (of_decide_eq_true (by kernel_rfl)) (by unfold Func.isWrapper; first | (rw [if_pos (by decide +kernel)]; kernel_rfl) | (rw [if_neg (by decide +kernel)]; exact ⟨rfl, rfl⟩))
    (fun os started H enc _ F => by rw [OpenClaim.pre_eq_preRow]; exact lifted os started H enc F)

theorem plain (f : FuncId) (fn : Func) (hf : Tryd.pinned.checked.prog.funcNamed "furcate/furcatelaw05.ValueTexts" = some f) (hfn : Tryd.pinned.checked.prog.funcs[f]? = some fn) :
    false = Tryd.pinned.checked.prog.looks [] ∧ ∀ (j : Nat) t, fn.params[j]? = some t → Tryd.pinned.checked.prog.wantsStandIn t = false := by
  obtain rfl : f = 9 := Option.some.inj ((show Tryd.prog.funcNamed "furcate/furcatelaw05.ValueTexts" = some 9 by kernel_rfl).symm.trans hf) |>.symm
  obtain rfl : fn = Tryd.f9 := (Option.some.inj (Tryd.func9.symm.trans hfn)).symm
  refine ⟨by kernel_rfl, fun j t ht => ?_⟩
  rw [Tryd.params9] at ht
  have hm := Array.mem_of_getElem? ht
  simp only [List.mem_toArray, List.mem_cons, List.mem_nil_iff, or_false] at hm
  rcases hm with rfl | rfl
  · exact (show Tryd.prog.wantsStandIn 24 = false by kernel_rfl)
  · exact (show Tryd.prog.wantsStandIn 24 = false by kernel_rfl)

/-- THE CARD. -/
theorem proved : Rows.ValueTextsCardSaid :=
  Claim7.holds_tied_plain_at .later [] _ _ _ _ said (fun _ h => by cases h) (by kernel_rfl) (fun _ h => by cases h) valueTexts_row_tie rfl ⟨rfl, rfl⟩ (by kernel_rfl) rfl plain (by kernel_rfl)
#print axioms proved
end Go.Proofs.YtlmmpcoakemooaaDoor.valueTexts
