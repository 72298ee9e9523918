/-
  What Take gives, the program's and the reference's: the bytes ahead of the check, if it is theirs. No conditions.
-/
import Derived.Test.YtoodfngcfdhnfaaFns
import Derived.Deep.QuietTactic
import Derived.BigQuiet
namespace Go.Proofs.Ytoodfngcfdhnfaa
open Go.RowKit Go.Proofs.Ytoodfngcfdhnfaa.Crc

/-- Whether the last four bytes are the check of those ahead. -/
def okB (ns : List Nat) : Bool := decide (4 ≤ ns.length) && decide (le4 (go 0 (ns.take (ns.length - 4))) = ns.drop (ns.length - 4))
def taken (ns : List Nat) : List Nat := if okB ns then ns.take (ns.length - 4) else []

theorem bytes_take {ns : List Nat} (h : Bytes ns) (k : Nat) : Bytes (ns.take k) := fun b hb => h b (List.mem_of_mem_take hb)
theorem bytes_drop {ns : List Nat} (h : Bytes ns) (k : Nat) : Bytes (ns.drop k) := fun b hb => h b (List.mem_of_mem_drop hb)

theorem RowAt.tail {w : World} {p : Option Addr} {c : Nat} {ns : List Nat} (h : RowAt w p c ns) (k : Nat) (hk : k ≤ ns.length) :
    RowAt w (if c = k then p else p.map (·.add k)) (c - k) (ns.drop k) := by
  have := h.cut k ns.length hk (Nat.le_refl _)
  rw [List.take_of_length_le (by simp), Nat.mul_one] at this
  exact this

theorem owns_isRow {B : Nat} {w : World} {v : Value} {ns : List Nat} (hb : Bytes ns) (h : Owns B w v ns) : IsRow ns v w := h.row hb

theorem check_say {ns : List Nat} {v : Value} {w : World} (hv : IsRow ns v w) (hlen : ns.length ≤ 140737488355328) :
    Calls Try.prog 18 #[v] w fun e w' => ∃ u, e = .returned u ∧ G w w' ∧ IsRow (le4 (go 0 ns)) u w' := by
  obtain ⟨p, c, rfl, _, hr⟩ := hv
  exact (check_any p c ns w hr hlen).mono fun e w' ⟨u, he, ho, hg⟩ => ⟨u, he, hg, owns_isRow (le4_bytes _) ho⟩
theorem equal_say {a b : List Nat} {u v : Value} {w : World} (hu : IsRow a u w) (hv : IsRow b v w) :
    Calls Try.prog 17 #[u, v] w fun e w' => ∃ x, e = .returned x ∧ G w w' ∧ x = .bool (decide (a = b)) := by
  obtain ⟨p, c, rfl, _, hr⟩ := hu
  obtain ⟨q, d, rfl, _, hr2⟩ := hv
  exact (equal_any p q c d a b w hr hr2).mono fun e w' ⟨he, hw⟩ => ⟨_, he, hw ▸ G.refl _, rfl⟩

theorem G.drewN {a w : World} (h : G a w) (n : Nat) : G a (w.drewN n) := h.trans ⟨rfl, rfl, rfl, Nat.le_refl _, fun _ _ => rfl⟩

set_option maxHeartbeats 400000 in
theorem take_short (p : Option Addr) (c : Nat) (ns : List Nat) (w : World) (hlt : ns.length < 4) :
    Calls Try.prog 11 #[.slice p ns.length c] w fun e w' => e = .returned (.tuple #[.slice none 0 0, .bool false]) ∧ G w w' := by
  have hd : decide ((ns.length : Int) - 4 < 0) = true := by simp; omega
  go_enter Try.func11, Try.ntmps11
  go_wp2_with fail
  go_quiet (fail)
  go_wp2_with fail
  go_ret2
  exact ⟨rfl, (G.refl w).drewN _⟩

set_option maxHeartbeats 400000 in
theorem take_any (p : Option Addr) (c : Nat) (ns : List Nat) (w : World) (hr : RowAt w p c ns) (hc : c ≤ maxLen) (hlen : ns.length ≤ 100000) (h4 : 4 ≤ ns.length) :
    Calls Try.prog 11 #[.slice p ns.length c] w fun e w' => ∃ v, e = .returned (.tuple #[v, .bool (okB ns)]) ∧ IsRow (taken ns) v w' ∧ G w w' := by
  have hle := hr.le
  have hd : decide ((ns.length : Int) - 4 < 0) = false := by simp; omega
  go_enter Try.func11, Try.ntmps11
  go_wp2_with fail
  refine wp_region_grows (says [Say.is (.int .i64 ((ns.length : Int) - 4)), Say.is (.bool false), Say.is (.bool false), Say.is (.slice p ns.length c), Say.is (.int .i64 ((ns.length : Int) - 4)), Say.row (ns.take (ns.length - 4)), Say.row (le4 (go 0 (ns.take (ns.length - 4)))), Say.is (.slice p ns.length c), Say.is (.int .i64 ((ns.length : Int) - 4)), Say.row (ns.drop (ns.length - 4)), Say.is (.bool (decide (le4 (go 0 (ns.take (ns.length - 4))) = ns.drop (ns.length - 4)))), Say.is (.bool !(decide (le4 (go 0 (ns.take (ns.length - 4))) = ns.drop (ns.length - 4)))), Say.is (.bool !(decide (le4 (go 0 (ns.take (ns.length - 4))) = ns.drop (ns.length - 4))))]) 25 (by kernel_rfl) (by kernel_rfl) rfl (says_mono _) (allSteps_take ⟨?_, ?_, ?_, ?_, ?_, ?_, ?_, ?_, ?_, ?_, ?_, ?_, ?_, trivial⟩) ?_
  · intro a w1 hG hin
    have h4 : a.eval (.tmp 4) = .int .i64 ((ns.length : Int) - 4) := slot_out (hin 4 (by decide)) rfl
    clear hin
    exact .inl ⟨wanted_none rfl, grow_move rfl h4⟩
  · intro a w1 hG hin
    have h8 : a.eval (.tmp 8) = .int .i64 ((ns.length : Int) - 4) := slot_in (hin 8 (by decide)) rfl
    clear hin
    refine .inl ⟨wanted_none rfl, ?_⟩
    refine grow_run ?_ rfl
    unfold execOp
    simp only [h8]
    simp [go_sem, hd]
  · intro a w1 hG hin
    have h9 : a.eval (.tmp 9) = .bool false := slot_in (hin 9 (by decide)) rfl
    clear hin
    exact .inl ⟨wanted_none rfl, grow_move rfl h9⟩
  · intro a w1 hG hin
    have h0 : a.eval (.tmp 0) = .slice p ns.length c := slot_out (hin 0 (by decide)) rfl
    have h10 : a.eval (.tmp 10) = .bool false := slot_in (hin 10 (by decide)) rfl
    clear hin
    exact .inl ⟨wanted_yes rfl rfl h10, grow_move rfl h0⟩
  · intro a w1 hG hin
    have h4 : a.eval (.tmp 4) = .int .i64 ((ns.length : Int) - 4) := slot_out (hin 4 (by decide)) rfl
    have h10 : a.eval (.tmp 10) = .bool false := slot_in (hin 10 (by decide)) rfl
    clear hin
    exact .inl ⟨wanted_yes rfl rfl h10, grow_move rfl h4⟩
  · intro a w1 hG hin
    have h11 : a.eval (.tmp 11) = .slice p ns.length c := slot_in (hin 11 (by decide)) rfl
    have h12 : a.eval (.tmp 12) = .int .i64 ((ns.length : Int) - 4) := slot_in (hin 12 (by decide)) rfl
    have h10 : a.eval (.tmp 10) = .bool false := slot_in (hin 10 (by decide)) rfl
    clear hin
    refine .inl ⟨wanted_yes rfl rfl h10, ?_⟩
    refine grow_run (v := .slice p (ns.length - 4) c) ?_ ?_
    · unfold execOp
      simp only [h11, h12, Option.map_some, Option.map_none]
      simp [go_sem]
      rw [if_pos ⟨by omega, by omega⟩, show ((ns.length : Int) - 4).toNat = ns.length - 4 by omega]
    · exact ⟨p, c, by rw [List.length_take]; congr; omega, hc, (hr.mono hG).take _⟩
  · intro a w1 hG hin
    have h13 : IsRow (ns.take (ns.length - 4)) (a.eval (.tmp 13)) w1 := slot_in (hin 13 (by decide)) rfl
    have h10 : a.eval (.tmp 10) = .bool false := slot_in (hin 10 (by decide)) rfl
    clear hin
    exact .inl ⟨wanted_yes rfl rfl h10, grow_call Try.call18 #[a.eval (.tmp 13)] (by simp only [List.map_toArray, List.map_cons, List.map_nil]) (check_say h13 (by simp; omega))⟩
  · intro a w1 hG hin
    have h0 : a.eval (.tmp 0) = .slice p ns.length c := slot_out (hin 0 (by decide)) rfl
    have h10 : a.eval (.tmp 10) = .bool false := slot_in (hin 10 (by decide)) rfl
    clear hin
    exact .inl ⟨wanted_yes rfl rfl h10, grow_move rfl h0⟩
  · intro a w1 hG hin
    have h4 : a.eval (.tmp 4) = .int .i64 ((ns.length : Int) - 4) := slot_out (hin 4 (by decide)) rfl
    have h10 : a.eval (.tmp 10) = .bool false := slot_in (hin 10 (by decide)) rfl
    clear hin
    exact .inl ⟨wanted_yes rfl rfl h10, grow_move rfl h4⟩
  · intro a w1 hG hin
    have h15 : a.eval (.tmp 15) = .slice p ns.length c := slot_in (hin 15 (by decide)) rfl
    have h16 : a.eval (.tmp 16) = .int .i64 ((ns.length : Int) - 4) := slot_in (hin 16 (by decide)) rfl
    have h10 : a.eval (.tmp 10) = .bool false := slot_in (hin 10 (by decide)) rfl
    clear hin
    refine .inl ⟨wanted_yes rfl rfl h10, ?_⟩
    refine grow_run (v := .slice (if c = ns.length - 4 then p else p.map (·.add (ns.length - 4))) 4 (c - (ns.length - 4))) ?_ ?_
    · unfold execOp
      simp only [h15, h16, Option.map_some, Option.map_none]
      simp [go_sem]
      rw [if_pos ⟨by omega, by omega⟩, show ((ns.length : Int) - 4).toNat = ns.length - 4 by omega, show ns.length - (ns.length - 4) = 4 by omega]
    · exact ⟨_, _, by rw [List.length_drop, show ns.length - (ns.length - 4) = 4 by omega], by omega, (hr.mono hG).tail _ (by omega)⟩
  · intro a w1 hG hin
    have h14 : IsRow (le4 (go 0 (ns.take (ns.length - 4)))) (a.eval (.tmp 14)) w1 := slot_in (hin 14 (by decide)) rfl
    have h17 : IsRow (ns.drop (ns.length - 4)) (a.eval (.tmp 17)) w1 := slot_in (hin 17 (by decide)) rfl
    have h10 : a.eval (.tmp 10) = .bool false := slot_in (hin 10 (by decide)) rfl
    clear hin
    exact .inl ⟨wanted_yes rfl rfl h10, grow_call Try.call17 #[a.eval (.tmp 14), a.eval (.tmp 17)] (by simp only [List.map_toArray, List.map_cons, List.map_nil]) (equal_say h14 h17)⟩
  · intro a w1 hG hin
    have h18 : a.eval (.tmp 18) = .bool (decide (le4 (go 0 (ns.take (ns.length - 4))) = ns.drop (ns.length - 4))) := slot_in (hin 18 (by decide)) rfl
    have h10 : a.eval (.tmp 10) = .bool false := slot_in (hin 10 (by decide)) rfl
    clear hin
    exact .inl ⟨wanted_yes rfl rfl h10, grow_not rfl h18 rfl⟩
  · intro a w1 hG hin
    have h10 : a.eval (.tmp 10) = .bool false := slot_in (hin 10 (by decide)) rfl
    have h19 : a.eval (.tmp 19) = .bool !(decide (le4 (go 0 (ns.take (ns.length - 4))) = ns.drop (ns.length - 4))) := slot_in (hin 19 (by decide)) rfl
    clear hin
    exact .inl ⟨wanted_none rfl, grow_pick rfl h10 h19⟩
  · intro s w2 hG hin hs
    have f0 : s 0 = .slice p ns.length c := (hs 0 (by decide)).symm.trans (slot_out (hin 0) rfl)
    have f2 : s 2 = .slice none 0 0 := (hs 2 (by decide)).symm.trans (slot_out (hin 2) rfl)
    have f3 : s 3 = .bool false := (hs 3 (by decide)).symm.trans (slot_out (hin 3) rfl)
    have f4 : s 4 = .int .i64 ((ns.length : Int) - 4) := (hs 4 (by decide)).symm.trans (slot_out (hin 4) rfl)
    have f20 : s 20 = .bool !(decide (le4 (go 0 (ns.take (ns.length - 4))) = ns.drop (ns.length - 4))) := (hs 20 (by decide)).symm.trans (slot_in (hin 20) rfl)
    clear hin hs
    rw [show List.range 25 = [0, 1, 2, 3, 4, 5, 6, 7, 8, 9, 10, 11, 12, 13, 14, 15, 16, 17, 18, 19, 20, 21, 22, 23, 24] from rfl]
    simp only [List.map_cons, List.map_nil]
    rw [f0, f2, f3, f4, f20]
    cases hD : decide (le4 (go 0 (ns.take (ns.length - 4))) = ns.drop (ns.length - 4)) with
    | true =>
      have hok : okB ns = true := by unfold okB; rw [hD]; simp [h4]
      have htk : (ns.take (ns.length - 4)).length = ns.length - 4 := by rw [List.length_take]; omega
      have hcl := clone_any p c (ns.take (ns.length - 4)) w2 ((hr.mono hG).take _) (by rw [htk]; omega)
      rw [htk] at hcl
      clear f0 f2 f3 f4 f20
      go_wp2_with fail
      refine hcl.mono ?_
      rintro e w3 ⟨v, rfl, hown, hg3⟩
      go_wp2_with fail
      go_ret2
      exact ⟨v, by rw [hok]; rfl, by unfold taken; rw [hok]; exact owns_isRow (bytes_take hr.bytes _) hown, hG.trans hg3⟩
    | false =>
      have hok : okB ns = false := by unfold okB; rw [hD]; simp
      clear f0 f2 f3 f4 f20
      go_wp2_with fail
      go_ret2
      exact ⟨_, by rw [hok]; rfl, by unfold taken; rw [hok]; exact ⟨none, 0, rfl, Nat.zero_le _, RowAt.empty _⟩, hG⟩

theorem take_say {ns : List Nat} {v : Value} {w : World} (hv : IsRow ns v w) (hlen : ns.length ≤ 100000) :
    Calls Try.prog 11 #[v] w fun e w' => ∃ u, e = .returned u ∧ G w w' ∧ ∃ x, u = .tuple #[x, .bool (okB ns)] ∧ IsRow (taken ns) x w' := by
  obtain ⟨p, c, rfl, hc, hr⟩ := hv
  by_cases h4 : 4 ≤ ns.length
  · exact (take_any p c ns w hr hc hlen h4).mono fun e w' ⟨x, he, hx, hg⟩ => ⟨_, he, hg, x, rfl, hx⟩
  · refine (take_short p c ns w (by omega)).mono fun e w' ⟨he, hg⟩ => ⟨_, he, hg, .slice none 0 0, ?_, ?_⟩
    · unfold okB; rw [decide_eq_false h4]; rfl
    · unfold taken okB; rw [decide_eq_false h4]; exact ⟨none, 0, rfl, Nat.zero_le _, RowAt.empty _⟩

/-! ### The reference's -/
theorem rput_say {ns : List Nat} {v : Value} {w : World} (hv : IsRow ns v w) (hlen : ns.length ≤ 100000) :
    Calls Try.prog 16 #[v] w fun e w' => ∃ u, e = .returned u ∧ G w w' ∧ IsRow (put ns) u w' := by
  obtain ⟨p, c, rfl, _, hr⟩ := hv
  exact (rput_any p c ns w hr hlen).mono fun e w' ⟨u, he, ho, hg⟩ => ⟨u, he, hg, owns_isRow (put_bytes hr.bytes) ho⟩

theorem put_eq_iff {ns : List Nat} (h4 : 4 ≤ ns.length) : decide (put (ns.take (ns.length - 4)) = ns) = okB ns := by
  unfold okB put
  rw [decide_eq_true h4, Bool.true_and]
  have e : (ns.take (ns.length - 4) ++ le4 (go 0 (ns.take (ns.length - 4))) = ns) ↔ (le4 (go 0 (ns.take (ns.length - 4))) = ns.drop (ns.length - 4)) := by
    constructor
    · intro h
      have h2 : ns.take (ns.length - 4) ++ le4 (go 0 (ns.take (ns.length - 4))) = ns.take (ns.length - 4) ++ ns.drop (ns.length - 4) := by rw [List.take_append_drop]; exact h
      exact List.append_cancel_left h2
    · intro h
      rw [h, List.take_append_drop]
  exact decide_eq_decide.2 e

set_option maxHeartbeats 400000 in
theorem rtake_short (p : Option Addr) (c : Nat) (ns : List Nat) (w : World) (hlt : ns.length < 4) :
    Calls Try.prog 12 #[.slice p ns.length c] w fun e w' => e = .returned (.tuple #[.slice none 0 0, .bool false]) ∧ w = w' := by
  go_enter Try.func12, Try.ntmps12
  go_wp2_with fail
  go_ret2
  exact ⟨rfl, rfl⟩

set_option maxHeartbeats 400000 in
theorem rtake_any (p : Option Addr) (c : Nat) (ns : List Nat) (w : World) (hr : RowAt w p c ns) (hc : c ≤ maxLen) (hlen : ns.length ≤ 100000) (h4 : 4 ≤ ns.length) :
    Calls Try.prog 12 #[.slice p ns.length c] w fun e w' => ∃ v, e = .returned (.tuple #[v, .bool (okB ns)]) ∧ IsRow (taken ns) v w' ∧ G w w' := by
  have hle := hr.le
  have htk : (ns.take (ns.length - 4)).length = ns.length - 4 := by rw [List.length_take]; omega
  have hpe := put_eq_iff h4
  have HP := hid hpe; clear hpe
  go_enter Try.func12, Try.ntmps12
  go_wp2_with fail

  refine wp_region_grows (says [Say.row (ns.take (ns.length - 4)), Say.row (put (ns.take (ns.length - 4))), Say.is (.string (str (put (ns.take (ns.length - 4))))), Say.row ns, Say.is (.string (str ns)), Say.is (.bool (!decide ((put (ns.take (ns.length - 4))) = ns)))]) 20 (by kernel_rfl) (by kernel_rfl) rfl (says_mono _) (allSteps_take ⟨?_, ?_, ?_, ?_, ?_, ?_, trivial⟩) ?_
  · intro a w1 hG hin
    have h4 : a.eval (.tmp 4) = .slice p (ns.length - 4) c := slot_out (hin 4 (by decide)) rfl
    clear hin
    refine .inl ⟨wanted_none rfl, ?_⟩
    refine grow_move rfl ?_
    show IsRow _ (a.eval (.tmp 4)) w1
    rw [h4]
    exact ⟨p, c, by rw [htk], hc, (hr.mono hG).take _⟩
  · intro a w1 hG hin
    have h13 : IsRow (ns.take (ns.length - 4)) (a.eval (.tmp 13)) w1 := slot_in (hin 13 (by decide)) rfl
    clear hin
    exact .inl ⟨wanted_none rfl, grow_call Try.call16 #[a.eval (.tmp 13)] (by simp only [List.map_toArray, List.map_cons, List.map_nil]) (rput_say h13 (by simp; omega))⟩
  · intro a w1 hG hin
    have h14 : IsRow (put (ns.take (ns.length - 4))) (a.eval (.tmp 14)) w1 := slot_in (hin 14 (by decide)) rfl
    clear hin
    exact .inl ⟨wanted_none rfl, grow_convert rfl Try.underlying22 Try.underlying5 Try.underlying9 h14 rfl⟩
  · intro a w1 hG hin
    have h0 : a.eval (.tmp 0) = .slice p ns.length c := slot_out (hin 0 (by decide)) rfl
    clear hin
    refine .inl ⟨wanted_none rfl, ?_⟩
    refine grow_move rfl ?_
    show IsRow _ (a.eval (.tmp 0)) w1
    rw [h0]
    exact ⟨p, c, rfl, hc, hr.mono hG⟩
  · intro a w1 hG hin
    have h16 : IsRow ns (a.eval (.tmp 16)) w1 := slot_in (hin 16 (by decide)) rfl
    clear hin
    exact .inl ⟨wanted_none rfl, grow_convert rfl Try.underlying22 Try.underlying5 Try.underlying9 h16 rfl⟩
  · intro a w1 hG hin
    have h15 : a.eval (.tmp 15) = .string (str (put (ns.take (ns.length - 4)))) := slot_in (hin 15 (by decide)) rfl
    have h17 : a.eval (.tmp 17) = .string (str ns) := slot_in (hin 17 (by decide)) rfl
    clear hin
    refine .inl ⟨wanted_none rfl, ?_⟩
    exact grow_nestr rfl (put_bytes (bytes_take hr.bytes _)) hr.bytes h15 h17 rfl
  · intro s w2 hG hin hs
    have f0 : s 0 = .slice p ns.length c := (hs 0 (by decide)).symm.trans (slot_out (hin 0) rfl)
    have f2 : s 2 = .slice none 0 0 := (hs 2 (by decide)).symm.trans (slot_out (hin 2) rfl)
    have f3 : s 3 = .bool false := (hs 3 (by decide)).symm.trans (slot_out (hin 3) rfl)
    have f4 : s 4 = .slice p (ns.length - 4) c := (hs 4 (by decide)).symm.trans (slot_out (hin 4) rfl)
    have f18 : s 18 = .bool (!decide ((put (ns.take (ns.length - 4))) = ns)) := (hs 18 (by decide)).symm.trans (slot_in (hin 18) rfl)
    clear hin hs
    rw [show List.range 20 = [0, 1, 2, 3, 4, 5, 6, 7, 8, 9, 10, 11, 12, 13, 14, 15, 16, 17, 18, 19] from rfl]
    simp only [List.map_cons, List.map_nil]
    rw [f0, f2, f3, f4, f18]
    cases hD : okB ns with
    | true =>
      clear f0 f2 f3 f4
      clear f18
      rw [HP.out, hD]
      go_wp2_with fail
      go_ret2
      exact ⟨_, by rw [hD]; rfl, by unfold taken; rw [hD]; exact ⟨p, c, by rw [if_pos rfl, htk]; rfl, hc, (hr.mono hG).take _⟩, hG⟩
    | false =>
      clear f0 f2 f3 f4
      clear f18
      rw [HP.out, hD]
      go_wp2_with fail
      go_ret2
      exact ⟨_, by rw [hD]; rfl, by unfold taken; rw [hD]; exact ⟨none, 0, rfl, Nat.zero_le _, RowAt.empty _⟩, hG⟩

theorem rtake_say {ns : List Nat} {v : Value} {w : World} (hv : IsRow ns v w) (hlen : ns.length ≤ 100000) :
    Calls Try.prog 12 #[v] w fun e w' => ∃ u, e = .returned u ∧ G w w' ∧ ∃ x, u = .tuple #[x, .bool (okB ns)] ∧ IsRow (taken ns) x w' := by
  obtain ⟨p, c, rfl, hc, hr⟩ := hv
  by_cases h4 : 4 ≤ ns.length
  · exact (rtake_any p c ns w hr hc hlen h4).mono fun e w' ⟨x, he, hx, hg⟩ => ⟨_, he, hg, x, rfl, hx⟩
  · refine (rtake_short p c ns w (by omega)).mono fun e w' ⟨he, hw⟩ => ⟨_, he, hw ▸ G.refl _, .slice none 0 0, ?_, ?_⟩
    · unfold okB; rw [decide_eq_false h4]; rfl
    · unfold taken okB; rw [decide_eq_false h4]; exact ⟨none, 0, rfl, Nat.zero_le _, RowAt.empty _⟩
end Go.Proofs.Ytoodfngcfdhnfaa
