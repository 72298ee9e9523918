/-
  Plain laws: what was laid down is taken as it was; cut, it is too short; with a byte more, no code; and what is taken is what it is laid down as. No conditions.
-/
import Derived.Test.YtpeioflembhedaaDoorTakeD
import Derived.Test.YtpeioflembhedaaDoorPut
namespace Go.Proofs.YtpeioflembhedaaDoor
open Go.RowKit

theorem ofNat_toNat' (x : Nat) (h : x < 256) : (UInt8.ofNat x).toNat = x := by
  rw [UInt8.toNat_ofNat']
  omega
theorem big_eight (n : Int) : bigR (eightR n) = (n % 18446744073709551616).toNat := by
  have h : (n % 18446744073709551616).toNat < 18446744073709551616 := by omega
  generalize hu : (n % 18446744073709551616).toNat = u at h
  have e : eightR n = [UInt8.ofNat (u / 72057594037927936 % 256), UInt8.ofNat (u / 281474976710656 % 256), UInt8.ofNat (u / 1099511627776 % 256), UInt8.ofNat (u / 4294967296 % 256), UInt8.ofNat (u / 16777216 % 256), UInt8.ofNat (u / 65536 % 256), UInt8.ofNat (u / 256 % 256), UInt8.ofNat (u / 1 % 256)] := by
    unfold eightR eightAt
    rw [hu]
    rfl
  rw [e]
  unfold bigR
  simp only [List.foldl_cons, List.foldl_nil]
  rw [ofNat_toNat' _ (by omega), ofNat_toNat' _ (by omega), ofNat_toNat' _ (by omega), ofNat_toNat' _ (by omega), ofNat_toNat' _ (by omega), ofNat_toNat' _ (by omega), ofNat_toNat' _ (by omega), ofNat_toNat' _ (by omega)]
  omega
theorem sign_eight (n : Int) (h0 : -9223372036854775808 ≤ n) (h1 : n ≤ 9223372036854775807) : signR (bigR (eightR n)) = n := by
  rw [big_eight]
  unfold signR
  split <;> omega
theorem u8_ext {a b : UInt8} (h : a.toNat = b.toNat) : a = b := UInt8.toNat_inj.1 h
theorem eight_big (l : List UInt8) (h : l.length = 8) : eightR (signR (bigR l)) = l := by
  match l, h with
  | [b0, b1, b2, b3, b4, b5, b6, b7], _ =>
    have k0 := b0.toNat_lt
    have k1 := b1.toNat_lt
    have k2 := b2.toNat_lt
    have k3 := b3.toNat_lt
    have k4 := b4.toNat_lt
    have k5 := b5.toNat_lt
    have k6 := b6.toNat_lt
    have k7 := b7.toNat_lt
    have hu : bigR [b0, b1, b2, b3, b4, b5, b6, b7] = ((((((b0.toNat * 256 + b1.toNat) * 256 + b2.toNat) * 256 + b3.toNat) * 256 + b4.toNat) * 256 + b5.toNat) * 256 + b6.toNat) * 256 + b7.toNat := by
      simp [bigR]
    generalize bigR [b0, b1, b2, b3, b4, b5, b6, b7] = u at hu
    have hs : (signR u % 18446744073709551616).toNat = u := by
      unfold signR
      split <;> omega
    have e : eightR (signR u) = [UInt8.ofNat (u / 72057594037927936 % 256), UInt8.ofNat (u / 281474976710656 % 256), UInt8.ofNat (u / 1099511627776 % 256), UInt8.ofNat (u / 4294967296 % 256), UInt8.ofNat (u / 16777216 % 256), UInt8.ofNat (u / 65536 % 256), UInt8.ofNat (u / 256 % 256), UInt8.ofNat (u / 1 % 256)] := by
      unfold eightR eightAt
      rw [hs]
      rfl
    rw [e]
    have q : ∀ (x : Nat) (b : UInt8), x % 256 = b.toNat → UInt8.ofNat (x % 256) = b := fun x b hx => u8_ext (by rw [hx]; exact ofNat_toNat' _ b.toNat_lt)
    rw [q _ b0 (by omega), q _ b1 (by omega), q _ b2 (by omega), q _ b3 (by omega), q _ b4 (by omega), q _ b5 (by omega), q _ b6 (by omega), q _ b7 (by omega)]

theorem ask_bad {ok : Bool} {x e : Int} (h : e ≠ 0) : askR ok x e = e := by simp [askR, h]
theorem ask_true (x : Int) : askR true x 0 = 0 := by simp [askR]
theorem ask_zero {ok : Bool} {x e : Int} (hx : x ≠ 0) (h : askR ok x e = 0) : ok = true ∧ e = 0 := by
  unfold askR at h
  split at h
  · exact absurd h hx
  · rename_i hn
    subst h
    cases ok <;> simp at hn ⊢
theorem one_bad (l : List UInt8) (e : Int) (h : e ≠ 0) : oneR l e = (0, l, e) := by simp [oneR, h]
theorem numb_bad (l : List UInt8) (e : Int) (h : e ≠ 0) : numbR l e = (0, l, e) := by simp [numbR, h]
theorem text_bad (n : Nat) (l : List UInt8) (e : Int) (h : e ≠ 0) : textR n l e = (E, l, e) := by
  unfold textR
  rw [ask_bad h, if_neg h]
theorem one_good (b : UInt8) (r : List UInt8) : oneR (b :: r) 0 = ((b.toNat : Int), r, (0 : Int)) := by simp [oneR]
theorem numb_good (n : Int) (r : List UInt8) (h0 : -9223372036854775808 ≤ n) (h1 : n ≤ 9223372036854775807) : numbR (eightR n ++ r) 0 = (n, r, 0) := by
  have hl := eight_len n
  unfold numbR
  rw [if_pos rfl, if_pos (by rw [List.length_append, hl]; omega)]
  rw [List.take_append_of_le_length (by omega), List.take_of_length_le (by omega), sign_eight n h0 h1, List.drop_append_of_le_length (by omega), List.drop_eq_nil_of_le (by omega)]
  rfl
theorem numb_short (y : List UInt8) (h : y.length < 8) : numbR y 0 = (0, y, 2) := by
  unfold numbR
  rw [if_pos rfl, if_neg (by omega)]
theorem text_good (s r : List UInt8) : textR s.length (s ++ r) 0 = (⟨s.toArray⟩, r, 0) := by
  unfold textR
  rw [show decide (s.length ≤ (s ++ r).length) = true by simp, ask_true, if_pos rfl]
  simp
theorem text_short (n : Nat) (y : List UInt8) (h : y.length < n) : textR n y 0 = (E, y, 2) := by
  unfold textR
  have hd : decide (n ≤ y.length) = false := by simp; omega
  rw [hd]
  rfl
/-- The shapes of an instruction that may be. -/
theorem may_facts {x : I} (h : mayI x = true) : (1 ≤ x.1 ∧ x.1 ≤ 23) ∧ (hasA x.1 = false → x.2.1 = 0) ∧ (hasB x.1 = false → x.2.2.1 = 0) ∧ (hasS x.1 = false → x.2.2.2 = E) ∧ x.2.2.2.size ≤ 40 := by
  simp only [mayI, mayR, Bool.and_eq_true, decide_eq_true_eq, Bool.or_eq_true] at h
  obtain ⟨⟨⟨⟨p1, p2⟩, p3⟩, p4⟩, p5⟩ := h
  refine ⟨⟨p1, p2⟩, fun hf => ?_, fun hf => ?_, fun hf => ?_, ?_⟩
  · rcases p3 with h2 | h2
    · rw [h2] at hf
      simp [hasA, shapeR] at hf
    · rw [hf] at h2
      simpa [numR] using h2
  · rw [hf] at p4
    simpa [numR] using p4
  · rw [hf] at p5
    rcases p5 with h2 | h2
    · exact nil_of2 h2
    · cases h2.1
  · rcases p5 with h2 | h2
    · rw [nil_of2 h2]
      decide
    · exact h2.2
theorem op_byte (o : Int) (h1 : 1 ≤ o) (h2 : o ≤ 23) : ((UInt8.ofNat (o % 256).toNat).toNat : Int) = o := by
  rw [ofNat_toNat' _ (by omega)]
  omega
theorem bytes_back (s : ByteArray) : (⟨s.data.toList.toArray⟩ : ByteArray) = s := by simp
theorem ins_good (x : I) (r : List UInt8) (hm : mayI x = true) (hx : InsOk x) : insT (insR x ++ r) 0 = (x, r, 0) := by
  obtain ⟨⟨m1, m2⟩, fa, fb, fs, hs⟩ := may_facts hm
  obtain ⟨o, a, b, s⟩ := x
  simp only at m1 m2 fa fb fs hs
  have hin : (decide (1 ≤ o) && decide (o ≤ 23)) = true := by simp [m1, m2]
  have hm' : mayR o a b s = true := hm
  unfold insT insR
  simp only [List.append_assoc, List.cons_append, List.nil_append, one_good, op_byte o m1 m2, hin, ask_true]
  cases hA : hasA o with
  | true =>
    simp only [if_true, numb_good a _ hx.a.1 hx.a.2]
    cases hB : hasB o with
    | true =>
      simp only [if_true, numb_good b _ hx.b.1 hx.b.2]
      cases hS : hasS o with
      | true =>
        exfalso
        rcases shapes4 o with e | e | e | e <;> simp [hasA, hasB, hasS, e] at hA hB hS
      | false =>
        obtain rfl := fs hS
        simp [hm', ask_true]
    | false =>
      obtain rfl := fb hB
      cases hS : hasS o with
      | true =>
        exfalso
        rcases shapes4 o with e | e | e | e <;> simp [hasA, hasB, hasS, e] at hA hB hS
      | false =>
        obtain rfl := fs hS
        simp [hm', ask_true]
  | false =>
    obtain rfl := fa hA
    cases hB : hasB o with
    | true =>
      exfalso
      rcases shapes4 o with e | e | e | e <;> simp [hasA, hasB, hasS, e] at hA hB
    | false =>
      obtain rfl := fb hB
      cases hS : hasS o with
      | true =>
        have hb : ((UInt8.ofNat (s.size % 256)).toNat : Int) = s.size := by rw [ofNat_toNat' _ (by omega)]; omega
        have h40 : decide ((s.size : Int) ≤ 40) = true := by simp; omega
        have ht := text_good s.data.toList r
        have hsz : s.data.toList.length = s.size := by simp
        rw [hsz] at ht
        simp only [if_true, Bool.false_eq_true, if_false, List.cons_append, List.nil_append, one_good, hb, h40, ask_true, Int.toNat_natCast, ht, hm']
      | false =>
        obtain rfl := fs hS
        simp [hm', ask_true]
theorem ents_good : ∀ (es : List Int) (r : List UInt8), (∀ n ∈ es, EntOk n) → entsT es.length ((es.map eightR).flatten ++ r) 0 = (es, r, 0)
  | [], r, _ => rfl
  | n :: es, r, h => by
    have hn := h n (by simp)
    have ih := ents_good es r fun m hm => h m (by simp [hm])
    simp only [List.length_cons, List.map_cons, List.flatten_cons, List.append_assoc, entsT, if_true, numb_good n _ hn.1 hn.2, ih]
theorem inss_good : ∀ (xs : List I) (r : List UInt8), (∀ x ∈ xs, mayI x = true ∧ InsOk x) → inssT xs.length ((xs.map insR).flatten ++ r) 0 = (xs, r, 0)
  | [], r, _ => rfl
  | x :: xs, r, h => by
    have hx := h x (by simp)
    have ih := inss_good xs r fun m hm => h m (by simp [hm])
    simp only [List.length_cons, List.map_cons, List.flatten_cons, List.append_assoc, inssT, if_true, ins_good x _ hx.1 hx.2, ih]
/-- What Put accepts. -/
theorem put_facts {es : List Int} {xs : List I} (h : putE es xs = 0) : xs.length ≤ 1200 ∧ es.length ≤ 6 ∧ es.any (entBad xs.length) = false ∧ (∀ x ∈ xs, mayI x = true) := by
  unfold putE at h
  split at h
  · cases h
  · split at h
    · cases h
    · split at h
      · cases h
      · rename_i h1 h2 h3
        refine ⟨by omega, by omega, by simpa using h2, fun x hx => ?_⟩
        have h4 : (xs.any fun x => !mayI x) = false := by simpa using h3
        rw [List.any_eq_false] at h4
        simpa using h4 x hx
/-- Code that was laid down, and more behind it, is taken as it was, if nothing is behind it. -/
theorem take_good (es : List Int) (xs : List I) (r : List UInt8) (h : putE es xs = 0) (hx : ∀ x ∈ xs, InsOk x) (he : ∀ n ∈ es, EntOk n) :
    takeR (codeR es xs ++ r) = if r = [] then ((es, xs), 0) else (([], []), 3) := by
  obtain ⟨k1, k2, k3, k4⟩ := put_facts h
  have hb : ((UInt8.ofNat (es.length % 256)).toNat : Int) = es.length := by rw [ofNat_toNat' _ (by omega)]; omega
  have h6 : decide ((es.length : Int) ≤ 6) = true := by simp; omega
  have hin : (decide (0 ≤ (xs.length : Int)) && decide ((xs.length : Int) ≤ 1200) && !es.any (entOver xs.length)) = true := by
    have e : es.any (entOver xs.length) = false := k3
    rw [e]
    simp
    omega
  have e1 := ents_good es (eightR xs.length ++ ((xs.map insR).flatten ++ r)) he
  have e2 := inss_good xs r fun x hx' => ⟨k4 x hx', hx x hx'⟩
  unfold takeR codeR
  simp only [List.append_assoc, List.cons_append, List.nil_append, one_good, hb, h6, ask_true, Int.toNat_natCast, e1, numb_good (xs.length : Int) _ (by omega) (by omega), hin, e2]
  cases r with
  | nil => simp [ask_true]
  | cons b r => simp [askR]
end Go.Proofs.YtpeioflembhedaaDoor
