/-
  The plain law of the check of bytes: the register of a row of bytes is linear and one to one, so a burst of 32 bits never goes unseen. No conditions; no program is named here.
-/
namespace Go.Proofs.Ytoodfngcfdhnfaa.Crc

def poly : Nat := 3988292384
def half (r : Nat) : Nat := if r % 2 = 1 then (r / 2) ^^^ poly else r / 2
def halves : Nat → Nat → Nat
  | 0, r => r
  | n + 1, r => halves n (half r)
def stepB (r c : Nat) : Nat := halves 8 (r ^^^ c)
def reg (r : Nat) (bs : List Nat) : Nat := bs.foldl stepB r
def full : Nat := 4294967295
def go (n : Nat) (bs : List Nat) : Nat := reg (n ^^^ full) bs ^^^ full
def val : List Nat → Nat
  | [] => 0
  | b :: bs => b + 256 * val bs
def le4 (n : Nat) : List Nat := [n % 256, n / 256 % 256, n / 65536 % 256, n / 16777216 % 256]
def Bytes (bs : List Nat) : Prop := ∀ b ∈ bs, b < 256
def put (bs : List Nat) : List Nat := bs ++ le4 (go 0 bs)

theorem half_xor (x y : Nat) : half (x ^^^ y) = half x ^^^ half y := by
  have hd : (x ^^^ y) / 2 = x / 2 ^^^ y / 2 := Nat.xor_div_two
  have hm : (x ^^^ y) % 2 = (x + y) % 2 := by
    have h := @Nat.xor_mod_two_eq_one x y
    omega
  unfold half
  rw [hd, hm]
  rcases Nat.mod_two_eq_zero_or_one x with h1 | h1 <;> rcases Nat.mod_two_eq_zero_or_one y with h2 | h2
  · rw [if_neg (by omega), if_neg (by omega), if_neg (by omega)]
  · rw [if_pos (by omega), if_neg (by omega), if_pos (by omega), Nat.xor_assoc]
  · rw [if_pos (by omega), if_pos (by omega), if_neg (by omega), Nat.xor_assoc, Nat.xor_assoc, Nat.xor_comm poly]
  · rw [if_neg (by omega), if_pos (by omega), if_pos (by omega)]
    rw [Nat.xor_assoc, ← Nat.xor_assoc poly, Nat.xor_comm poly, Nat.xor_assoc, Nat.xor_self, Nat.xor_zero]

theorem half_zero : half 0 = 0 := by decide
theorem half_double (q : Nat) : half (2 * q) = q := by unfold half; rw [if_neg (by omega)]; omega

theorem halves_xor : ∀ n x y, halves n (x ^^^ y) = halves n x ^^^ halves n y
  | 0, _, _ => rfl
  | n + 1, x, y => by simp only [halves]; rw [half_xor]; exact halves_xor n _ _
theorem halves_zero : ∀ n, halves n 0 = 0
  | 0 => rfl
  | n + 1 => by simp only [halves]; rw [half_zero]; exact halves_zero n
theorem halves_pow : ∀ k q, halves k (2 ^ k * q) = q
  | 0, q => by simp [halves]
  | k + 1, q => by
    simp only [halves]
    rw [show 2 ^ (k + 1) * q = 2 * (2 ^ k * q) by rw [Nat.pow_succ, Nat.mul_comm (2 ^ k) 2, Nat.mul_assoc], half_double]
    exact halves_pow k q
theorem halves_add : ∀ a b x, halves (a + b) x = halves b (halves a x)
  | 0, b, x => by simp [halves]
  | a + 1, b, x => by rw [show a + 1 + b = (a + b) + 1 by omega]; simp only [halves]; exact halves_add a b _

theorem half_lt {x : Nat} (h : x < 4294967296) : half x < 4294967296 := by
  unfold half
  split
  · exact Nat.xor_lt_two_pow (n := 32) (by omega) (by decide)
  · omega
theorem halves_lt : ∀ n {x : Nat}, x < 4294967296 → halves n x < 4294967296
  | 0, _, h => h
  | n + 1, _, h => by simp only [halves]; exact halves_lt n (half_lt h)

theorem half_eq_zero {x : Nat} (h : x < 4294967296) (h0 : half x = 0) : x = 0 := by
  unfold half at h0
  split at h0
  · exfalso
    have h1 : (x / 2 ^^^ poly).testBit 31 = true := by
      rw [Nat.testBit_xor]
      have : (x / 2).testBit 31 = false := Nat.testBit_lt_two_pow (by omega)
      rw [this]; decide
    rw [h0] at h1
    simp at h1
  · omega
theorem halves_eq_zero : ∀ n {x : Nat}, x < 4294967296 → halves n x = 0 → x = 0
  | 0, _, _, h => h
  | n + 1, _, h, h0 => half_eq_zero h (halves_eq_zero n (half_lt h) (by simpa only [halves] using h0))

theorem xor_eq_zero {x y : Nat} (h : x ^^^ y = 0) : x = y := by
  have := congrArg (· ^^^ y) h
  simpa only [Nat.xor_assoc, Nat.xor_self, Nat.xor_zero, Nat.zero_xor] using this
theorem xor_lt {x y : Nat} (hx : x < 4294967296) (hy : y < 4294967296) : x ^^^ y < 4294967296 := Nat.xor_lt_two_pow (n := 32) hx hy
theorem halves_inj (n : Nat) {x y : Nat} (hx : x < 4294967296) (hy : y < 4294967296) (h : halves n x = halves n y) : x = y := by
  refine xor_eq_zero (halves_eq_zero n (xor_lt hx hy) ?_)
  rw [halves_xor, h, Nat.xor_self]

/-- A byte below 256 goes past what stands from 256 on. -/
theorem xor_split (c v : Nat) (hc : c < 256) : c ^^^ 256 * v = c + 256 * v := by
  have h1 : c ^^^ 256 * v = c ||| 256 * v := by
    apply Nat.eq_of_testBit_eq
    intro j
    rw [Nat.testBit_xor, Nat.testBit_or]
    by_cases hj : j < 8
    · have : (256 * v).testBit j = false := by
        rw [show 256 * v = 2 ^ 8 * v by rfl, Nat.testBit_two_pow_mul]; simp; omega
      rw [this]; simp
    · have : c.testBit j = false := Nat.testBit_lt_two_pow (Nat.lt_of_lt_of_le hc (Nat.pow_le_pow_right (n := 2) (by omega) (show 8 ≤ j by omega)))
      rw [this]; simp
  rw [h1, Nat.or_comm, show 256 * v = 2 ^ 8 * v by rfl, ← Nat.two_pow_add_eq_or_of_lt (by omega) v]
  omega

theorem reg_val : ∀ (bs : List Nat) (r : Nat), Bytes bs → reg r bs = halves (8 * bs.length) (r ^^^ val bs)
  | [], r, _ => by simp [reg, halves, val]
  | b :: bs, r, h => by
    have hb : b < 256 := h b (by simp)
    have ih := reg_val bs (stepB r b) (fun x hx => h x (by simp [hx]))
    show reg (stepB r b) bs = _
    rw [ih, List.length_cons, show 8 * (bs.length + 1) = 8 + 8 * bs.length by omega, halves_add]
    congr 1
    show halves 8 (r ^^^ b) ^^^ val bs = halves 8 (r ^^^ val (b :: bs))
    rw [show val (b :: bs) = b ^^^ 256 * val bs from (xor_split b (val bs) hb).symm, ← Nat.xor_assoc, halves_xor 8 (r ^^^ b), show halves 8 (256 * val bs) = val bs from halves_pow 8 (val bs)]

theorem stepB_lt {r c : Nat} (hr : r < 4294967296) (hc : c < 256) : stepB r c < 4294967296 := halves_lt 8 (xor_lt hr (by omega))
theorem reg_lt : ∀ (bs : List Nat) {r : Nat}, r < 4294967296 → Bytes bs → reg r bs < 4294967296
  | [], _, hr, _ => hr
  | b :: bs, _, hr, h => by
    show reg (stepB _ b) bs < _
    exact reg_lt bs (stepB_lt hr (h b (by simp))) (fun x hx => h x (by simp [hx]))
theorem full_lt : full < 4294967296 := by decide
theorem go_lt {n : Nat} {bs : List Nat} (hn : n < 4294967296) (h : Bytes bs) : go n bs < 4294967296 := xor_lt (reg_lt bs (xor_lt hn full_lt) h) full_lt

theorem reg_append (r : Nat) (a b : List Nat) : reg r (a ++ b) = reg (reg r a) b := by simp [reg, List.foldl_append]
theorem xor_full (x : Nat) : x ^^^ full ^^^ full = x := by rw [Nat.xor_assoc, Nat.xor_self, Nat.xor_zero]
theorem go_append (n : Nat) (a b : List Nat) : go n (a ++ b) = go (go n a) b := by
  unfold go; rw [reg_append, xor_full]
theorem go_nil (n : Nat) : go n [] = n := by unfold go; exact xor_full n

theorem reg_inj : ∀ (bs : List Nat) {r s : Nat}, r < 4294967296 → s < 4294967296 → Bytes bs → reg r bs = reg s bs → r = s := by
  intro bs r s hr hs h e
  rw [reg_val bs r h, reg_val bs s h, halves_xor, halves_xor] at e
  refine halves_inj (8 * bs.length) hr hs ?_
  have := congrArg (· ^^^ halves (8 * bs.length) (val bs)) e
  simpa only [Nat.xor_assoc, Nat.xor_self, Nat.xor_zero] using this

/-- What a table of 256 gives: the eight halvings of the low byte, and the rest moved down. -/
theorem step_table {r c : Nat} (hc : c < 256) : r / 256 ^^^ halves 8 (r % 256 ^^^ c) = stepB r c := by
  unfold stepB
  have h1 : r = r % 256 ^^^ 256 * (r / 256) := by rw [xor_split _ _ (by omega)]; omega
  have h2 : r ^^^ c = (r % 256 ^^^ c) ^^^ 256 * (r / 256) := by
    rw [Nat.xor_assoc, Nat.xor_comm c, ← Nat.xor_assoc, ← h1]
  rw [h2, halves_xor 8 (r % 256 ^^^ c), show halves 8 (256 * (r / 256)) = r / 256 from halves_pow 8 _, Nat.xor_comm]

theorem le4_bytes (n : Nat) : Bytes (le4 n) := by
  intro b hb
  simp only [le4, List.mem_cons, List.mem_nil_iff, or_false] at hb
  omega
theorem le4_val {n : Nat} (h : n < 4294967296) : val (le4 n) = n := by
  simp only [le4, val]; omega
theorem le4_inj {m n : Nat} (hm : m < 4294967296) (hn : n < 4294967296) (h : le4 m = le4 n) : m = n := by
  rw [← le4_val hm, ← le4_val hn, h]

theorem bytes_append {a b : List Nat} (ha : Bytes a) (hb : Bytes b) : Bytes (a ++ b) := by
  intro x hx; rcases List.mem_append.1 hx with h | h
  · exact ha x h
  · exact hb x h
theorem put_bytes {b : List Nat} (h : Bytes b) : Bytes (put b) := bytes_append h (le4_bytes _)
theorem put_length (b : List Nat) : (put b).length = b.length + 4 := by simp [put, le4]

/-- The register behind a row and its check hangs on nothing. -/
theorem reg_put {b : List Nat} (h : Bytes b) : reg full (put b) = halves 32 full := by
  unfold put
  have h0 : go 0 b < 4294967296 := go_lt (by decide) h
  rw [reg_append, reg_val _ _ (le4_bytes _), le4_val h0]
  show halves 32 _ = _
  congr 1
  unfold go
  rw [Nat.zero_xor, ← Nat.xor_assoc, Nat.xor_self, Nat.zero_xor]

/-- A burst of 32 bits is seen. -/
theorem burst {b m : List Nat} {k W : Nat} (hb : Bytes b) (hm : Bytes m) (hW : W < 4294967296) (hlen : m.length = b.length) (hk : k ≤ 8 * (b.length + 4))
    (h : val (put m) = val (put b) ^^^ 2 ^ k * W) : W = 0 := by
  have e := (reg_put hm).trans (reg_put hb).symm
  rw [reg_val _ _ (put_bytes hm), reg_val _ _ (put_bytes hb), h, put_length, put_length, hlen, ← Nat.xor_assoc, halves_xor] at e
  have h0 : halves (8 * (b.length + 4)) (2 ^ k * W) = 0 := by
    have := congrArg (halves (8 * (b.length + 4)) (full ^^^ val (put b)) ^^^ ·) e
    simpa only [← Nat.xor_assoc, Nat.xor_self, Nat.zero_xor] using this
  rw [show 8 * (b.length + 4) = k + (8 * (b.length + 4) - k) by omega, halves_add, halves_pow] at h0
  exact halves_eq_zero _ hW h0

/-- A nought ahead is seen. -/
theorem ahead {b : List Nat} (hb : Bytes b) : go 0 (0 :: b) ≠ go 0 b := by
  intro e
  unfold go at e
  have e2 := congrArg (· ^^^ full) e
  simp only [xor_full, Nat.zero_xor] at e2
  have e3 : reg (stepB full 0) b = reg full b := e2
  have := reg_inj b (stepB_lt full_lt (by decide)) full_lt hb e3
  revert this
  decide

def zipX (a b : List Nat) : List Nat := List.zipWith (· ^^^ ·) a b

theorem reg_zip : ∀ (a b : List Nat) (r s : Nat), a.length = b.length → reg (r ^^^ s) (zipX a b) = reg r a ^^^ reg s b
  | [], [], r, s, _ => rfl
  | [], _ :: _, _, _, h => by simp at h
  | _ :: _, [], _, _, h => by simp at h
  | x :: a, y :: b, r, s, h => by
    show reg (stepB (r ^^^ s) (x ^^^ y)) (zipX a b) = reg (stepB r x) a ^^^ reg (stepB s y) b
    rw [← reg_zip a b _ _ (by simpa using h)]
    congr 1
    unfold stepB
    rw [← halves_xor]
    congr 1
    rw [Nat.xor_assoc, Nat.xor_assoc, ← Nat.xor_assoc s, Nat.xor_comm s x, Nat.xor_assoc x]

theorem zip_length (a b : List Nat) (h : a.length = b.length) : (zipX a b).length = a.length := by simp [zipX, h]
theorem zip_zero : ∀ a : List Nat, zipX a (List.replicate a.length 0) = a
  | [] => rfl
  | x :: a => by
    show (x ^^^ 0) :: zipX a (List.replicate a.length 0) = x :: a
    rw [zip_zero a, Nat.xor_zero]

theorem linear (a b : List Nat) (h : a.length = b.length) : go 0 a ^^^ go 0 b ^^^ go 0 (zipX a b) = go 0 (List.replicate a.length 0) := by
  have key : ∀ x : List Nat, go 0 x = reg 0 x ^^^ go 0 (List.replicate x.length 0) := by
    intro x
    unfold go
    rw [← Nat.xor_assoc, Nat.zero_xor]
    have := reg_zip x (List.replicate x.length 0) 0 full (by simp)
    rw [zip_zero, Nat.zero_xor] at this
    rw [this]
  have hz := reg_zip a b 0 0 h
  rw [Nat.zero_xor] at hz
  rw [key a, key b, key (zipX a b), zip_length a b h, hz, h]
  generalize reg 0 a = A, reg 0 b = B, go 0 (List.replicate b.length 0) = Z
  have e1 : A ^^^ Z ^^^ (B ^^^ Z) = A ^^^ B := by
    rw [Nat.xor_assoc, ← Nat.xor_assoc Z, Nat.xor_comm Z B, Nat.xor_assoc B, Nat.xor_self, Nat.xor_zero]
  rw [e1, ← Nat.xor_assoc, Nat.xor_self, Nat.zero_xor]

/-- Turning one bit of a row. -/
theorem val_flip : ∀ (bs : List Nat) (m : Nat), m < 8 * bs.length → Bytes bs → val (bs.set (m / 8) (bs.getD (m / 8) 0 ^^^ 2 ^ (m % 8))) = val bs ^^^ 2 ^ m
  | [], m, h, _ => by simp at h
  | b :: bs, m, h, hb => by
    have hb0 : b < 256 := hb b (by simp)
    by_cases hm : m < 8
    · have e0 : m / 8 = 0 := by omega
      have e1 : m % 8 = m := by omega
      have hp : 2 ^ m < 256 := Nat.pow_lt_pow_right (a := 2) (by decide) (show m < 8 from hm)
      have hx : b ^^^ 2 ^ m < 256 := Nat.xor_lt_two_pow (n := 8) hb0 hp
      rw [e0, e1]
      show (b ^^^ 2 ^ m) + 256 * val bs = (b + 256 * val bs) ^^^ 2 ^ m
      rw [← xor_split _ _ hx, ← xor_split _ _ hb0, Nat.xor_assoc, Nat.xor_comm (2 ^ m), ← Nat.xor_assoc]
    · have e0 : m / 8 = (m - 8) / 8 + 1 := by omega
      have e1 : m % 8 = (m - 8) % 8 := by omega
      have ih := val_flip bs (m - 8) (by simp only [List.length_cons] at h; omega) (fun x hx => hb x (by simp [hx]))
      rw [e0, e1]
      simp only [List.set_cons_succ, List.getD_cons_succ]
      show b + 256 * val _ = (b + 256 * val bs) ^^^ 2 ^ m
      rw [ih, ← xor_split _ _ hb0, ← xor_split _ _ hb0, Nat.xor_assoc]
      congr 1
      have e2 : (2 : Nat) ^ m = 256 * 2 ^ (m - 8) := by
        rw [show (256 : Nat) = 2 ^ 8 by rfl, ← Nat.pow_add]; congr 1; omega
      rw [e2]
      show 2 ^ 8 * _ = 2 ^ 8 * _ ^^^ 2 ^ 8 * _
      apply Nat.eq_of_testBit_eq
      intro j
      rw [Nat.testBit_xor, Nat.testBit_two_pow_mul, Nat.testBit_two_pow_mul, Nat.testBit_two_pow_mul, Nat.testBit_xor]
      by_cases hj : 8 ≤ j <;> simp [hj]

theorem val_inj : ∀ (a b : List Nat), a.length = b.length → Bytes a → Bytes b → val a = val b → a = b
  | [], [], _, _, _, _ => rfl
  | [], _ :: _, h, _, _, _ => by simp at h
  | _ :: _, [], h, _, _, _ => by simp at h
  | x :: a, y :: b, h, ha, hb, e => by
    have hx : x < 256 := ha x (by simp)
    have hy : y < 256 := hb y (by simp)
    simp only [val] at e
    have e1 : x = y := by omega
    have e2 : val a = val b := by omega
    rw [e1, val_inj a b (by simpa using h) (fun z hz => ha z (by simp [hz])) (fun z hz => hb z (by simp [hz])) e2]

theorem nine : go 0 [49, 50, 51, 52, 53, 54, 55, 56, 57] = 3421780262 := by decide +kernel
end Go.Proofs.Ytoodfngcfdhnfaa.Crc
