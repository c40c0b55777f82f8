/-
  The sum of a text as plain numbers: the program's way and the reference's way are one, and a difference within 32 bits is always seen; plain law, without a condition.
-/
import Derived.Test.YtebpelfmllkpbaaBase
namespace Go.Proofs.Ytebpelfmllkpbaa

theorem ofInt32_nat (a : Nat) (ha : a < 4294967296) : (BitVec.ofInt 32 (a : Int)).toNat = a := by
  rw [BitVec.ofInt_natCast, BitVec.toNat_ofNat]; exact Nat.mod_eq_of_lt (by omega)
theorem bits_xor_u32_nat (a b : Nat) (ha : a < 4294967296) (hb : b < 4294967296) : bits .xor .u32 (a : Int) (b : Int) = ((a ^^^ b : Nat) : Int) := by
  have hx : a ^^^ b < 2 ^ 32 := Nat.xor_lt_two_pow (by omega) (by omega)
  show IntKind.u32.wrap ((BitVec.ofInt 32 (a : Int) ^^^ BitVec.ofInt 32 (b : Int)).toNat : Int) = _
  rw [BitVec.toNat_xor, ofInt32_nat a ha, ofInt32_nat b hb, IntKind.wrap_u32]
  omega
theorem bits_and1_u32_nat (a : Nat) (ha : a < 4294967296) : bits .and .u32 (a : Int) 1 = ((a % 2 : Nat) : Int) := by
  show IntKind.u32.wrap ((BitVec.ofInt 32 (a : Int) &&& BitVec.ofInt 32 ((1 : Nat) : Int)).toNat : Int) = _
  rw [BitVec.toNat_and, ofInt32_nat a ha, ofInt32_nat 1 (by omega), IntKind.wrap_u32, Nat.and_one_is_mod]
  omega

theorem xor_rc (a b c : Nat) : a ^^^ b ^^^ c = a ^^^ c ^^^ b := by rw [Nat.xor_assoc, Nat.xor_comm b, ← Nat.xor_assoc]

theorem xor_eq0 {a b : Nat} (h : a ^^^ b = 0) : a = b := by
  have := congrArg (· ^^^ b) h
  simpa [Nat.xor_assoc] using this

theorem xor_inj {a b c : Nat} (h : a ^^^ b = a ^^^ c) : b = c := by
  have := congrArg (a ^^^ ·) h
  simpa [← Nat.xor_assoc] using this

/-- One bit of the sum's step, at a number of any size. -/
def tst (x : Nat) : Nat := x / 2 ^^^ (if x % 2 = 1 then 2197175160 else 0)
def tsts : Nat → Nat → Nat
  | 0, x => x
  | n + 1, x => tsts n (tst x)
theorem tst_xor (a b : Nat) : tst (a ^^^ b) = tst a ^^^ tst b := by
  unfold tst
  rw [Nat.xor_div_two]
  have hm := @Nat.xor_mod_two_eq_one a b
  have ha : a % 2 = 0 ∨ a % 2 = 1 := by omega
  have hb : b % 2 = 0 ∨ b % 2 = 1 := by omega
  have hx : (a ^^^ b) % 2 = 0 ∨ (a ^^^ b) % 2 = 1 := by omega
  rcases ha with ha | ha <;> rcases hb with hb | hb <;> rcases hx with hx | hx <;> simp [ha, hb, hx] at hm ⊢
  · rw [Nat.xor_assoc]
  · rw [xor_rc]
  · rw [Nat.xor_comm (b / 2) 2197175160, Nat.xor_assoc (a / 2), ← Nat.xor_assoc 2197175160, Nat.xor_self, Nat.zero_xor]
theorem tst_zero : tst 0 = 0 := rfl
theorem tst_two (x : Nat) : tst (2 * x) = x := by
  unfold tst
  rw [if_neg (by omega), Nat.xor_zero]; omega
theorem tst_lt (x : Nat) (h : x < 4294967296) : tst x < 4294967296 := by
  have : tst x < 2 ^ 32 := by
    unfold tst
    refine Nat.xor_lt_two_pow (by omega) ?_
    split <;> omega
  omega
theorem tst_inj (x : Nat) (h : x < 4294967296) (h0 : tst x = 0) : x = 0 := by
  unfold tst at h0
  by_cases ho : x % 2 = 1
  · rw [if_pos ho] at h0
    exfalso
    have h1 : x / 2 = 2197175160 := xor_eq0 h0
    omega
  · rw [if_neg ho, Nat.xor_zero] at h0
    omega
theorem tsts_xor (n : Nat) : ∀ a b, tsts n (a ^^^ b) = tsts n a ^^^ tsts n b := by
  induction n with
  | zero => intro a b; rfl
  | succ n ih => intro a b; simp only [tsts, tst_xor, ih]
theorem tsts_add (m n x : Nat) : tsts (m + n) x = tsts n (tsts m x) := by
  induction m generalizing x with
  | zero => simp [tsts]
  | succ m ih => rw [show m + 1 + n = (m + n) + 1 by omega]; simp only [tsts]; exact ih _
theorem tsts_pow (n : Nat) : ∀ x, tsts n (2 ^ n * x) = x := by
  induction n with
  | zero => intro x; simp [tsts]
  | succ n ih => intro x; simp only [tsts]; rw [Nat.pow_succ, Nat.mul_comm (2 ^ n) 2, Nat.mul_assoc, tst_two, ih]
theorem tsts_lt (n : Nat) : ∀ x, x < 4294967296 → tsts n x < 4294967296 := by
  induction n with
  | zero => intro x h; exact h
  | succ n ih => intro x h; exact ih _ (tst_lt x h)
theorem tsts_inj (n : Nat) : ∀ x, x < 4294967296 → tsts n x = 0 → x = 0 := by
  induction n with
  | zero => intro x _ h; exact h
  | succ n ih => intro x hx h; exact tst_inj x hx (ih _ (tst_lt x hx) h)
theorem tsts_succ (n x : Nat) : tsts (n + 1) x = tst (tsts n x) := by rw [tsts_add]; rfl

/-- The walk's own form of one bit's step. -/
theorem tst_int (n : Nat) (h : n < 4294967296) :
    bits .xor .u32 ((n : Int) / 2) (2197175160 * bits .and .u32 (n : Int) 1 % 4294967296) = ((tst n : Nat) : Int) := by
  rw [bits_and1_u32_nat n h]
  unfold tst
  rw [show ((n : Int) / 2) = ((n / 2 : Nat) : Int) by omega]
  by_cases ho : n % 2 = 1
  · rw [if_pos ho, show ((2197175160 : Int) * ((n % 2 : Nat) : Int) % 4294967296) = ((2197175160 : Nat) : Int) by omega, bits_xor_u32_nat _ _ (by omega) (by omega)]
  · rw [if_neg ho, show ((2197175160 : Int) * ((n % 2 : Nat) : Int) % 4294967296) = ((0 : Nat) : Int) by omega, bits_xor_u32_nat _ _ (by omega) (by omega)]

/-- The sum's accumulator over bytes. -/
def crc (r : Nat) (l : List UInt8) : Nat := l.foldl (fun r b => tsts 8 (r ^^^ b.toNat)) r
def sum32 (l : List UInt8) : Nat := 4294967295 ^^^ crc 4294967295 l
theorem crc_snoc (r : Nat) (l : List UInt8) (b : UInt8) : crc r (l ++ [b]) = tsts 8 (crc r l ^^^ b.toNat) := by simp [crc]
theorem xor_byte_lt (r : Nat) (b : UInt8) (h : r < 4294967296) : r ^^^ b.toNat < 4294967296 := by
  have : r ^^^ b.toNat < 2 ^ 32 := Nat.xor_lt_two_pow (by omega) (by have := byte_lt b; omega)
  omega
theorem crc_lt (l : List UInt8) : ∀ r, r < 4294967296 → crc r l < 4294967296 := by
  induction l with
  | nil => intro r h; exact h
  | cons b l ih => intro r h; exact ih _ (tsts_lt 8 _ (xor_byte_lt r b h))
theorem sum32_lt (l : List UInt8) : sum32 l < 4294967296 := by
  have : sum32 l < 2 ^ 32 := Nat.xor_lt_two_pow (by omega) (by have := crc_lt l 4294967295 (by omega); omega)
  omega
/-- 0xFFFFFFFF - r is 0xFFFFFFFF xor r. -/
theorem max_sub (r : Nat) (h : r < 4294967296) : 4294967295 - r = 4294967295 ^^^ r := by
  have e1 : 4294967295 - r = 2 ^ 32 - (r + 1) := by omega
  rw [e1]
  apply Nat.eq_of_testBit_eq
  intro i
  rw [Nat.testBit_two_pow_sub_succ (by omega), Nat.testBit_xor, show (4294967295 : Nat) = 2 ^ 32 - 1 from rfl, Nat.testBit_two_pow_sub_one]
  by_cases hi : i < 32
  · simp [hi]
  · have : r.testBit i = false := Nat.testBit_lt_two_pow (Nat.lt_of_lt_of_le (show r < 2 ^ 32 by omega) (Nat.pow_le_pow_right (n := 2) (by omega) (by omega)))
    simp [hi, this]

/-- The reference's accumulator behind j bits of the byte B. -/
def rtst (C B : Nat) : Nat → Nat
  | 0 => C
  | j + 1 => if rtst C B j % 2 = B / 2 ^ j % 2 then rtst C B j / 2 else rtst C B j / 2 ^^^ 2197175160
theorem rtst_even (C B j : Nat) (h : rtst C B j % 2 = B / 2 ^ j % 2) : rtst C B (j + 1) = rtst C B j / 2 := by rw [rtst, if_pos h]
theorem rtst_odd (C B j : Nat) (h : rtst C B j % 2 ≠ B / 2 ^ j % 2) : rtst C B (j + 1) = rtst C B j / 2 ^^^ 2197175160 := by rw [rtst, if_neg h]
theorem rtst_lt (C B : Nat) (h : C < 4294967296) : ∀ j, rtst C B j < 4294967296 := by
  intro j
  induction j with
  | zero => exact h
  | succ j ih =>
    rw [rtst]
    split
    · omega
    · have : rtst C B j / 2 ^^^ 2197175160 < 2 ^ 32 := Nat.xor_lt_two_pow (by omega) (by omega)
      omega
theorem rtst_tsts (C B : Nat) : ∀ j, tsts j (C ^^^ B) = rtst C B j ^^^ B / 2 ^ j := by
  intro j
  induction j with
  | zero => simp [tsts, rtst]
  | succ j ih =>
    rw [tsts_succ, ih, rtst, Nat.pow_succ, ← Nat.div_div_eq_div_mul]
    generalize rtst C B j = r
    generalize B / 2 ^ j = b
    unfold tst
    rw [Nat.xor_div_two]
    have hm := @Nat.xor_mod_two_eq_one r b
    have ha : r % 2 = 0 ∨ r % 2 = 1 := by omega
    have hb : b % 2 = 0 ∨ b % 2 = 1 := by omega
    have hx : (r ^^^ b) % 2 = 0 ∨ (r ^^^ b) % 2 = 1 := by omega
    rcases ha with ha | ha <;> rcases hb with hb | hb <;> rcases hx with hx | hx <;> simp [ha, hb, hx] at hm ⊢
    · rw [xor_rc]
    · rw [xor_rc]
theorem rtst_eight (C B : Nat) (h : B < 256) : tsts 8 (C ^^^ B) = rtst C B 8 := by
  rw [rtst_tsts, Nat.div_eq_of_lt (by omega), Nat.xor_zero]

/-- A text's bytes as a number, the first byte lowest. -/
def leN : List UInt8 → Nat
  | [] => 0
  | b :: r => b.toNat + 256 * leN r
theorem tsts8_256 (x : Nat) : tsts 8 (256 * x) = x := tsts_pow 8 x
theorem add256_xor (b : UInt8) (x : Nat) : b.toNat + 256 * x = 256 * x ^^^ b.toNat := by
  have h := @Nat.two_pow_add_eq_or_of_lt 8 b.toNat (byte_lt b) x
  have h2 : 256 * x ^^^ b.toNat = 256 * x ||| b.toNat := by
    apply Nat.eq_of_testBit_eq
    intro i
    rw [Nat.testBit_xor, Nat.testBit_or]
    by_cases hi : i < 8
    · have : (256 * x).testBit i = false := by
        have := @Nat.testBit_two_pow_mul 8 x i
        simp at this; rw [this]; simp; omega
      rw [this]; simp
    · have : b.toNat.testBit i = false := Nat.testBit_lt_two_pow (Nat.lt_of_lt_of_le (byte_lt b) (Nat.pow_le_pow_right (n := 2) (by omega) (show 8 ≤ i by omega)))
      rw [this]; simp
  rw [h2, Nat.add_comm]; exact h
theorem crc_leN (l : List UInt8) : ∀ r, crc r l = tsts (8 * l.length) (r ^^^ leN l) := by
  induction l with
  | nil => intro r; simp [crc, leN, tsts]
  | cons b l ih =>
    intro r
    have h1 : crc r (b :: l) = crc (tsts 8 (r ^^^ b.toNat)) l := rfl
    rw [h1, ih, List.length_cons, show 8 * (l.length + 1) = 8 + 8 * l.length by omega, tsts_add, leN, add256_xor, ← Nat.xor_assoc, xor_rc, tsts_xor 8 (r ^^^ b.toNat), tsts8_256]
theorem leN_inj : ∀ a b : List UInt8, a.length = b.length → leN a = leN b → a = b := by
  intro a
  induction a with
  | nil => intro b h _; cases b with | nil => rfl | cons _ _ => simp at h
  | cons x a ih =>
    intro b h hl
    cases b with
    | nil => simp at h
    | cons y b =>
      have hx := byte_lt x; have hy := byte_lt y
      simp only [leN] at hl
      have h1 : x.toNat = y.toNat := by omega
      have h2 : leN a = leN b := by omega
      rw [ih b (by simpa using h) h2, UInt8.toNat_inj.1 h1]
/-- Two texts of one length whose difference lies within 32 bits have one sum only where they are one. -/
theorem sum32_burst (a b : List UInt8) (hl : a.length = b.length) (f q : Nat) (hq : q < 4294967296) (hf : f ≤ 8 * a.length) (h : leN b = leN a ^^^ 2 ^ f * q) :
    sum32 a = sum32 b ↔ a = b := by
  constructor
  · intro hs
    have h1 : crc 4294967295 a ^^^ crc 4294967295 b = 0 := by
      unfold sum32 at hs
      have := xor_inj hs
      rw [this, Nat.xor_self]
    rw [crc_leN, crc_leN, ← hl, ← tsts_xor, h] at h1
    have h2 : (4294967295 ^^^ leN a ^^^ (4294967295 ^^^ (leN a ^^^ 2 ^ f * q))) = 2 ^ f * q := by
      rw [← Nat.xor_assoc 4294967295 (leN a), ← Nat.xor_assoc, Nat.xor_self, Nat.zero_xor]
    rw [h2, show 8 * a.length = f + (8 * a.length - f) by omega, tsts_add, tsts_pow] at h1
    have h3 := tsts_inj _ _ hq h1
    rw [h3, Nat.mul_zero, Nat.xor_zero] at h
    exact leN_inj a b hl h.symm
  · intro h; rw [h]

theorem mul256_xor (a b : Nat) : 256 * (a ^^^ b) = 256 * a ^^^ 256 * b := by
  have h2 := @Nat.shiftLeft_xor_distrib 8 a b
  rw [Nat.shiftLeft_eq, Nat.shiftLeft_eq, Nat.shiftLeft_eq] at h2
  rw [Nat.mul_comm 256, Nat.mul_comm 256 a, Nat.mul_comm 256 b]
  exact h2
/-- A bit of one byte turned. -/
theorem leN_set : ∀ (l : List UInt8) (j : Nat) (hj : j < l.length) (x : UInt8), leN (l.set j (l[j] ^^^ x)) = leN l ^^^ (2 ^ (8 * j) * x.toNat) := by
  intro l
  induction l with
  | nil => intro j hj; simp at hj
  | cons b l ih =>
    intro j hj x
    cases j with
    | zero =>
      show (b ^^^ x).toNat + 256 * leN l = (b.toNat + 256 * leN l) ^^^ (2 ^ (8 * 0) * x.toNat)
      rw [add256_xor, add256_xor, UInt8.toNat_xor, Nat.mul_zero, Nat.pow_zero, Nat.one_mul, Nat.xor_assoc]
    | succ j =>
      have hj' : j < l.length := by simpa using hj
      show b.toNat + 256 * leN (l.set j (l[j] ^^^ x)) = (b.toNat + 256 * leN l) ^^^ (2 ^ (8 * (j + 1)) * x.toNat)
      rw [ih j hj' x, add256_xor, add256_xor, mul256_xor, xor_rc]
      have e : 256 * (2 ^ (8 * j) * x.toNat) = 2 ^ (8 * (j + 1)) * x.toNat := by
        rw [show 8 * (j + 1) = 8 * j + 8 by omega, Nat.pow_add, ← Nat.mul_assoc, Nat.mul_comm 256]
      rw [e]
end Go.Proofs.Ytebpelfmllkpbaa
