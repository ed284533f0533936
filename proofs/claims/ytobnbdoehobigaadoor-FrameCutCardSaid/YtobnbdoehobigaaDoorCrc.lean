import Derived.Laws.Bits64b
set_option linter.unusedVariables false
set_option linter.unusedSimpArgs false
namespace Go.Proofs.YtobnbdoehobigaaDoor
open Go

/-- one bit falls out -/
def bit1 (c : Nat) : Nat := c / 2 ^^^ (if c % 2 = 1 then 3988292384 else 0)

theorem bit1_xor (a b : Nat) : bit1 (a ^^^ b) = bit1 a ^^^ bit1 b := by
  have h1 : (a ^^^ b) / 2 = a / 2 ^^^ b / 2 := by
    have := Nat.shiftRight_xor_distrib (a := a) (b := b) (i := 1)
    simpa [Nat.shiftRight_eq_div_pow] using this
  have h2 : (a ^^^ b) % 2 = a % 2 ^^^ b % 2 := by
    have := Nat.xor_mod_two_pow (a := a) (b := b) (n := 1)
    simpa using this
  unfold bit1
  rw [h1, h2]
  rcases Nat.mod_two_eq_zero_or_one a with ha | ha <;> rcases Nat.mod_two_eq_zero_or_one b with hb | hb <;> simp [ha, hb]
  · ac_rfl
  · ac_rfl
  · rw [show a / 2 ^^^ 3988292384 ^^^ (b / 2 ^^^ 3988292384) = a / 2 ^^^ b / 2 ^^^ (3988292384 ^^^ 3988292384) by ac_rfl]
    simp

def bits (n : Nat) (c : Nat) : Nat := match n with
  | 0 => c
  | n + 1 => bits n (bit1 c)

theorem bits_xor (n a b : Nat) : bits n (a ^^^ b) = bits n a ^^^ bits n b := by
  induction n generalizing a b with
  | zero => rfl
  | succ n ih => simp only [bits, bit1_xor, ih]

theorem bits_add (m n c : Nat) : bits (m + n) c = bits n (bits m c) := by
  induction m generalizing c with
  | zero => simp [bits]
  | succ m ih => rw [show m + 1 + n = (m + n) + 1 by omega]; simp only [bits, ih]

/-- what is high falls down as it is -/
theorem bits_high (n h : Nat) : bits n (h * 2 ^ n) = h := by
  induction n with
  | zero => simp [bits]
  | succ n ih =>
    have e : bit1 (h * 2 ^ (n + 1)) = h * 2 ^ n := by
      have h1 : h * 2 ^ (n + 1) = 2 * (h * 2 ^ n) := by rw [Nat.pow_succ]; ac_rfl
      unfold bit1
      rw [h1]
      simp
    simp only [bits, e, ih]

theorem split_pow (c n : Nat) : c = (c / 2 ^ n) * 2 ^ n ^^^ c % 2 ^ n := by
  apply Nat.eq_of_testBit_eq
  intro i
  rw [Nat.testBit_xor, Nat.testBit_mul_two_pow, Nat.testBit_mod_two_pow, Nat.testBit_div_two_pow]
  by_cases h : n ≤ i
  · have h2 : ¬ i < n := by omega
    simp [h, h2, Nat.sub_add_cancel h]
  · have h2 : i < n := by omega
    simp [h, h2]

theorem bits_low (n c : Nat) : bits n c = c / 2 ^ n ^^^ bits n (c % 2 ^ n) := by
  conv => lhs; rw [split_pow c n, bits_xor, bits_high]

/-- the document's table: what four bits that fall out bring in -/
def halfs : List Nat := [0, 0x1db71064, 0x3b6e20c8, 0x26d930ac, 0x76dc4190, 0x6b6b51f4, 0x4db26158, 0x5005713c, 0xedb88320, 0xf00f9344, 0xd6d6a3e8, 0xcb61b38c, 0x9b64c2b0, 0x86d3d2d4, 0xa00ae278, 0xbdbdf21c]

theorem bits_four (c : Nat) : bits 4 c = c / 16 ^^^ halfs[c % 16]! := by
  rw [bits_low]
  have h : ∀ x, x < 16 → bits 4 x = halfs[x]! := by decide
  rw [show (2 : Nat) ^ 4 = 16 by rfl, h _ (Nat.mod_lt _ (by decide))]

theorem bit1_lt (c : Nat) (h : c < 4294967296) : bit1 c < 4294967296 := by
  unfold bit1
  refine Nat.xor_lt_two_pow (n := 32) (by omega) ?_
  split <;> decide

theorem bits_lt (n c : Nat) (h : c < 4294967296) : bits n c < 4294967296 := by
  induction n generalizing c with
  | zero => exact h
  | succ n ih => exact ih _ (bit1_lt c h)

/-- one byte comes in -/
def byteIn (c x : Nat) : Nat := bits 8 (c ^^^ x)

theorem byteIn_lt (c x : Nat) (h : c < 4294967296) (hx : x < 256) : byteIn c x < 4294967296 := bits_lt 8 _ (Nat.xor_lt_two_pow (n := 32) h (by omega))

theorem byteIn_two (c x : Nat) : byteIn c x = bits 4 (bits 4 (c ^^^ x)) := bits_add 4 4 _

/-- the register behind bytes -/
def crc (c : Nat) (l : List Nat) : Nat := l.foldl byteIn c

theorem crc_append (c : Nat) (l m : List Nat) : crc c (l ++ m) = crc (crc c l) m := List.foldl_append

theorem crc_lt (c : Nat) (l : List Nat) (h : c < 4294967296) (hl : ∀ x ∈ l, x < 256) : crc c l < 4294967296 := by
  induction l generalizing c with
  | nil => exact h
  | cons x l ih => exact ih _ (byteIn_lt c x h (hl x (by simp))) (fun y hy => hl y (by simp [hy]))

theorem bits_byte (n r s : Nat) : bits (8 + n) (r ^^^ s) = bits n (byteIn r (s % 256) ^^^ s / 256) := by
  rw [bits_add, byteIn]
  conv => lhs; rw [split_pow s 8, show r ^^^ (s / 2 ^ 8 * 2 ^ 8 ^^^ s % 2 ^ 8) = (r ^^^ s % 2 ^ 8) ^^^ s / 2 ^ 8 * 2 ^ 8 by ac_rfl, bits_xor, bits_high]

/-- its own sum behind it, the lowest byte first: one and the same comes out -/
theorem crc_own (r : Nat) (h : r < 4294967296) : crc r [(4294967295 - r) % 256, (4294967295 - r) / 256 % 256, (4294967295 - r) / 65536 % 256, (4294967295 - r) / 16777216 % 256] = 4294967295 - 0x2144df1c := by
  generalize hs : 4294967295 - r = s
  have hx : r ^^^ s = 4294967295 := by
    subst hs
    apply Nat.eq_of_testBit_eq
    intro i
    have h1 := Nat.testBit_two_pow_sub_succ h i (n := 32)
    have h2 := Nat.testBit_two_pow_sub_one 32 i
    rw [show (2:Nat) ^ 32 - (r + 1) = 4294967295 - r by omega] at h1
    rw [show (2:Nat) ^ 32 - 1 = 4294967295 by rfl] at h2
    rw [Nat.testBit_xor, h1, h2]
    by_cases hi : i < 32
    · simp [hi]
    · have : r.testBit i = false := Nat.testBit_lt_two_pow (Nat.lt_of_lt_of_le h (Nat.pow_le_pow_right (n := 2) (by omega) (by omega : 32 ≤ i)))
      simp [hi, this]
  have e : crc r [s % 256, s / 256 % 256, s / 65536 % 256, s / 16777216 % 256] = bits 32 (r ^^^ s) := by
    have hs4 : s < 4294967296 := by omega
    rw [show (32 : Nat) = 8 + (8 + (8 + (8 + 0))) by rfl, bits_byte, bits_byte, bits_byte, bits_byte]
    simp only [crc, List.foldl_cons, List.foldl_nil, bits]
    have e2 : s / 256 / 256 = s / 65536 := by omega
    have e3 : s / 256 / 256 / 256 = s / 16777216 := by omega
    have e4 : s / 256 / 256 / 256 / 256 = 0 := by omega
    rw [e4, e3, e2, Nat.xor_zero]
  rw [e, hx]
  decide

end Go.Proofs.YtobnbdoehobigaaDoor
