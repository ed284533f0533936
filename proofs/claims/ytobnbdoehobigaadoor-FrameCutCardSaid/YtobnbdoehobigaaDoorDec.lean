import Derived.Test.YtobnbdoehobigaaDoorText
set_option linter.unusedVariables false
set_option linter.unusedSimpArgs false
namespace Go.Proofs.YtobnbdoehobigaaDoor
open Go

/-- the number at the head of bytes, k bytes of it being read, and what is behind it; none: there is none -/
def dec : Nat → Nat → List Nat → Option (Nat × List Nat)
  | _, _, [] => none
  | k, acc, c :: rest =>
    if 9 < k ∨ 18446744073709551616 ≤ (c % 128) * 2 ^ (7 * k) then none
    else if c < 128 then (if c = 0 ∧ 0 < k then none else some (acc + (c % 128) * 2 ^ (7 * k), rest))
    else dec (k + 1) (acc + (c % 128) * 2 ^ (7 * k)) rest

def unzig (z : Nat) : Int := if z % 2 = 0 then ((z / 2 : Nat) : Int) else -((z / 2 : Nat) : Int) - 1

theorem unzig_zig (n : Int) : unzig (zig n) = n := by
  unfold unzig zig
  split <;> split <;> omega

theorem dec_uvarF (f : Nat) : ∀ (k acc z : Nat) (rest : List Nat), z < 128 ^ f → 1 ≤ f → k + f ≤ 10 → z * 2 ^ (7 * k) < 18446744073709551616 → (0 < k → 0 < z) →
    dec k acc (uvarF f z ++ rest) = some (acc + z * 2 ^ (7 * k), rest) := by
  induction f with
  | zero => intro k acc z rest _ h; omega
  | succ f ih =>
    intro k acc z rest hz _ hk hb hp
    unfold uvarF
    by_cases h : z < 128
    · rw [if_pos h]
      simp only [List.cons_append, List.nil_append, dec]
      have e : z % 128 = z := Nat.mod_eq_of_lt h
      rw [e, if_neg (by omega), if_pos h, if_neg (by omega)]
    · rw [if_neg h]
      simp only [List.cons_append, dec]
      have e : (z % 128 + 128) % 128 = z % 128 := by omega
      have hle : (z % 128) * 2 ^ (7 * k) ≤ z * 2 ^ (7 * k) := Nat.mul_le_mul_right _ (by omega)
      have hsplit : z * 2 ^ (7 * k) = z % 128 * 2 ^ (7 * k) + z / 128 * 2 ^ (7 * (k + 1)) := by
        rw [show 7 * (k + 1) = 7 + 7 * k by omega, Nat.pow_add, ← Nat.mul_assoc, show z / 128 * 2 ^ 7 = z / 128 * 128 by rfl, ← Nat.add_mul]
        congr 1; omega
      rw [e, if_neg (by omega), if_neg (by omega)]
      rw [Nat.pow_succ] at hz
      have hf : 1 ≤ f := by
        cases f with
        | zero => simp at hz; omega
        | succ _ => omega
      rw [ih (k + 1) _ (z / 128) rest (Nat.div_lt_of_lt_mul (by rwa [Nat.mul_comm])) hf (by omega) (by omega) (by omega)]
      rw [hsplit, Nat.add_assoc]

theorem dec_intL (n : Int) (rest : List Nat) (h1 : -9223372036854775808 ≤ n) (h2 : n ≤ 9223372036854775807) : dec 0 0 (intL n ++ rest) = some (zig n, rest) := by
  have h := zig_lt n h1 h2
  have := dec_uvarF 10 0 0 (zig n) rest (Nat.lt_of_lt_of_le h (by decide)) (by omega) (by omega) (by simpa using h) (by omega)
  simpa [intL] using this

end Go.Proofs.YtobnbdoehobigaaDoor
