import Derived.Test.YtobnbdoehobigaaDoorBits
import Derived.Laws.DeepNot64
namespace Go.Proofs.YtobnbdoehobigaaDoor
open Go Go.RowKit

theorem and1_u64 (a : Nat) (h : a < 18446744073709551616) : Go.bits .and .u64 (a : Int) 1 = ((a % 2 : Nat) : Int) := by
  have := bits_and_u64_nat a 1 h (by omega)
  rw [show ((1 : Nat) : Int) = 1 from rfl] at this
  rw [this, Nat.and_one_is_mod]

theorem xor_i64_zero (a : Int) (h0 : 0 ≤ a) (h : a < 9223372036854775808) : Go.bits .xor .i64 a 0 = a := by
  show IntKind.i64.wrap ((BitVec.ofInt 64 a ^^^ BitVec.ofInt 64 0).toNat : Int) = a
  rw [BitVec.toNat_xor, BitVec.toNat_ofInt, BitVec.toNat_ofInt, IntKind.wrap_i64]
  simp only [Int.zero_emod, Int.toNat_zero, Nat.xor_zero]
  omega

theorem xor_i64_ones (a : Nat) (h : a < 9223372036854775808) : Go.bits .xor .i64 (a : Int) (-1) = -1 - (a : Int) := by
  have := i64_not a h
  rw [← this]
  simp only [Go.bits, BitVec.xor_comm]

/-- the number unfolded, as the program has it -/
theorem unzig_bits (z : Nat) (h : z < 18446744073709551616) : Go.bits .xor .i64 (wrap64 ((z : Int) / 2)) (wrap64 (-wrap64 (Go.bits .and .u64 (z : Int) 1))) = unzig z := by
  rw [and1_u64 z h]
  have e1 : wrap64 ((z : Int) / 2) = ((z / 2 : Nat) : Int) := by unfold wrap64; omega
  rw [e1]
  unfold unzig
  rcases Nat.mod_two_eq_zero_or_one z with hz | hz
  · rw [hz, if_pos rfl, show wrap64 (-wrap64 ((0 : Nat) : Int)) = 0 by (unfold wrap64; omega)]
    exact xor_i64_zero _ (by omega) (by omega)
  · rw [hz, if_neg (by omega), show wrap64 (-wrap64 ((1 : Nat) : Int)) = -1 by (unfold wrap64; omega), xor_i64_ones _ (by omega)]
    omega

end Go.Proofs.YtobnbdoehobigaaDoor
