/- Chapter 10: numbers of colours, in plain arithmetic. -/
import Derived.WalkKit
set_option linter.unusedVariables false
set_option linter.unusedSimpArgs false
namespace Go.Proofs.Ytncphiphgkjflaa

/-- a of b -/
def ofI (a b : Int) : Int := (2 * a * b + 255) / 510

theorem ofI_bd {a b : Int} (ha0 : 0 ≤ a) (ha : a ≤ 255) (hb0 : 0 ≤ b) (hb : b ≤ 255) : 0 ≤ ofI a b ∧ ofI a b ≤ a ∧ ofI a b ≤ b := by
  have h0 : 0 ≤ a * b := Int.mul_nonneg ha0 hb0
  have h1 : a * b ≤ a * 255 := Int.mul_le_mul_of_nonneg_left hb ha0
  have h2 : a * b ≤ 255 * b := Int.mul_le_mul_of_nonneg_right ha hb0
  unfold ofI
  rw [Int.mul_assoc]
  omega

theorem ofI_comm (a b : Int) : ofI a b = ofI b a := by
  unfold ofI
  rw [Int.mul_assoc, Int.mul_assoc, Int.mul_comm a b]

theorem ofI_255 (a : Int) (h : 0 ≤ a) : ofI a 255 = a := by unfold ofI; omega
theorem ofI_255' (a : Int) (h : 0 ≤ a) : ofI 255 a = a := by unfold ofI; omega
theorem ofI_0 (a : Int) : ofI a 0 = 0 := by unfold ofI; omega
theorem ofI_0' (a : Int) : ofI 0 a = 0 := by unfold ofI; omega

theorem ofI_mono {a b c d : Int} (ha : 0 ≤ a) (hb : 0 ≤ b) (h1 : a ≤ c) (h2 : b ≤ d) : ofI a b ≤ ofI c d := by
  have : a * b ≤ c * d := Int.mul_le_mul h1 h2 hb (Int.le_trans ha h1)
  unfold ofI
  rw [Int.mul_assoc, Int.mul_assoc]
  omega

/-- to the nearest, of two the greater: the reference's way -/
def roundI (n d : Int) : Int := if d - (n - n / d * d) ≤ n - n / d * d then n / d + 1 else n / d

theorem round_of (a b : Int) : roundI (a * b) 255 = ofI a b := by
  unfold roundI ofI
  rw [Int.mul_assoc]
  split <;> omega

/-- one number of a colour laid over another one -/
def overI (c a d : Int) : Int := min (c + ofI (255 - a) d) 255

theorem overI_eq (c a d : Int) : min (c + ofI (255 - a) d) 255 = overI c a d := rfl

theorem overI_bd {c a d : Int} (hc : 0 ≤ c ∧ c ≤ 255) (ha : 0 ≤ a ∧ a ≤ 255) (hd : 0 ≤ d ∧ d ≤ 255) : 0 ≤ overI c a d ∧ overI c a d ≤ 255 := by
  have := ofI_bd (a := 255 - a) (b := d) (by omega) (by omega) hd.1 hd.2
  unfold overI; omega

theorem overI_alpha {a d : Int} (ha : 0 ≤ a ∧ a ≤ 255) (hd : 0 ≤ d ∧ d ≤ 255) : overI a a d = a + ofI (255 - a) d := by
  have := ofI_bd (a := 255 - a) (b := d) (by omega) (by omega) hd.1 hd.2
  unfold overI; omega

theorem overI_zero {d : Int} (hd : 0 ≤ d ∧ d ≤ 255) : overI 0 0 d = d := by
  have := ofI_255' d hd.1
  unfold overI; simp only [Int.sub_zero, this, Int.zero_add]; omega

theorem overI_full {c d : Int} (hc : 0 ≤ c ∧ c ≤ 255) : overI c 255 d = c := by
  have := ofI_0' d
  unfold overI; simp only [Int.sub_self, this, Int.add_zero]; omega

theorem overI_right {c a d b : Int} (hc : 0 ≤ c) (ha : 0 ≤ a ∧ a ≤ 255) (hd : 0 ≤ d) (hb : 0 ≤ b ∧ b ≤ 255) (h1 : c ≤ a) (h2 : d ≤ b) : overI c a d ≤ a + ofI (255 - a) b := by
  have h3 := ofI_mono (a := 255 - a) (c := 255 - a) (by omega) hd (Int.le_refl _) h2
  have := ofI_bd (a := 255 - a) (b := b) (by omega) (by omega) hb.1 hb.2
  unfold overI; omega
end Go.Proofs.Ytncphiphgkjflaa
