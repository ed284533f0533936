/- Chapter 10: the small functions, walked. -/
import Derived.Test.YtncphiphgkjflaaRows
import Derived.Test.YtncphiphgkjflaaExt
import Derived.Test.YtncphiphgkjflaaPaintNum
set_option linter.unusedVariables false
set_option linter.unusedSimpArgs false
namespace Go.Proofs.Ytncphiphgkjflaa
open Go.RowKit

set_option maxHeartbeats 400000 in
theorem of_any (a b : Int) (w : World) (ha0 : 0 ≤ a) (ha : a ≤ 255) (hb0 : 0 ≤ b) (hb : b ≤ 255) :
    Calls Try.prog 56 #[.int .i64 a, .int .i64 b] w fun e w' => e = .returned (.int .i64 (ofI a b)) ∧ Ext w w' := by
  have h0 : 0 ≤ 2 * a * b := Int.mul_nonneg (by omega) hb0
  have h1 : 2 * a * b ≤ 510 * 255 := Int.mul_le_mul (by omega) hb hb0 (by omega)
  go_enter Try.func56, Try.ntmps56
  go_wp2
  go_ret
  exact ⟨rfl, Ext.refl _⟩

theorem tdiv_facts (n d : Int) (hn : 0 ≤ n) (hd : 0 < d) : n.tdiv d = n / d ∧ n / d * d ≤ n ∧ n < n / d * d + d ∧ 0 ≤ n / d ∧ n / d ≤ n := by
  have h1 := Int.mul_ediv_add_emod n d
  have h2 := Int.emod_nonneg n (Int.ne_of_gt hd)
  have h3 := Int.emod_lt_of_pos n hd
  have h4 := Int.ediv_nonneg hn (Int.le_of_lt hd)
  rw [Int.mul_comm] at h1
  have h5 : n / d * 1 ≤ n / d * d := Int.mul_le_mul_of_nonneg_left (by omega) h4
  exact ⟨Int.tdiv_eq_ediv_of_nonneg hn, by omega, by omega, h4, by omega⟩

set_option maxHeartbeats 400000 in
theorem below_any (n d : Int) (w : World) (hn0 : 0 ≤ n) (hn : n ≤ 1000000000000) (hd0 : 1 ≤ d) (hd : d ≤ 1000000) :
    Calls Try.prog 65 #[.int .i64 n, .int .i64 d] w fun e w' => e = .returned (.int .i64 (n / d)) ∧ Ext w w' := by
  obtain ⟨_, h2, h3, h4, h5⟩ := tdiv_facts n d hn0 (by omega)
  have h6 : 0 ≤ n / d * d := Int.mul_nonneg h4 (by omega)
  go_enter Try.func65, Try.ntmps65
  go_wp2
  go_ret
  exact ⟨rfl, Ext.refl _⟩

set_option maxHeartbeats 400000 in
theorem round_any (n d : Int) (w : World) (hn0 : 0 ≤ n) (hn : n ≤ 1000000000000) (hd0 : 1 ≤ d) (hd : d ≤ 1000000) :
    Calls Try.prog 64 #[.int .i64 n, .int .i64 d] w fun e w' => e = .returned (.int .i64 (roundI n d)) ∧ Ext w w' := by
  obtain ⟨_, h2, h3, h4, h5⟩ := tdiv_facts n d hn0 (by omega)
  have h6 : 0 ≤ n / d * d := Int.mul_nonneg h4 (by omega)
  go_enter Try.func64, Try.ntmps64
  go_wp2_with (go_at_call 65; refine (below_any _ _ _ hn0 hn hd0 hd).mono ?_; rintro e w' ⟨rfl, g, rfl⟩)
  all_goals
    go_ret
    refine ⟨ret_int ?_, _, rfl⟩
    unfold roundI
    first | rw [if_pos (by omega)] | rw [if_neg (by omega)]

set_option maxHeartbeats 400000 in
theorem refOf_any (a b : Int) (w : World) (ha0 : 0 ≤ a) (ha : a ≤ 255) (hb0 : 0 ≤ b) (hb : b ≤ 255) :
    Calls Try.prog 60 #[.int .i64 a, .int .i64 b] w fun e w' => e = .returned (.int .i64 (ofI a b)) ∧ Ext w w' := by
  have h0 : 0 ≤ a * b := Int.mul_nonneg ha0 hb0
  have h1 : a * b ≤ 255 * 255 := Int.mul_le_mul ha hb hb0 (by omega)
  go_enter Try.func60, Try.ntmps60
  go_wp2_with (go_at_call 64; refine (round_any _ _ _ h0 (by omega) (by omega) (by omega)).mono ?_; rintro e w' ⟨rfl, g, rfl⟩)
  go_ret
  exact ⟨ret_int (round_of a b), _, rfl⟩

/-- is it right? -/
def rightB (a b c d : Int) : Bool := decide (max a (max b c) ≤ d)

set_option maxHeartbeats 400000 in
theorem right_any (c0 c1 c2 c3 : Int) (w : World) :
    Calls Try.prog 20 #[.agg #[.int .u8 c0, .int .u8 c1, .int .u8 c2, .int .u8 c3]] w fun e w' => e = .returned (.bool (rightB c0 c1 c2 c3)) ∧ Ext w w' := by
  go_enter Try.func20, Try.ntmps20
  go_wp2
  go_ret
  exact ⟨rfl, by repeat (first | exact Ext.refl _ | apply Ext.alloc)⟩


end Go.Proofs.Ytncphiphgkjflaa
