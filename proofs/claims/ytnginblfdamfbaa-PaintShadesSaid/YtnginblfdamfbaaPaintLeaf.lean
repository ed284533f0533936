/- Chapter 10: the small functions, walked. -/
import Derived.Test.YtnginblfdamfbaaRows
import Derived.Test.YtnginblfdamfbaaExt
import Derived.Test.YtnginblfdamfbaaPaintNum
set_option linter.unusedVariables false
set_option linter.unusedSimpArgs false
namespace Go.Proofs.Ytnginblfdamfbaa
open Go.RowKit

set_option maxHeartbeats 400000 in
theorem of_any (a b : Int) (w : World) (ha0 : 0 ≤ a) (ha : a ≤ 255) (hb0 : 0 ≤ b) (hb : b ≤ 255) :
    Calls Try.prog 30 #[.int .i64 a, .int .i64 b] w fun e w' => e = .returned (.int .i64 (ofI a b)) ∧ Ext w w' := by
  have h0 : 0 ≤ 2 * a * b := Int.mul_nonneg (by omega) hb0
  have h1 : 2 * a * b ≤ 510 * 255 := Int.mul_le_mul (by omega) hb hb0 (by omega)
  go_enter Try.func30, Try.ntmps30
  go_wp2
  go_ret
  exact ⟨rfl, Ext.refl _⟩

theorem tdiv_facts (n d : Int) (hn : 0 ≤ n) (hd : 0 < d) : n.tdiv d = n / d ∧ n / d * d ≤ n ∧ n < n / d * d + d ∧ 0 ≤ n / d ∧ n / d ≤ n := by
  have h1 := Int.mul_ediv_add_emod n d
  have h2 := Int.emod_nonneg n (Int.ne_of_gt hd)
  have h3 := Int.emod_lt_of_pos n hd
  have h4 := Int.ediv_nonneg hn (Int.le_of_lt hd)
  rw [Int.mul_comm] at h1
  have h5 : n / d * 1 ≤ n / d * d := Int.mul_le_mul_of_nonneg_left (by omega) h4
  exact ⟨Int.tdiv_eq_ediv_of_nonneg hn, by omega, by omega, h4, by omega⟩

set_option maxHeartbeats 400000 in
theorem below_any (n d : Int) (w : World) (hn0 : 0 ≤ n) (hn : n ≤ 1000000000000) (hd0 : 1 ≤ d) (hd : d ≤ 1000000) :
    Calls Try.prog 38 #[.int .i64 n, .int .i64 d] w fun e w' => e = .returned (.int .i64 (n / d)) ∧ Ext w w' := by
  obtain ⟨_, h2, h3, h4, h5⟩ := tdiv_facts n d hn0 (by omega)
  have h6 : 0 ≤ n / d * d := Int.mul_nonneg h4 (by omega)
  go_enter Try.func38, Try.ntmps38
  go_wp2
  go_ret
  exact ⟨rfl, Ext.refl _⟩

set_option maxHeartbeats 400000 in
theorem round_any (n d : Int) (w : World) (hn0 : 0 ≤ n) (hn : n ≤ 1000000000000) (hd0 : 1 ≤ d) (hd : d ≤ 1000000) :
    Calls Try.prog 34 #[.int .i64 n, .int .i64 d] w fun e w' => e = .returned (.int .i64 (roundI n d)) ∧ Ext w w' := by
  obtain ⟨_, h2, h3, h4, h5⟩ := tdiv_facts n d hn0 (by omega)
  have h6 : 0 ≤ n / d * d := Int.mul_nonneg h4 (by omega)
  go_enter Try.func34, Try.ntmps34
  go_wp2_with (go_at_call 38; refine (below_any _ _ _ hn0 hn hd0 hd).mono ?_; rintro e w' ⟨rfl, g, rfl⟩)
  all_goals
    go_ret
    refine ⟨ret_int ?_, _, rfl⟩
    unfold roundI
    first | rw [if_pos (by omega)] | rw [if_neg (by omega)]

set_option maxHeartbeats 400000 in
theorem refOf_any (a b : Int) (w : World) (ha0 : 0 ≤ a) (ha : a ≤ 255) (hb0 : 0 ≤ b) (hb : b ≤ 255) :
    Calls Try.prog 23 #[.int .i64 a, .int .i64 b] w fun e w' => e = .returned (.int .i64 (ofI a b)) ∧ Ext w w' := by
  have h0 : 0 ≤ a * b := Int.mul_nonneg ha0 hb0
  have h1 : a * b ≤ 255 * 255 := Int.mul_le_mul ha hb hb0 (by omega)
  go_enter Try.func23, Try.ntmps23
  go_wp2_with (go_at_call 34; refine (round_any _ _ _ h0 (by omega) (by omega) (by omega)).mono ?_; rintro e w' ⟨rfl, g, rfl⟩)
  go_ret
  exact ⟨ret_int (round_of a b), _, rfl⟩

set_option maxHeartbeats 400000 in
theorem pubOf_in (a b : Int) (w : World) (ha0 : 0 ≤ a) (ha : a ≤ 255) (hb0 : 0 ≤ b) (hb : b ≤ 255) :
    Calls Try.prog 22 #[.int .i64 a, .int .i64 b] w fun e w' => e = .returned (.int .i64 (ofI a b)) ∧ Ext w w' := by
  go_enter Try.func22, Try.ntmps22
  go_wp2_with (go_at_call 30; refine (of_any _ _ _ ha0 ha hb0 hb).mono ?_; rintro e w' ⟨rfl, g, rfl⟩)
  go_ret
  exact ⟨rfl, _, rfl⟩

set_option maxHeartbeats 400000 in
theorem pubOf_out (a b : Int) (w : World) (h : a < 0 ∨ 255 < a ∨ b < 0 ∨ 255 < b) :
    Calls Try.prog 22 #[.int .i64 a, .int .i64 b] w fun e w' => e = .returned (.int .i64 0) ∧ Ext w w' := by
  by_cases h1 : min a b < 0
  · go_enter Try.func22, Try.ntmps22
    go_wp2_with fail
    go_ret
    exact ⟨rfl, Ext.refl _⟩
  · have h2 : 255 < max a b := by omega
    go_enter Try.func22, Try.ntmps22
    go_wp2_with fail
    go_ret
    exact ⟨rfl, Ext.refl _⟩

/-- is it right? -/
def rightB (a b c d : Int) : Bool := decide (max a (max b c) ≤ d)

set_option maxHeartbeats 400000 in
theorem right_any (c0 c1 c2 c3 : Int) (w : World) :
    Calls Try.prog 14 #[.agg #[.int .u8 c0, .int .u8 c1, .int .u8 c2, .int .u8 c3]] w fun e w' => e = .returned (.bool (rightB c0 c1 c2 c3)) ∧ Ext w w' := by
  go_enter Try.func14, Try.ntmps14
  go_wp2
  go_ret
  exact ⟨rfl, by repeat (first | exact Ext.refl _ | apply Ext.alloc)⟩

set_option maxHeartbeats 400000 in
theorem refRight_any (c0 c1 c2 c3 : Int) (w : World) :
    Calls Try.prog 20 #[.agg #[.int .i64 c0, .int .i64 c1, .int .i64 c2, .int .i64 c3]] w fun e w' => e = .returned (.bool (rightB c0 c1 c2 c3)) ∧ Ext w w' := by
  go_enter Try.func20, Try.ntmps20
  go_wp2
  all_goals
    go_ret
    exact ⟨ret_bool (by rw [Bool.eq_iff_iff]; simp [rightB]; omega), by repeat (first | exact Ext.refl _ | apply Ext.alloc)⟩

set_option maxHeartbeats 400000 in
theorem ref_any (c0 c1 c2 c3 : Int) (w : World) (hc0 : 0 ≤ c0 ∧ c0 ≤ 255) (hc1 : 0 ≤ c1 ∧ c1 ≤ 255) (hc2 : 0 ≤ c2 ∧ c2 ≤ 255) (hc3 : 0 ≤ c3 ∧ c3 ≤ 255) :
    Calls Try.prog 13 #[.agg #[.int .u8 c0, .int .u8 c1, .int .u8 c2, .int .u8 c3]] w fun e w' => e = .returned (.agg #[.int .i64 c0, .int .i64 c1, .int .i64 c2, .int .i64 c3]) ∧ Ext w w' := by
  go_enter Try.func13, Try.ntmps13
  go_wp2
  refine bodyPost_ret ?_ rfl ⟨rfl, by repeat (first | exact Ext.refl _ | apply Ext.alloc)⟩
  simp [results, Try.results13, go_sem]

theorem eq23 (w : World) (a0 a1 a2 a3 b0 b1 b2 b3 : Int) : (Op.equalIn 10000 23 (.agg #[.int .u8 a0, .int .u8 a1, .int .u8 a2, .int .u8 a3]) (.agg #[.int .u8 b0, .int .u8 b1, .int .u8 b2, .int .u8 b3])).run Try.prog w = .ok (a0 == b0 && (a1 == b1 && (a2 == b2 && a3 == b3))) w :=
  run_equalIn_arr4 w 9998 23 5 .u8 _ _ _ _ _ _ _ _ (by kernel_rfl) (by kernel_rfl) (fun _ => by kernel_rfl) (fun _ => by kernel_rfl)
theorem eq27 (w : World) (a0 a1 a2 a3 b0 b1 b2 b3 : Int) : (Op.equalIn 10000 27 (.agg #[.int .i64 a0, .int .i64 a1, .int .i64 a2, .int .i64 a3]) (.agg #[.int .i64 b0, .int .i64 b1, .int .i64 b2, .int .i64 b3])).run Try.prog w = .ok (a0 == b0 && (a1 == b1 && (a2 == b2 && a3 == b3))) w :=
  run_equalIn_arr4 w 9998 27 3 .i64 _ _ _ _ _ _ _ _ (by kernel_rfl) (by kernel_rfl) (fun _ => by kernel_rfl) (fun _ => by kernel_rfl)
attribute [go_sem] eq23 eq27

set_option maxHeartbeats 400000 in
theorem is_yes (c0 c1 c2 c3 : Int) (w : World) (hc0 : 0 ≤ c0 ∧ c0 ≤ 255) (hc1 : 0 ≤ c1 ∧ c1 ≤ 255) (hc2 : 0 ≤ c2 ∧ c2 ≤ 255) (hc3 : 0 ≤ c3 ∧ c3 ≤ 255) :
    Calls Try.prog 11 #[.agg #[.int .u8 c0, .int .u8 c1, .int .u8 c2, .int .u8 c3], .agg #[.int .i64 c0, .int .i64 c1, .int .i64 c2, .int .i64 c3]] w fun e w' => e = .returned (.bool true) ∧ Ext w w' := by
  go_enter Try.func11, Try.ntmps11
  go_wp2
  refine region_quiet (by kernel_rfl) (by kernel_rfl) ?_
  iterate 5 (go_big_quiet_step (exact calls_ext (ref_any c0 c1 c2 c3 _ hc0 hc1 hc2 hc3)))
  refine wpQuiet_nil ?_
  rintro _ ⟨g, rfl⟩
  go_wp2
  go_ret
  exact ⟨rfl, by repeat (first | exact Ext.refl _ | apply Ext.alloc | apply Ext.ext)⟩

end Go.Proofs.Ytnginblfdamfbaa
