import Derived.Test.YtikbofbgfoafkaaDoorFixA
namespace Go.Proofs.YtikbofbgfoafkaaDoor
open Go.RowKit
set_option linter.unusedVariables false
set_option linter.unusedSimpArgs false


set_option maxRecDepth 100000 in
set_option maxHeartbeats 1600000 in
theorem FixedRounds_walk (a : Int) (w : World) (h1 : -9223372036854775808 ≤ a) (h2 : a ≤ 9223372036854775807) : Calls Tryd.prog 3 #[.int .i64 a] w fun e w' => e = .returned (.bool true) ∧ Ext w w' := by
  have hr : (2 * a + 256) / (2 * 256) = (a + 128) / 256 := by omega
  by_cases hc : a / 256 * 256 = a
  · have e1 : (a + 255) / 256 = a / 256 := by omega
    go_enter Tryd.func3, Tryd.ntmps3
    go_wp2_with (first | (((first | (go_at_call 9; refine (floor_any _ _ (by omega) (by omega)).mono ?_) | (go_at_call 10; refine (ceil_any _ _ (by omega) (by omega)).mono ?_) | (go_at_call 11; refine (near_any _ _ (by omega) (by omega)).mono ?_) | (go_at_call 12; refine (below_any _ _ _ (by omega) (by omega) (by omega) (by omega)).mono ?_) | (go_at_call 13; refine (round_any _ _ _ (by omega) (by omega) (by omega) (by omega) (by omega)).mono ?_) | (go_at_call 14; refine (awake_any _).mono ?_))); rintro e w' ⟨rfl, g, rfl⟩))
    go_ret
    exact ⟨by rfl, by ((repeat (first | exact Ext.refl _ | apply Ext.alloc | apply Ext.ext)))⟩
  · have e1 : (a + 255) / 256 = a / 256 + 1 := by omega
    go_enter Tryd.func3, Tryd.ntmps3
    go_wp2_with (first | (((first | (go_at_call 9; refine (floor_any _ _ (by omega) (by omega)).mono ?_) | (go_at_call 10; refine (ceil_any _ _ (by omega) (by omega)).mono ?_) | (go_at_call 11; refine (near_any _ _ (by omega) (by omega)).mono ?_) | (go_at_call 12; refine (below_any _ _ _ (by omega) (by omega) (by omega) (by omega)).mono ?_) | (go_at_call 13; refine (round_any _ _ _ (by omega) (by omega) (by omega) (by omega) (by omega)).mono ?_) | (go_at_call 14; refine (awake_any _).mono ?_))); rintro e w' ⟨rfl, g, rfl⟩))
    go_ret
    exact ⟨by rfl, by ((repeat (first | exact Ext.refl _ | apply Ext.alloc | apply Ext.ext)))⟩

theorem add_out (a b : Int) (w : World) (ha : -2147483648 ≤ a ∧ a ≤ 2147483648) (hb : -2147483648 ≤ b ∧ b ≤ 2147483648) :
    Calls Tryd.prog 15 #[.int .i64 a, .int .i64 b] w fun e w' => e = .returned (.tuple #[.int .i64 (outN (a + b)), .int .i64 (outE (a + b))]) ∧ Ext w w' := by
  by_cases h : -2147483648 ≤ a + b ∧ a + b ≤ 2147483648
  · have e1 : outN (a + b) = a + b := if_pos h
    have e2 : outE (a + b) = 0 := if_pos h
    rw [e1, e2]; exact add_yes a b w ha hb h
  · have e1 : outN (a + b) = 0 := if_neg h
    have e2 : outE (a + b) = 10 := if_neg h
    rw [e1, e2]; exact add_no a b w (fun x => h x.2.2)

theorem sub_out (a b : Int) (w : World) (ha : -2147483648 ≤ a ∧ a ≤ 2147483648) (hb : -2147483648 ≤ b ∧ b ≤ 2147483648) :
    Calls Tryd.prog 16 #[.int .i64 a, .int .i64 b] w fun e w' => e = .returned (.tuple #[.int .i64 (outN (a - b)), .int .i64 (outE (a - b))]) ∧ Ext w w' := by
  by_cases h : -2147483648 ≤ a - b ∧ a - b ≤ 2147483648
  · have e1 : outN (a - b) = a - b := if_pos h
    have e2 : outE (a - b) = 0 := if_pos h
    rw [e1, e2]; exact sub_yes a b w ha hb h
  · have e1 : outN (a - b) = 0 := if_neg h
    have e2 : outE (a - b) = 10 := if_neg h
    rw [e1, e2]; exact sub_no a b w (fun x => h x.2.2)

theorem mul_out (a b : Int) (w : World) (ha : -2147483648 ≤ a ∧ a ≤ 2147483648) (hb : -2147483648 ≤ b ∧ b ≤ 2147483648) :
    Calls Tryd.prog 20 #[.int .i64 a, .int .i64 b] w fun e w' => e = .returned (.tuple #[.int .i64 (outN ((a * b + 128) / 256)), .int .i64 (outE ((a * b + 128) / 256))]) ∧ Ext w w' := by
  by_cases h : -2147483648 ≤ (a * b + 128) / 256 ∧ (a * b + 128) / 256 ≤ 2147483648
  · have e1 : outN ((a * b + 128) / 256) = (a * b + 128) / 256 := if_pos h
    have e2 : outE ((a * b + 128) / 256) = 0 := if_pos h
    rw [e1, e2]; exact mul_yes a b w ha hb h
  · have e1 : outN ((a * b + 128) / 256) = 0 := if_neg h
    have e2 : outE ((a * b + 128) / 256) = 10 := if_neg h
    rw [e1, e2]; exact mul_no a b w (fun x => h x.2.2)


set_option maxRecDepth 100000 in
set_option maxHeartbeats 1600000 in
theorem FixedSums_in (a b : Int) (w : World) (ha : -2147483648 ≤ a ∧ a ≤ 2147483648) (hb : -2147483648 ≤ b ∧ b ≤ 2147483648) : Calls Tryd.prog 4 #[.int .i64 a, .int .i64 b] w fun e w' => e = .returned (.bool true) ∧ Ext w w' := by
  go_enter Tryd.func4, Tryd.ntmps4
  go_wp2_with (first | ((first | ((first | (go_at_call 17; first | refine (refIn_yes _ _ (by assumption)).mono ?_ | refine (refIn_no _ _ (by assumption)).mono ?_) | (go_at_call 18; first | refine (in_yes _ _ (by assumption)).mono ?_ | refine (in_no _ _ (by assumption)).mono ?_) | (go_at_call 19; refine (is_yes _ _).mono ?_) | (go_at_call 14; refine (awake_any _).mono ?_))) | (go_at_call 15; refine (add_out _ _ _ (by assumption) (by assumption)).mono ?_) | (go_at_call 16; refine (sub_out _ _ _ (by assumption) (by assumption)).mono ?_)); rintro e w' ⟨rfl, g, rfl⟩))
  go_ret
  exact ⟨by rfl, by ((repeat (first | exact Ext.refl _ | apply Ext.alloc | apply Ext.ext)))⟩

set_option maxRecDepth 100000 in
set_option maxHeartbeats 1600000 in
theorem FixedSums_no (a b : Int) (w : World) (h : ¬((-2147483648 ≤ a ∧ a ≤ 2147483648) ∧ (-2147483648 ≤ b ∧ b ≤ 2147483648))) : Calls Tryd.prog 4 #[.int .i64 a, .int .i64 b] w fun e w' => e = .returned (.bool true) ∧ Ext w w' := by
  have n1 : ¬((-2147483648 ≤ a ∧ a ≤ 2147483648) ∧ (-2147483648 ≤ b ∧ b ≤ 2147483648) ∧ -2147483648 ≤ a + b ∧ a + b ≤ 2147483648) := fun x => h ⟨x.1, x.2.1⟩
  have n2 : ¬((-2147483648 ≤ a ∧ a ≤ 2147483648) ∧ (-2147483648 ≤ b ∧ b ≤ 2147483648) ∧ -2147483648 ≤ a - b ∧ a - b ≤ 2147483648) := fun x => h ⟨x.1, x.2.1⟩
  by_cases ha : -2147483648 ≤ a ∧ a ≤ 2147483648
  · have hb : ¬ (-2147483648 ≤ b ∧ b ≤ 2147483648) := fun x => h ⟨ha, x⟩
    have N1 := Lib.hid n1
    have N2 := Lib.hid n2
    clear h n1 n2
    go_enter Tryd.func4, Tryd.ntmps4
    go_wp2_with (first | ((first | ((first | (go_at_call 17; first | refine (refIn_yes _ _ (by assumption)).mono ?_ | refine (refIn_no _ _ (by assumption)).mono ?_) | (go_at_call 18; first | refine (in_yes _ _ (by assumption)).mono ?_ | refine (in_no _ _ (by assumption)).mono ?_) | (go_at_call 19; refine (is_yes _ _).mono ?_) | (go_at_call 14; refine (awake_any _).mono ?_))) | (go_at_call 15; refine (add_no _ _ _ N1.out).mono ?_) | (go_at_call 16; refine (sub_no _ _ _ N2.out).mono ?_)); rintro e w' ⟨rfl, g, rfl⟩))
    go_ret
    exact ⟨by rfl, by ((repeat (first | exact Ext.refl _ | apply Ext.alloc | apply Ext.ext)))⟩
  · have N1 := Lib.hid n1
    have N2 := Lib.hid n2
    clear h n1 n2
    go_enter Tryd.func4, Tryd.ntmps4
    go_wp2_with (first | ((first | ((first | (go_at_call 17; first | refine (refIn_yes _ _ (by assumption)).mono ?_ | refine (refIn_no _ _ (by assumption)).mono ?_) | (go_at_call 18; first | refine (in_yes _ _ (by assumption)).mono ?_ | refine (in_no _ _ (by assumption)).mono ?_) | (go_at_call 19; refine (is_yes _ _).mono ?_) | (go_at_call 14; refine (awake_any _).mono ?_))) | (go_at_call 15; refine (add_no _ _ _ N1.out).mono ?_) | (go_at_call 16; refine (sub_no _ _ _ N2.out).mono ?_)); rintro e w' ⟨rfl, g, rfl⟩))
    go_ret
    exact ⟨by rfl, by ((repeat (first | exact Ext.refl _ | apply Ext.alloc | apply Ext.ext)))⟩

theorem FixedSums_walk (a b : Int) (w : World) (h1 : -9223372036854775808 ≤ a) (h2 : a ≤ 9223372036854775807) (h3 : -9223372036854775808 ≤ b) (h4 : b ≤ 9223372036854775807) : Calls Tryd.prog 4 #[.int .i64 a, .int .i64 b] w fun e w' => e = .returned (.bool true) ∧ Ext w w' := by
  by_cases h : (-2147483648 ≤ a ∧ a ≤ 2147483648) ∧ (-2147483648 ≤ b ∧ b ≤ 2147483648)
  · exact FixedSums_in a b w h.1 h.2
  · exact FixedSums_no a b w h

end Go.Proofs.YtikbofbgfoafkaaDoor
