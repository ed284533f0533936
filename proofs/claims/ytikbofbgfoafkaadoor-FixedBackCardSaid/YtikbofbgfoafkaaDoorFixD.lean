/- Added and taken away again, multiplied and divided again: what was there comes back. No condition. -/
import Derived.Test.YtikbofbgfoafkaaDoorFixC
namespace Go.Proofs.YtikbofbgfoafkaaDoor
open Go.RowKit
set_option linter.unusedVariables false
set_option linter.unusedSimpArgs false

theorem sub_back (a b : Int) (w : World) (ha : -2147483648 ≤ a ∧ a ≤ 2147483648) (hb : -2147483648 ≤ b ∧ b ≤ 2147483648) (hs : -2147483648 ≤ a + b ∧ a + b ≤ 2147483648) :
    Calls Tryd.prog 16 #[.int .i64 (a + b), .int .i64 b] w fun e w' => e = .returned (.tuple #[.int .i64 a, .int .i64 0]) ∧ Ext w w' := by
  have h := sub_yes (a + b) b w hs hb (by omega)
  rwa [show a + b - b = a by omega] at h

theorem add_zero' (a : Int) (ha : -2147483648 ≤ a ∧ a ≤ 2147483648) (w : World) : Calls Tryd.prog 15 #[.int .i64 a, .int .i64 0] w fun e w' => e = .returned (.tuple #[.int .i64 a, .int .i64 0]) ∧ Ext w w' := by
  have h := add_yes a 0 w ha (by omega) (by omega)
  rwa [Int.add_zero] at h
theorem sub_zero' (a : Int) (ha : -2147483648 ≤ a ∧ a ≤ 2147483648) (w : World) : Calls Tryd.prog 16 #[.int .i64 a, .int .i64 0] w fun e w' => e = .returned (.tuple #[.int .i64 a, .int .i64 0]) ∧ Ext w w' := by
  have h := sub_yes a 0 w ha (by omega) (by omega)
  rwa [Int.sub_zero] at h

theorem div_back (a b : Int) (w : World) (ha : -2147483648 ≤ a ∧ a ≤ 2147483648) (hb : -2147483648 ≤ b ∧ b ≤ 2147483648) (hm : b % 256 = 0) (hz : ¬ b = 0) (hs : -2147483648 ≤ ((a * b + 128) / 256) ∧ ((a * b + 128) / 256) ≤ 2147483648) :
    Calls Tryd.prog 21 #[.int .i64 ((a * b + 128) / 256), .int .i64 b] w fun e w' => e = .returned (.tuple #[.int .i64 a, .int .i64 0]) ∧ Ext w w' := by
  obtain ⟨c, rfl⟩ : ∃ c, b = 256 * c := ⟨b / 256, by omega⟩
  have e1 : (a * (256 * c) + 128) / 256 = a * c := by
    rw [show a * (256 * c) = 256 * (a * c) by rw [Int.mul_left_comm]]
    omega
  rw [e1] at hs ⊢
  have o1 : outN a = a := if_pos ha
  have o2 : outE a = 0 := if_pos ha
  obtain hb0 | hb0 | hb0 := Int.lt_trichotomy c 0
  · have h := div_neg (a * c) (256 * c) w hs hb (by omega)
    have e2 : (2 * (-(a * c) * 256) + -(256 * c)) / (2 * -(256 * c)) = a := by
      refine ((Int.ediv_emod_unique (r := -(256 * c)) (by omega)).2 ⟨?_, by omega, by omega⟩).1
      rw [Int.mul_comm (2 * -(256 * c)) a, show a * (2 * -(256 * c)) = -512 * (a * c) by rw [show 2 * -(256 * c) = -512 * c by omega, Int.mul_left_comm]]
      omega
    rwa [e2, o1, o2] at h
  · exact absurd (by omega) hz
  · have h := div_pos (a * c) (256 * c) w hs hb (by omega)
    have e2 : (2 * (a * c * 256) + 256 * c) / (2 * (256 * c)) = a := by
      refine ((Int.ediv_emod_unique (r := 256 * c) (by omega)).2 ⟨?_, by omega, by omega⟩).1
      rw [Int.mul_comm (2 * (256 * c)) a, show a * (2 * (256 * c)) = 512 * (a * c) by rw [show 2 * (256 * c) = 512 * c by omega, Int.mul_left_comm]]
      omega
    rwa [e2, o1, o2] at h

set_option maxRecDepth 100000 in
set_option maxHeartbeats 1600000 in
theorem back_1_mod (a b : Int) (w : World) (hA : (-2147483648 ≤ a ∧ a ≤ 2147483648) ∧ (-2147483648 ≤ b ∧ b ≤ 2147483648) ∧ -2147483648 ≤ a + b ∧ a + b ≤ 2147483648) (hm : ¬ b % 256 = 0) : Calls Tryd.prog 6 #[.int .i64 a, .int .i64 b] w fun e w' => e = .returned (.bool true) ∧ Ext w w' := by
  have C1 := Lib.hid (fun w => add_yes a b w hA.1 hA.2.1 hA.2.2)
  have C2 := Lib.hid (fun w => sub_back a b w hA.1 hA.2.1 hA.2.2)
  have b1 := i64_and255 b
  clear hA
  go_enter Tryd.func6, Tryd.ntmps6
  go_wp2_with (first | ((first | (go_at_call 15; refine (C1.out _).mono ?_) | (go_at_call 16; refine (C2.out _).mono ?_) | (go_at_call 14; refine (awake_any _).mono ?_)); rintro e w' ⟨rfl, g, rfl⟩))
  go_ret
  exact ⟨by rfl, by (repeat (first | exact Ext.refl _ | apply Ext.alloc | apply Ext.ext))⟩

set_option maxRecDepth 100000 in
set_option maxHeartbeats 1600000 in
theorem back_1_zero (a b : Int) (w : World) (hA : (-2147483648 ≤ a ∧ a ≤ 2147483648) ∧ (-2147483648 ≤ b ∧ b ≤ 2147483648) ∧ -2147483648 ≤ a + b ∧ a + b ≤ 2147483648) (hz : b = 0) : Calls Tryd.prog 6 #[.int .i64 a, .int .i64 b] w fun e w' => e = .returned (.bool true) ∧ Ext w w' := by
  subst hz
  have C1 := Lib.hid (add_zero' a hA.1)
  have C2 := Lib.hid (sub_zero' a hA.1)
  have b1 : bits BinOp.and IntKind.i64 0 255 = 0 := by decide
  clear hA
  go_enter Tryd.func6, Tryd.ntmps6
  go_wp2_with (first | ((first | (go_at_call 15; refine (C1.out _).mono ?_) | (go_at_call 16; refine (C2.out _).mono ?_) | (go_at_call 14; refine (awake_any _).mono ?_)); rintro e w' ⟨rfl, g, rfl⟩))
  go_ret
  exact ⟨by rfl, by (repeat (first | exact Ext.refl _ | apply Ext.alloc | apply Ext.ext))⟩

set_option maxRecDepth 100000 in
set_option maxHeartbeats 1600000 in
theorem back_1_no (a b : Int) (w : World) (hA : (-2147483648 ≤ a ∧ a ≤ 2147483648) ∧ (-2147483648 ≤ b ∧ b ≤ 2147483648) ∧ -2147483648 ≤ a + b ∧ a + b ≤ 2147483648) (hm : b % 256 = 0) (hz : ¬ b = 0) (hM : ¬((-2147483648 ≤ a ∧ a ≤ 2147483648) ∧ (-2147483648 ≤ b ∧ b ≤ 2147483648) ∧ -2147483648 ≤ ((a * b + 128) / 256) ∧ ((a * b + 128) / 256) ≤ 2147483648)) : Calls Tryd.prog 6 #[.int .i64 a, .int .i64 b] w fun e w' => e = .returned (.bool true) ∧ Ext w w' := by
  have C1 := Lib.hid (fun w => add_yes a b w hA.1 hA.2.1 hA.2.2)
  have C2 := Lib.hid (fun w => sub_back a b w hA.1 hA.2.1 hA.2.2)
  have b1 := i64_and255 b
  have C3 := Lib.hid (fun w => mul_no a b w hM)
  clear hA hM
  go_enter Tryd.func6, Tryd.ntmps6
  go_wp2_with (first | ((first | (go_at_call 15; refine (C1.out _).mono ?_) | (go_at_call 16; refine (C2.out _).mono ?_) | (go_at_call 20; refine (C3.out _).mono ?_) | (go_at_call 14; refine (awake_any _).mono ?_)); rintro e w' ⟨rfl, g, rfl⟩))
  go_ret
  exact ⟨by rfl, by (repeat (first | exact Ext.refl _ | apply Ext.alloc | apply Ext.ext))⟩

set_option maxRecDepth 100000 in
set_option maxHeartbeats 1600000 in
theorem back_1_yes (a b : Int) (w : World) (hA : (-2147483648 ≤ a ∧ a ≤ 2147483648) ∧ (-2147483648 ≤ b ∧ b ≤ 2147483648) ∧ -2147483648 ≤ a + b ∧ a + b ≤ 2147483648) (hm : b % 256 = 0) (hz : ¬ b = 0) (hM : (-2147483648 ≤ a ∧ a ≤ 2147483648) ∧ (-2147483648 ≤ b ∧ b ≤ 2147483648) ∧ -2147483648 ≤ ((a * b + 128) / 256) ∧ ((a * b + 128) / 256) ≤ 2147483648) : Calls Tryd.prog 6 #[.int .i64 a, .int .i64 b] w fun e w' => e = .returned (.bool true) ∧ Ext w w' := by
  have C1 := Lib.hid (fun w => add_yes a b w hA.1 hA.2.1 hA.2.2)
  have C2 := Lib.hid (fun w => sub_back a b w hA.1 hA.2.1 hA.2.2)
  have b1 := i64_and255 b
  have C3 := Lib.hid (fun w => mul_yes a b w hM.1 hM.2.1 hM.2.2)
  have C4 := Lib.hid (fun w => div_back a b w hM.1 hM.2.1 hm hz hM.2.2)
  clear hA hM
  go_enter Tryd.func6, Tryd.ntmps6
  go_wp2_with (first | ((first | (go_at_call 15; refine (C1.out _).mono ?_) | (go_at_call 16; refine (C2.out _).mono ?_) | (go_at_call 20; refine (C3.out _).mono ?_) | (go_at_call 21; refine (C4.out _).mono ?_) | (go_at_call 14; refine (awake_any _).mono ?_)); rintro e w' ⟨rfl, g, rfl⟩))
  go_ret
  exact ⟨by rfl, by (repeat (first | exact Ext.refl _ | apply Ext.alloc | apply Ext.ext))⟩

set_option maxRecDepth 100000 in
set_option maxHeartbeats 1600000 in
theorem back_0_mod (a b : Int) (w : World) (hA : ¬((-2147483648 ≤ a ∧ a ≤ 2147483648) ∧ (-2147483648 ≤ b ∧ b ≤ 2147483648) ∧ -2147483648 ≤ a + b ∧ a + b ≤ 2147483648)) (hm : ¬ b % 256 = 0) : Calls Tryd.prog 6 #[.int .i64 a, .int .i64 b] w fun e w' => e = .returned (.bool true) ∧ Ext w w' := by
  have C1 := Lib.hid (fun w => add_no a b w hA)
  have b1 := i64_and255 b
  clear hA
  go_enter Tryd.func6, Tryd.ntmps6
  go_wp2_with (first | ((first | (go_at_call 15; refine (C1.out _).mono ?_) | (go_at_call 14; refine (awake_any _).mono ?_)); rintro e w' ⟨rfl, g, rfl⟩))
  go_ret
  exact ⟨by rfl, by (repeat (first | exact Ext.refl _ | apply Ext.alloc | apply Ext.ext))⟩

set_option maxRecDepth 100000 in
set_option maxHeartbeats 1600000 in
theorem back_0_zero (a b : Int) (w : World) (hA : ¬((-2147483648 ≤ a ∧ a ≤ 2147483648) ∧ (-2147483648 ≤ b ∧ b ≤ 2147483648) ∧ -2147483648 ≤ a + b ∧ a + b ≤ 2147483648)) (hz : b = 0) : Calls Tryd.prog 6 #[.int .i64 a, .int .i64 b] w fun e w' => e = .returned (.bool true) ∧ Ext w w' := by
  subst hz
  have C1 := Lib.hid (fun w => add_no a 0 w hA)
  have b1 : bits BinOp.and IntKind.i64 0 255 = 0 := by decide
  clear hA
  go_enter Tryd.func6, Tryd.ntmps6
  go_wp2_with (first | ((first | (go_at_call 15; refine (C1.out _).mono ?_) | (go_at_call 14; refine (awake_any _).mono ?_)); rintro e w' ⟨rfl, g, rfl⟩))
  go_ret
  exact ⟨by rfl, by (repeat (first | exact Ext.refl _ | apply Ext.alloc | apply Ext.ext))⟩

set_option maxRecDepth 100000 in
set_option maxHeartbeats 1600000 in
theorem back_0_no (a b : Int) (w : World) (hA : ¬((-2147483648 ≤ a ∧ a ≤ 2147483648) ∧ (-2147483648 ≤ b ∧ b ≤ 2147483648) ∧ -2147483648 ≤ a + b ∧ a + b ≤ 2147483648)) (hm : b % 256 = 0) (hz : ¬ b = 0) (hM : ¬((-2147483648 ≤ a ∧ a ≤ 2147483648) ∧ (-2147483648 ≤ b ∧ b ≤ 2147483648) ∧ -2147483648 ≤ ((a * b + 128) / 256) ∧ ((a * b + 128) / 256) ≤ 2147483648)) : Calls Tryd.prog 6 #[.int .i64 a, .int .i64 b] w fun e w' => e = .returned (.bool true) ∧ Ext w w' := by
  have C1 := Lib.hid (fun w => add_no a b w hA)
  have b1 := i64_and255 b
  have C3 := Lib.hid (fun w => mul_no a b w hM)
  clear hA hM
  go_enter Tryd.func6, Tryd.ntmps6
  go_wp2_with (first | ((first | (go_at_call 15; refine (C1.out _).mono ?_) | (go_at_call 20; refine (C3.out _).mono ?_) | (go_at_call 14; refine (awake_any _).mono ?_)); rintro e w' ⟨rfl, g, rfl⟩))
  go_ret
  exact ⟨by rfl, by (repeat (first | exact Ext.refl _ | apply Ext.alloc | apply Ext.ext))⟩

set_option maxRecDepth 100000 in
set_option maxHeartbeats 1600000 in
theorem back_0_yes (a b : Int) (w : World) (hA : ¬((-2147483648 ≤ a ∧ a ≤ 2147483648) ∧ (-2147483648 ≤ b ∧ b ≤ 2147483648) ∧ -2147483648 ≤ a + b ∧ a + b ≤ 2147483648)) (hm : b % 256 = 0) (hz : ¬ b = 0) (hM : (-2147483648 ≤ a ∧ a ≤ 2147483648) ∧ (-2147483648 ≤ b ∧ b ≤ 2147483648) ∧ -2147483648 ≤ ((a * b + 128) / 256) ∧ ((a * b + 128) / 256) ≤ 2147483648) : Calls Tryd.prog 6 #[.int .i64 a, .int .i64 b] w fun e w' => e = .returned (.bool true) ∧ Ext w w' := by
  have C1 := Lib.hid (fun w => add_no a b w hA)
  have b1 := i64_and255 b
  have C3 := Lib.hid (fun w => mul_yes a b w hM.1 hM.2.1 hM.2.2)
  have C4 := Lib.hid (fun w => div_back a b w hM.1 hM.2.1 hm hz hM.2.2)
  clear hA hM
  go_enter Tryd.func6, Tryd.ntmps6
  go_wp2_with (first | ((first | (go_at_call 15; refine (C1.out _).mono ?_) | (go_at_call 20; refine (C3.out _).mono ?_) | (go_at_call 21; refine (C4.out _).mono ?_) | (go_at_call 14; refine (awake_any _).mono ?_)); rintro e w' ⟨rfl, g, rfl⟩))
  go_ret
  exact ⟨by rfl, by (repeat (first | exact Ext.refl _ | apply Ext.alloc | apply Ext.ext))⟩

theorem FixedBack_walk (a b : Int) (w : World) (h1 : -9223372036854775808 ≤ a) (h2 : a ≤ 9223372036854775807) (h3 : -9223372036854775808 ≤ b) (h4 : b ≤ 9223372036854775807) : Calls Tryd.prog 6 #[.int .i64 a, .int .i64 b] w fun e w' => e = .returned (.bool true) ∧ Ext w w' := by
  by_cases hA : (-2147483648 ≤ a ∧ a ≤ 2147483648) ∧ (-2147483648 ≤ b ∧ b ≤ 2147483648) ∧ -2147483648 ≤ a + b ∧ a + b ≤ 2147483648
  · by_cases hm : b % 256 = 0
    · by_cases hz : b = 0
      · exact back_1_zero a b w hA hz
      · by_cases hM : (-2147483648 ≤ a ∧ a ≤ 2147483648) ∧ (-2147483648 ≤ b ∧ b ≤ 2147483648) ∧ -2147483648 ≤ ((a * b + 128) / 256) ∧ ((a * b + 128) / 256) ≤ 2147483648
        · exact back_1_yes a b w hA hm hz hM
        · exact back_1_no a b w hA hm hz hM
    · exact back_1_mod a b w hA hm
  · by_cases hm : b % 256 = 0
    · by_cases hz : b = 0
      · exact back_0_zero a b w hA hz
      · by_cases hM : (-2147483648 ≤ a ∧ a ≤ 2147483648) ∧ (-2147483648 ≤ b ∧ b ≤ 2147483648) ∧ -2147483648 ≤ ((a * b + 128) / 256) ∧ ((a * b + 128) / 256) ≤ 2147483648
        · exact back_0_yes a b w hA hm hz hM
        · exact back_0_no a b w hA hm hz hM
    · exact back_0_mod a b w hA hm
end Go.Proofs.YtikbofbgfoafkaaDoor
