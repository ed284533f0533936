import Derived.Test.YtikbofbgfoafkaaDoorFixB
namespace Go.Proofs.YtikbofbgfoafkaaDoor
open Go.RowKit
set_option linter.unusedVariables false
set_option linter.unusedSimpArgs false

theorem room_out (n : Int) (w : World) : Calls Tryd.prog 25 #[.int .i64 n] w fun e w' => e = .returned (.tuple #[.int .i64 (outN n), .int .i64 (outE n)]) ∧ Ext w w' := by
  by_cases h : -2147483648 ≤ n ∧ n ≤ 2147483648
  · have e1 : outN n = n := if_pos h
    have e2 : outE n = 0 := if_pos h
    rw [e1, e2]; exact room_yes n w h
  · have e1 : outN n = 0 := if_neg h
    have e2 : outE n = 10 := if_neg h
    rw [e1, e2]; exact room_no n w h


set_option maxRecDepth 100000 in
set_option maxHeartbeats 1600000 in
theorem div_w1 (a b : Int) (w : World) (ha : -2147483648 ≤ a ∧ a ≤ 2147483648) (hb : -2147483648 ≤ b ∧ b ≤ 2147483648) (h0 : 0 < b) (ht : (a * 512 + b).tmod (2 * b) < 0) (hl : -4398046511104 ≤ (a * 512 + b).tdiv (2 * b)) (hu : (a * 512 + b).tdiv (2 * b) ≤ 4398046511104) :
    Calls Tryd.prog 21 #[.int .i64 a, .int .i64 b] w fun e w' => e = .returned (.tuple #[.int .i64 (outN ((a * 512 + b).tdiv (2 * b) - 1)), .int .i64 (outE ((a * 512 + b).tdiv (2 * b) - 1))]) ∧ Ext w w' := by
  have hz : ¬ b = 0 := by omega
  have hn : ¬ b < 0 := by omega
  go_enter Tryd.func21, Tryd.ntmps21
  go_wp2_with (first | (((first | (go_at_call 18; refine (in_yes _ _ (by omega)).mono ?_) | (go_at_call 25; refine (room_out _ _).mono ?_))); rintro e w' ⟨rfl, g, rfl⟩))
  exact bodyPost_ii (by simp [results, Tryd.results21, go_sem]) rfl rfl rfl (by ((repeat (first | exact Ext.refl _ | apply Ext.alloc | apply Ext.ext))))

set_option maxRecDepth 100000 in
set_option maxHeartbeats 1600000 in
theorem div_w2 (a b : Int) (w : World) (ha : -2147483648 ≤ a ∧ a ≤ 2147483648) (hb : -2147483648 ≤ b ∧ b ≤ 2147483648) (h0 : 0 < b) (ht : ¬ (a * 512 + b).tmod (2 * b) < 0) (hl : -4398046511104 ≤ (a * 512 + b).tdiv (2 * b)) (hu : (a * 512 + b).tdiv (2 * b) ≤ 4398046511104) :
    Calls Tryd.prog 21 #[.int .i64 a, .int .i64 b] w fun e w' => e = .returned (.tuple #[.int .i64 (outN ((a * 512 + b).tdiv (2 * b))), .int .i64 (outE ((a * 512 + b).tdiv (2 * b)))]) ∧ Ext w w' := by
  have hz : ¬ b = 0 := by omega
  have hn : ¬ b < 0 := by omega
  go_enter Tryd.func21, Tryd.ntmps21
  go_wp2_with (first | (((first | (go_at_call 18; refine (in_yes _ _ (by omega)).mono ?_) | (go_at_call 25; refine (room_out _ _).mono ?_))); rintro e w' ⟨rfl, g, rfl⟩))
  exact bodyPost_ii (by simp [results, Tryd.results21, go_sem]) rfl rfl rfl (by ((repeat (first | exact Ext.refl _ | apply Ext.alloc | apply Ext.ext))))

set_option maxRecDepth 100000 in
set_option maxHeartbeats 1600000 in
theorem div_w3 (a b : Int) (w : World) (ha : -2147483648 ≤ a ∧ a ≤ 2147483648) (hb : -2147483648 ≤ b ∧ b ≤ 2147483648) (h0 : b < 0) (ht : ((-a) * 512 + (-b)).tmod (2 * (-b)) < 0) (hl : -4398046511104 ≤ ((-a) * 512 + (-b)).tdiv (2 * (-b))) (hu : ((-a) * 512 + (-b)).tdiv (2 * (-b)) ≤ 4398046511104) :
    Calls Tryd.prog 21 #[.int .i64 a, .int .i64 b] w fun e w' => e = .returned (.tuple #[.int .i64 (outN (((-a) * 512 + (-b)).tdiv (2 * (-b)) - 1)), .int .i64 (outE (((-a) * 512 + (-b)).tdiv (2 * (-b)) - 1))]) ∧ Ext w w' := by
  have hz : ¬ b = 0 := by omega
  go_enter Tryd.func21, Tryd.ntmps21
  go_wp2_with (first | (((first | (go_at_call 18; refine (in_yes _ _ (by omega)).mono ?_) | (go_at_call 25; refine (room_out _ _).mono ?_))); rintro e w' ⟨rfl, g, rfl⟩))
  exact bodyPost_ii (by simp [results, Tryd.results21, go_sem]) rfl rfl rfl (by ((repeat (first | exact Ext.refl _ | apply Ext.alloc | apply Ext.ext))))

set_option maxRecDepth 100000 in
set_option maxHeartbeats 1600000 in
theorem div_w4 (a b : Int) (w : World) (ha : -2147483648 ≤ a ∧ a ≤ 2147483648) (hb : -2147483648 ≤ b ∧ b ≤ 2147483648) (h0 : b < 0) (ht : ¬ ((-a) * 512 + (-b)).tmod (2 * (-b)) < 0) (hl : -4398046511104 ≤ ((-a) * 512 + (-b)).tdiv (2 * (-b))) (hu : ((-a) * 512 + (-b)).tdiv (2 * (-b)) ≤ 4398046511104) :
    Calls Tryd.prog 21 #[.int .i64 a, .int .i64 b] w fun e w' => e = .returned (.tuple #[.int .i64 (outN (((-a) * 512 + (-b)).tdiv (2 * (-b)))), .int .i64 (outE (((-a) * 512 + (-b)).tdiv (2 * (-b))))]) ∧ Ext w w' := by
  have hz : ¬ b = 0 := by omega
  go_enter Tryd.func21, Tryd.ntmps21
  go_wp2_with (first | (((first | (go_at_call 18; refine (in_yes _ _ (by omega)).mono ?_) | (go_at_call 25; refine (room_out _ _).mono ?_))); rintro e w' ⟨rfl, g, rfl⟩))
  exact bodyPost_ii (by simp [results, Tryd.results21, go_sem]) rfl rfl rfl (by ((repeat (first | exact Ext.refl _ | apply Ext.alloc | apply Ext.ext))))

theorem div_zero (a : Int) (w : World) (ha : -2147483648 ≤ a ∧ a ≤ 2147483648) :
    Calls Tryd.prog 21 #[.int .i64 a, .int .i64 0] w fun e w' => e = .returned (.tuple #[.int .i64 0, .int .i64 11]) ∧ Ext w w' := by
  go_enter Tryd.func21, Tryd.ntmps21
  go_wp2_with (first | (((first | (go_at_call 18; refine (in_yes _ _ (by omega)).mono ?_) | (go_at_call 25; refine (room_out _ _).mono ?_))); rintro e w' ⟨rfl, g, rfl⟩))
  exact bodyPost_ii (by simp [results, Tryd.results21, go_sem]) rfl rfl rfl (by ((repeat (first | exact Ext.refl _ | apply Ext.alloc | apply Ext.ext))))

theorem div_pos (a b : Int) (w : World) (ha : -2147483648 ≤ a ∧ a ≤ 2147483648) (hb : -2147483648 ≤ b ∧ b ≤ 2147483648) (h0 : 0 < b) :
    Calls Tryd.prog 21 #[.int .i64 a, .int .i64 b] w fun e w' => e = .returned (.tuple #[.int .i64 (outN ((2 * (a * 256) + b) / (2 * b))), .int .i64 (outE ((2 * (a * 256) + b) / (2 * b)))]) ∧ Ext w w' := by
  have hb2 := tdiv_bound (a * 512 + b) (2 * b) (by omega)
  have hf := tdiv_floor (a * 512 + b) (2 * b) (by omega)
  have e0 : 2 * (a * 256) + b = a * 512 + b := by omega
  rw [e0]
  by_cases ht : (a * 512 + b).tmod (2 * b) < 0
  · rw [hf.1 ht]; exact div_w1 a b w ha hb h0 ht (by omega) (by omega)
  · rw [hf.2 ht]; exact div_w2 a b w ha hb h0 ht (by omega) (by omega)

theorem div_neg (a b : Int) (w : World) (ha : -2147483648 ≤ a ∧ a ≤ 2147483648) (hb : -2147483648 ≤ b ∧ b ≤ 2147483648) (h0 : b < 0) :
    Calls Tryd.prog 21 #[.int .i64 a, .int .i64 b] w fun e w' => e = .returned (.tuple #[.int .i64 (outN ((2 * (-a * 256) + -b) / (2 * -b))), .int .i64 (outE ((2 * (-a * 256) + -b) / (2 * -b)))]) ∧ Ext w w' := by
  have hb2 := tdiv_bound (-a * 512 + -b) (2 * -b) (by omega)
  have hf := tdiv_floor (-a * 512 + -b) (2 * -b) (by omega)
  have e0 : 2 * (-a * 256) + -b = -a * 512 + -b := by omega
  rw [e0]
  by_cases ht : (-a * 512 + -b).tmod (2 * -b) < 0
  · rw [hf.1 ht]; exact div_w3 a b w ha hb h0 ht (by omega) (by omega)
  · rw [hf.2 ht]; exact div_w4 a b w ha hb h0 ht (by omega) (by omega)

theorem div_no (a b : Int) (w : World) (h : ¬((-2147483648 ≤ a ∧ a ≤ 2147483648) ∧ (-2147483648 ≤ b ∧ b ≤ 2147483648))) :
    Calls Tryd.prog 21 #[.int .i64 a, .int .i64 b] w fun e w' => e = .returned (.tuple #[.int .i64 0, .int .i64 10]) ∧ Ext w w' := by
  by_cases ha : -2147483648 ≤ a ∧ a ≤ 2147483648
  · have hb : ¬ (-2147483648 ≤ b ∧ b ≤ 2147483648) := fun x => h ⟨ha, x⟩
    clear h
    go_enter Tryd.func21, Tryd.ntmps21
    go_wp2_with (first | ((go_at_call 18; first | refine (in_yes _ _ (by assumption)).mono ?_ | refine (in_no _ _ (by assumption)).mono ?_); rintro e w' ⟨rfl, g, rfl⟩))
    exact bodyPost_ii (by simp [results, Tryd.results21, go_sem]) rfl rfl rfl (by ((repeat (first | exact Ext.refl _ | apply Ext.alloc | apply Ext.ext))))
  · clear h
    go_enter Tryd.func21, Tryd.ntmps21
    go_wp2_with (first | ((go_at_call 18; first | refine (in_yes _ _ (by assumption)).mono ?_ | refine (in_no _ _ (by assumption)).mono ?_); rintro e w' ⟨rfl, g, rfl⟩))
    exact bodyPost_ii (by simp [results, Tryd.results21, go_sem]) rfl rfl rfl (by ((repeat (first | exact Ext.refl _ | apply Ext.alloc | apply Ext.ext))))


theorem floor_low (n d : Int) (hd : 0 < d) : n - d ≤ n / d * d := by
  have h := Int.mul_ediv_add_emod n d
  have := Int.emod_lt_of_pos n hd
  rw [Int.mul_comm] at h
  omega

theorem round_product (a b : Int) (ha : -2147483648 ≤ a ∧ a ≤ 2147483648) (hb : -2147483648 ≤ b ∧ b ≤ 2147483648) (w : World) : Calls Tryd.prog 13 #[.int .i64 (a * b), .int .i64 256] w fun e w' => e = .returned (.int .i64 ((a * b + 128) / 256)) ∧ Ext w w' := by
  obtain ⟨hp1, hp2⟩ := mul_room ha hb
  have h := round_any (a * b) 256 w (by omega) (by omega) (by omega) (by omega) (by omega)
  rwa [show (2 * (a * b) + 256) / (2 * 256) = (a * b + 128) / 256 by omega] at h

set_option maxRecDepth 100000 in
set_option maxHeartbeats 1600000 in
theorem FixedProducts_pos (a b : Int) (w : World) (ha : -2147483648 ≤ a ∧ a ≤ 2147483648) (hb : -2147483648 ≤ b ∧ b ≤ 2147483648) (h0 : 0 < b) : Calls Tryd.prog 5 #[.int .i64 a, .int .i64 b] w fun e w' => e = .returned (.bool true) ∧ Ext w w' := by
  obtain ⟨hp1, hp2⟩ := mul_room ha hb
  have R1 := Lib.hid (round_product a b ha hb)
  have R2 := Lib.hid (fun w => round_any (a * 256) (b) w (by omega) (by omega) (by omega) (by omega) (by have := floor_low (a * 256) (b) (by omega); omega))
  have hz : ¬ b = 0 := by omega
  have hn : ¬ b < 0 := by omega
  have HA := Lib.hid ha
  have HB := Lib.hid hb
  have H0 := Lib.hid h0
  go_enter Tryd.func5, Tryd.ntmps5
  go_wp2_with fail
  refine (mul_out _ _ _ HA.out HB.out).mono ?_; rintro e w' ⟨rfl, g, rfl⟩
  go_wp2_with fail
  refine (div_pos _ _ _ HA.out HB.out H0.out).mono ?_; rintro e w' ⟨rfl, g, rfl⟩
  go_wp2_with fail
  refine (refIn_yes a _ HA.out).mono ?_; rintro e w' ⟨rfl, g, rfl⟩
  go_wp2_with fail
  refine (refIn_yes b _ HB.out).mono ?_; rintro e w' ⟨rfl, g, rfl⟩
  go_wp2_with fail
  refine (R1.out _).mono ?_; rintro e w' ⟨rfl, g, rfl⟩
  go_wp2_with fail
  refine (is_yes _ _).mono ?_; rintro e w' ⟨rfl, g, rfl⟩
  go_wp2_with fail
  refine (R2.out _).mono ?_; rintro e w' ⟨rfl, g, rfl⟩
  go_wp2_with fail
  refine (is_yes _ _).mono ?_; rintro e w' ⟨rfl, g, rfl⟩
  go_wp2_with fail
  refine (awake_any _).mono ?_; rintro e w' ⟨rfl, g, rfl⟩
  go_wp2_with fail
  go_ret
  exact ⟨by rfl, by ((repeat (first | exact Ext.refl _ | apply Ext.alloc | apply Ext.ext)))⟩

set_option maxRecDepth 100000 in
set_option maxHeartbeats 1600000 in
theorem FixedProducts_neg (a b : Int) (w : World) (ha : -2147483648 ≤ a ∧ a ≤ 2147483648) (hb : -2147483648 ≤ b ∧ b ≤ 2147483648) (h0 : b < 0) : Calls Tryd.prog 5 #[.int .i64 a, .int .i64 b] w fun e w' => e = .returned (.bool true) ∧ Ext w w' := by
  obtain ⟨hp1, hp2⟩ := mul_room ha hb
  have R1 := Lib.hid (round_product a b ha hb)
  have R2 := Lib.hid (fun w => round_any (-a * 256) (-b) w (by omega) (by omega) (by omega) (by omega) (by have := floor_low (-a * 256) (-b) (by omega); omega))
  have hz : ¬ b = 0 := by omega
  have HA := Lib.hid ha
  have HB := Lib.hid hb
  have H0 := Lib.hid h0
  go_enter Tryd.func5, Tryd.ntmps5
  go_wp2_with fail
  refine (mul_out _ _ _ HA.out HB.out).mono ?_; rintro e w' ⟨rfl, g, rfl⟩
  go_wp2_with fail
  refine (div_neg _ _ _ HA.out HB.out H0.out).mono ?_; rintro e w' ⟨rfl, g, rfl⟩
  go_wp2_with fail
  refine (refIn_yes a _ HA.out).mono ?_; rintro e w' ⟨rfl, g, rfl⟩
  go_wp2_with fail
  refine (refIn_yes b _ HB.out).mono ?_; rintro e w' ⟨rfl, g, rfl⟩
  go_wp2_with fail
  refine (R1.out _).mono ?_; rintro e w' ⟨rfl, g, rfl⟩
  go_wp2_with fail
  refine (is_yes _ _).mono ?_; rintro e w' ⟨rfl, g, rfl⟩
  go_wp2_with fail
  refine (R2.out _).mono ?_; rintro e w' ⟨rfl, g, rfl⟩
  go_wp2_with fail
  refine (is_yes _ _).mono ?_; rintro e w' ⟨rfl, g, rfl⟩
  go_wp2_with fail
  refine (awake_any _).mono ?_; rintro e w' ⟨rfl, g, rfl⟩
  go_wp2_with fail
  go_ret
  exact ⟨by rfl, by ((repeat (first | exact Ext.refl _ | apply Ext.alloc | apply Ext.ext)))⟩

set_option maxRecDepth 100000 in
set_option maxHeartbeats 1600000 in
theorem FixedProducts_zero (a : Int) (w : World) (ha : -2147483648 ≤ a ∧ a ≤ 2147483648) : Calls Tryd.prog 5 #[.int .i64 a, .int .i64 0] w fun e w' => e = .returned (.bool true) ∧ Ext w w' := by
  have hb : -2147483648 ≤ (0 : Int) ∧ (0 : Int) ≤ 2147483648 := by omega
  have hm := mul_out a 0 w ha hb
  have hr : (2 * (a * 0) + 256) / (2 * 256) = (a * 0 + 128) / 256 := by omega
  have hi : ∀ w : World, Calls Tryd.prog 20 #[.int .i64 a, .int .i64 0] w fun e w' => e = .returned (.tuple #[.int .i64 (outN 0), .int .i64 (outE 0)]) ∧ Ext w w' := fun w => by
    have := mul_out a 0 w ha hb
    rwa [show (a * 0 + 128) / 256 = 0 by omega] at this
  clear hm
  go_enter Tryd.func5, Tryd.ntmps5
  go_wp2_with (first | ((first | (go_at_call 17; refine (refIn_yes _ _ (by first | assumption | omega)).mono ?_) | ((first | (go_at_call 17; first | refine (refIn_yes _ _ (by assumption)).mono ?_ | refine (refIn_no _ _ (by assumption)).mono ?_) | (go_at_call 13; refine (round_any _ _ _ (by omega) (by omega) (by omega) (by omega) (by omega)).mono ?_) | (go_at_call 19; refine (is_yes _ _).mono ?_) | (go_at_call 14; refine (awake_any _).mono ?_))) | (go_at_call 20; refine (hi _).mono ?_) | (go_at_call 21; refine (div_zero _ _ (by assumption)).mono ?_)); rintro e w' ⟨rfl, g, rfl⟩))
  go_ret
  exact ⟨by rfl, by ((repeat (first | exact Ext.refl _ | apply Ext.alloc | apply Ext.ext)))⟩

set_option maxRecDepth 100000 in
set_option maxHeartbeats 1600000 in
theorem FixedProducts_no (a b : Int) (w : World) (h : ¬((-2147483648 ≤ a ∧ a ≤ 2147483648) ∧ (-2147483648 ≤ b ∧ b ≤ 2147483648))) : Calls Tryd.prog 5 #[.int .i64 a, .int .i64 b] w fun e w' => e = .returned (.bool true) ∧ Ext w w' := by
  have n1 : ¬((-2147483648 ≤ a ∧ a ≤ 2147483648) ∧ (-2147483648 ≤ b ∧ b ≤ 2147483648) ∧ -2147483648 ≤ ((a * b + 128) / 256) ∧ ((a * b + 128) / 256) ≤ 2147483648) := fun x => h ⟨x.1, x.2.1⟩
  have N1 := Lib.hid n1
  have N2 := Lib.hid h
  by_cases ha : -2147483648 ≤ a ∧ a ≤ 2147483648
  · have hb : ¬ (-2147483648 ≤ b ∧ b ≤ 2147483648) := fun x => h ⟨ha, x⟩
    clear h n1
    go_enter Tryd.func5, Tryd.ntmps5
    go_wp2_with (first | ((first | ((first | (go_at_call 17; first | refine (refIn_yes _ _ (by assumption)).mono ?_ | refine (refIn_no _ _ (by assumption)).mono ?_) | (go_at_call 13; refine (round_any _ _ _ (by omega) (by omega) (by omega) (by omega) (by omega)).mono ?_) | (go_at_call 19; refine (is_yes _ _).mono ?_) | (go_at_call 14; refine (awake_any _).mono ?_))) | (go_at_call 20; refine (mul_no _ _ _ N1.out).mono ?_) | (go_at_call 21; refine (div_no _ _ _ N2.out).mono ?_)); rintro e w' ⟨rfl, g, rfl⟩))
    go_ret
    exact ⟨by rfl, by ((repeat (first | exact Ext.refl _ | apply Ext.alloc | apply Ext.ext)))⟩
  · clear h n1
    go_enter Tryd.func5, Tryd.ntmps5
    go_wp2_with (first | ((first | ((first | (go_at_call 17; first | refine (refIn_yes _ _ (by assumption)).mono ?_ | refine (refIn_no _ _ (by assumption)).mono ?_) | (go_at_call 13; refine (round_any _ _ _ (by omega) (by omega) (by omega) (by omega) (by omega)).mono ?_) | (go_at_call 19; refine (is_yes _ _).mono ?_) | (go_at_call 14; refine (awake_any _).mono ?_))) | (go_at_call 20; refine (mul_no _ _ _ N1.out).mono ?_) | (go_at_call 21; refine (div_no _ _ _ N2.out).mono ?_)); rintro e w' ⟨rfl, g, rfl⟩))
    go_ret
    exact ⟨by rfl, by ((repeat (first | exact Ext.refl _ | apply Ext.alloc | apply Ext.ext)))⟩

theorem FixedProducts_walk (a b : Int) (w : World) (h1 : -9223372036854775808 ≤ a) (h2 : a ≤ 9223372036854775807) (h3 : -9223372036854775808 ≤ b) (h4 : b ≤ 9223372036854775807) : Calls Tryd.prog 5 #[.int .i64 a, .int .i64 b] w fun e w' => e = .returned (.bool true) ∧ Ext w w' := by
  by_cases h : (-2147483648 ≤ a ∧ a ≤ 2147483648) ∧ (-2147483648 ≤ b ∧ b ≤ 2147483648)
  · obtain hb | rfl | hb := Int.lt_trichotomy b 0
    · exact FixedProducts_neg a b w h.1 h.2 hb
    · exact FixedProducts_zero a w h.1
    · exact FixedProducts_pos a b w h.1 h.2 hb
  · exact FixedProducts_no a b w h
end Go.Proofs.YtikbofbgfoafkaaDoor
