/- Chapter 10: the law of Mix, walked. -/
import Derived.Test.YtnginblfdamfbaaPaintLawF
set_option linter.unusedVariables false
set_option linter.unusedSimpArgs false
namespace Go.Proofs.Ytnginblfdamfbaa
open Go.RowKit

theorem mixI_0 (c d : Int) : mixI c d 0 = c := by unfold mixI; omega
theorem mixI_1 (c d : Int) : mixI c d 65536 = d := by unfold mixI; omega
theorem mixI_same (c t : Int) : mixI c c t = c := by
  have : c * (65536 - t) + c * t = c * 65536 := by rw [Int.mul_sub]; omega
  unfold mixI; omega

set_option maxRecDepth 100000 in
set_option maxHeartbeats 3200000 in
theorem PaintMixes_walk (c0 c1 c2 c3 d0 d1 d2 d3 t : Int) (w : World) (hc0 : 0 ≤ c0 ∧ c0 ≤ 255) (hc1 : 0 ≤ c1 ∧ c1 ≤ 255) (hc2 : 0 ≤ c2 ∧ c2 ≤ 255) (hc3 : 0 ≤ c3 ∧ c3 ≤ 255) (hd0 : 0 ≤ d0 ∧ d0 ≤ 255) (hd1 : 0 ≤ d1 ∧ d1 ≤ 255) (hd2 : 0 ≤ d2 ∧ d2 ≤ 255) (hd3 : 0 ≤ d3 ∧ d3 ≤ 255) (ht : -9223372036854775808 ≤ t ∧ t ≤ 9223372036854775807) :
    Calls Try.prog 6 #[.agg #[.int .u8 c0, .int .u8 c1, .int .u8 c2, .int .u8 c3], .agg #[.int .u8 d0, .int .u8 d1, .int .u8 d2, .int .u8 d3], .int .i64 t] w fun e w' => e = .returned (.bool true) ∧ Ext w w' := by
  obtain ⟨m, hm⟩ : ∃ m, m = min (max t 0) 65536 := ⟨_, rfl⟩
  have hm2 : 0 ≤ m ∧ m ≤ 65536 := by omega
  have r0 := mixI_between (c := c0) (d := d0) hm2
  have v0 : 0 ≤ mixI c0 d0 m ∧ mixI c0 d0 m ≤ 255 := by omega
  have p0 := mixI_0 c0 d0
  have q0 := mixI_1 c0 d0
  have s0 := mixI_same c0 m
  have r1 := mixI_between (c := c1) (d := d1) hm2
  have v1 : 0 ≤ mixI c1 d1 m ∧ mixI c1 d1 m ≤ 255 := by omega
  have p1 := mixI_0 c1 d1
  have q1 := mixI_1 c1 d1
  have s1 := mixI_same c1 m
  have r2 := mixI_between (c := c2) (d := d2) hm2
  have v2 : 0 ≤ mixI c2 d2 m ∧ mixI c2 d2 m ≤ 255 := by omega
  have p2 := mixI_0 c2 d2
  have q2 := mixI_1 c2 d2
  have s2 := mixI_same c2 m
  have r3 := mixI_between (c := c3) (d := d3) hm2
  have v3 : 0 ≤ mixI c3 d3 m ∧ mixI c3 d3 m ≤ 255 := by omega
  have p3 := mixI_0 c3 d3
  have q3 := mixI_1 c3 d3
  have s3 := mixI_same c3 m
  have R1 : rightB c0 c1 c2 c3 = true → rightB d0 d1 d2 d3 = true → rightB (mixI c0 d0 m) (mixI c1 d1 m) (mixI c2 d2 m) (mixI c3 d3 m) = true := by
    intro h1 h2
    simp only [rightB, decide_eq_true_eq] at h1 h2 ⊢
    have i0 := mixI_mono (c := c0) (d := d0) (c' := c3) (d' := d3) hm2 (by omega) (by omega)
    have i1 := mixI_mono (c := c1) (d := d1) (c' := c3) (d' := d3) hm2 (by omega) (by omega)
    have i2 := mixI_mono (c := c2) (d := d2) (c' := c3) (d' := d3) hm2 (by omega) (by omega)
    omega
  have HR1 := Lib.hid R1
  have hm' := hm.symm
  have n0 : min (max (0 : Int) 0) 65536 = 0 := by decide
  have n1 : min (max (65536 : Int) 0) 65536 = 65536 := by decide
  have A0 := fun w => mix_any c0 c1 c2 c3 d0 d1 d2 d3 0 w hc0 hc1 hc2 hc3 hd0 hd1 hd2 hd3
  have A1 := fun w => mix_any c0 c1 c2 c3 d0 d1 d2 d3 65536 w hc0 hc1 hc2 hc3 hd0 hd1 hd2 hd3
  have A2 := fun w => mix_any c0 c1 c2 c3 c0 c1 c2 c3 t w hc0 hc1 hc2 hc3 hc0 hc1 hc2 hc3
  have A3 := fun w => mix_any c0 c1 c2 c3 d0 d1 d2 d3 t w hc0 hc1 hc2 hc3 hd0 hd1 hd2 hd3
  simp only [n0, n1, hm', p0, p1, p2, p3, q0, q1, q2, q3, s0, s1, s2, s3] at A0 A1 A2 A3
  have H0 := Lib.hid A0
  have H1 := Lib.hid A1
  have H2 := Lib.hid A2
  have H3 := Lib.hid A3
  clear R1 hm ht A0 A1 A2 A3 n0 n1 p0 q0 s0 p1 q1 s1 p2 q2 s2 p3 q3 s3
  go_enter Try.func6, Try.ntmps6
  go_wp2_with fail
  refine (H3.out _).mono ?_
  rintro e w' ⟨rfl, g, rfl⟩
  go_wp2
  refine region_quiet (by kernel_rfl) (by kernel_rfl) ?_
  iterate 3 (go_big_quiet_step (exact calls_ext (ref_any c0 c1 c2 c3 _ hc0 hc1 hc2 hc3)))
  iterate 2 (go_big_quiet_step (exact calls_ext (ref_any d0 d1 d2 d3 _ hd0 hd1 hd2 hd3)))
  iterate 4 (go_big_quiet_step (exact calls_ext (refMix_any c0 c1 c2 c3 d0 d1 d2 d3 m _ hc0 hc1 hc2 hc3 hd0 hd1 hd2 hd3 hm2)))
  iterate 3 (go_big_quiet_step (exact calls_ext (is_yes _ _ _ _ _ v0 v1 v2 v3)))
  iterate 3 (go_big_quiet_step (exact calls_ext (H0.out _)))
  iterate 7 (go_big_quiet_step (exact calls_ext (H1.out _)))
  iterate 8 (go_big_quiet_step (exact calls_ext (H2.out _)))
  iterate 3 (go_big_quiet_step (fail))
  refine wpQuiet_nil ?_
  rintro _ ⟨g1, rfl⟩
  go_wp2
  have i0 : decide (mixI c0 d0 m < min c0 d0) = false := by simp only [decide_eq_false_iff_not]; omega
  have j0 : decide (max c0 d0 < mixI c0 d0 m) = false := by simp only [decide_eq_false_iff_not]; omega
  have i1 : decide (mixI c1 d1 m < min c1 d1) = false := by simp only [decide_eq_false_iff_not]; omega
  have j1 : decide (max c1 d1 < mixI c1 d1 m) = false := by simp only [decide_eq_false_iff_not]; omega
  have i2 : decide (mixI c2 d2 m < min c2 d2) = false := by simp only [decide_eq_false_iff_not]; omega
  have j2 : decide (max c2 d2 < mixI c2 d2 m) = false := by simp only [decide_eq_false_iff_not]; omega
  have i3 : decide (mixI c3 d3 m < min c3 d3) = false := by simp only [decide_eq_false_iff_not]; omega
  have j3 : decide (max c3 d3 < mixI c3 d3 m) = false := by simp only [decide_eq_false_iff_not]; omega
  refine wp_loop_rounds 5 ?_
  rw [rounds_succ]
  go_wp2
  refine region_quiet (by kernel_rfl) (by kernel_rfl) ?_
  iterate 24 (go_big_quiet_step (fail))
  refine wpQuiet_nil ?_
  rintro _ ⟨h0, rfl⟩
  go_wp2
  rw [rounds_succ]
  go_wp2
  refine region_quiet (by kernel_rfl) (by kernel_rfl) ?_
  iterate 24 (go_big_quiet_step (fail))
  refine wpQuiet_nil ?_
  rintro _ ⟨h1, rfl⟩
  go_wp2
  rw [rounds_succ]
  go_wp2
  refine region_quiet (by kernel_rfl) (by kernel_rfl) ?_
  iterate 24 (go_big_quiet_step (fail))
  refine wpQuiet_nil ?_
  rintro _ ⟨h2, rfl⟩
  go_wp2
  rw [rounds_succ]
  go_wp2
  refine region_quiet (by kernel_rfl) (by kernel_rfl) ?_
  iterate 24 (go_big_quiet_step (fail))
  refine wpQuiet_nil ?_
  rintro _ ⟨h3, rfl⟩
  go_wp2
  rw [rounds_succ]
  go_wp2_with fail
  refine (right_any c0 c1 c2 c3 _).mono ?_
  rintro e w' ⟨rfl, g2, rfl⟩
  cases hR : rightB c0 c1 c2 c3
  · go_wp2_with (go_at_call 15; refine (awake_any _).mono ?_; rintro e w' ⟨rfl, g5, rfl⟩)
    go_ret
    exact ⟨rfl, by repeat (first | exact Ext.refl _ | apply Ext.alloc | apply Ext.ext)⟩
  · go_wp2_with fail
    refine (right_any d0 d1 d2 d3 _).mono ?_
    rintro e w' ⟨rfl, g3, rfl⟩
    cases hD : rightB d0 d1 d2 d3
    · go_wp2_with (go_at_call 15; refine (awake_any _).mono ?_; rintro e w' ⟨rfl, g5, rfl⟩)
      go_ret
      exact ⟨rfl, by repeat (first | exact Ext.refl _ | apply Ext.alloc | apply Ext.ext)⟩
    · have q := HR1.out hR hD
      go_wp2_with fail
      refine (right_any _ _ _ _ _).mono ?_
      rintro e w' ⟨rfl, g4, rfl⟩
      go_wp2_with (go_at_call 15; refine (awake_any _).mono ?_; rintro e w' ⟨rfl, g5, rfl⟩)
      go_ret
      exact ⟨rfl, by repeat (first | exact Ext.refl _ | apply Ext.alloc | apply Ext.ext)⟩
end Go.Proofs.Ytnginblfdamfbaa
