/- Chapter 10: the law of the ways of blending, walked. -/
import Derived.Test.YtnginblfdamfbaaPaintBlend
set_option linter.unusedVariables false
set_option linter.unusedSimpArgs false
namespace Go.Proofs.Ytnginblfdamfbaa
open Go.RowKit

theorem way1 {s t : Int} (hs : 0 ≤ s ∧ s ≤ 255) (ht : 0 ≤ t ∧ t ≤ 255) : decide (min s t < blendI 1 s t 255 255 255) = false := by
  have h1 := ofI_bd hs.1 hs.2 ht.1 ht.2
  have h2 := ofI_0' s
  have h3 := ofI_0' t
  have e : oneI 1 s t 255 255 = ofI s t := by rw [← oneI_1, Int.sub_self, h2, h3]; omega
  simp only [decide_eq_false_iff_not, blendI, e]; omega

theorem way2 {s t : Int} (hs : 0 ≤ s ∧ s ≤ 255) (ht : 0 ≤ t ∧ t ≤ 255) : decide (blendI 2 s t 255 255 255 < max s t) = false := by
  have h1 := ofI_bd hs.1 hs.2 ht.1 ht.2
  have e : oneI 2 s t 255 255 = s + t - ofI s t := rfl
  rw [decide_eq_false_iff_not]
  unfold blendI
  rw [e]; omega

theorem way3 {s t : Int} (hs : 0 ≤ s ∧ s ≤ 255) (ht : 0 ≤ t ∧ t ≤ 255) : blendI 3 s t 255 255 255 = min s t := by
  have h2 := ofI_255' s hs.1
  have h3 := ofI_255' t ht.1
  simp only [blendI]
  rw [← oneI_3, h2, h3]; omega

theorem way4 {s t : Int} (hs : 0 ≤ s ∧ s ≤ 255) (ht : 0 ≤ t ∧ t ≤ 255) : blendI 4 s t 255 255 255 = max s t := by
  have h2 := ofI_255' s hs.1
  have h3 := ofI_255' t ht.1
  simp only [blendI]
  rw [← oneI_4, h2, h3]; omega

theorem full255 : (255 : Int) + ofI (255 - 255) 255 = 255 := by decide

set_option maxRecDepth 100000 in
set_option maxHeartbeats 6400000 in
theorem PaintWays_walk (c0 c1 c2 c3 d0 d1 d2 d3 : Int) (w : World) (hc0 : 0 ≤ c0 ∧ c0 ≤ 255) (hc1 : 0 ≤ c1 ∧ c1 ≤ 255) (hc2 : 0 ≤ c2 ∧ c2 ≤ 255) (hc3 : 0 ≤ c3 ∧ c3 ≤ 255) (hd0 : 0 ≤ d0 ∧ d0 ≤ 255) (hd1 : 0 ≤ d1 ∧ d1 ≤ 255) (hd2 : 0 ≤ d2 ∧ d2 ≤ 255) (hd3 : 0 ≤ d3 ∧ d3 ≤ 255) :
    Calls Try.prog 8 #[.agg #[.int .u8 c0, .int .u8 c1, .int .u8 c2, .int .u8 c3], .agg #[.int .u8 d0, .int .u8 d1, .int .u8 d2, .int .u8 d3]] w fun e w' => e = .returned (.bool true) ∧ Ext w w' := by
  have h255 : (0 : Int) ≤ 255 ∧ (255 : Int) ≤ 255 := by omega
  have rc : rightB c0 c1 c2 255 = true := by simp only [rightB, decide_eq_true_eq]; omega
  have rd : rightB d0 d1 d2 255 = true := by simp only [rightB, decide_eq_true_eq]; omega
  have A0 := fun w => blend_over c0 c1 c2 255 d0 d1 d2 255 w hc0 hc1 hc2 h255 hd0 hd1 hd2 h255 rc rd
  have A1 := fun w => blend_mode c0 c1 c2 255 d0 d1 d2 255 1 w hc0 hc1 hc2 h255 hd0 hd1 hd2 h255 (by omega) rc rd
  have A2 := fun w => blend_mode c0 c1 c2 255 d0 d1 d2 255 2 w hc0 hc1 hc2 h255 hd0 hd1 hd2 h255 (by omega) rc rd
  have A3 := fun w => blend_mode c0 c1 c2 255 d0 d1 d2 255 3 w hc0 hc1 hc2 h255 hd0 hd1 hd2 h255 (by omega) rc rd
  have A4 := fun w => blend_mode c0 c1 c2 255 d0 d1 d2 255 4 w hc0 hc1 hc2 h255 hd0 hd1 hd2 h255 (by omega) rc rd
  simp only [full255, overI_full hc0, overI_full hc1, overI_full hc2, way3 hc0 hd0, way3 hc1 hd1, way3 hc2 hd2, way4 hc0 hd0, way4 hc1 hd1, way4 hc2 hd2] at A0 A1 A2 A3 A4
  have H0 := Lib.hid A0
  have H1 := Lib.hid A1
  have H2 := Lib.hid A2
  have H3 := Lib.hid A3
  have H4 := Lib.hid A4
  have t0 := way1 hc0 hd0
  have u0 := way2 hc0 hd0
  have t1 := way1 hc1 hd1
  have u1 := way2 hc1 hd1
  have t2 := way1 hc2 hd2
  have u2 := way2 hc2 hd2
  clear A0 A1 A2 A3 A4
  go_enter Try.func8, Try.ntmps8
  go_wp2
  refine wp_loop_rounds 6 ?_
  rw [rounds_succ]
  go_wp2_with fail
  refine (H0.out _).mono ?_
  rintro e w' ⟨rfl, g0, rfl⟩
  go_wp2_with fail
  rw [rounds_succ]
  go_wp2_with fail
  refine (H1.out _).mono ?_
  rintro e w' ⟨rfl, g1, rfl⟩
  go_wp2_with fail
  rw [rounds_succ]
  go_wp2_with fail
  refine (H2.out _).mono ?_
  rintro e w' ⟨rfl, g2, rfl⟩
  go_wp2_with fail
  rw [rounds_succ]
  go_wp2_with fail
  refine (H3.out _).mono ?_
  rintro e w' ⟨rfl, g3, rfl⟩
  go_wp2_with fail
  rw [rounds_succ]
  go_wp2_with fail
  refine (H4.out _).mono ?_
  rintro e w' ⟨rfl, g4, rfl⟩
  go_wp2_with fail
  rw [rounds_succ]
  go_wp2_with fail
  refine wp_loop_rounds 4 ?_
  rw [rounds_succ]
  go_wp2
  refine region_quiet (by kernel_rfl) (by kernel_rfl) ?_
  iterate 16 (go_big_quiet_step (fail))
  refine wpQuiet_nil ?_
  rintro _ ⟨ga0, rfl⟩
  go_wp2
  refine region_quiet (by kernel_rfl) (by kernel_rfl) ?_
  iterate 40 (go_big_quiet_step (fail))
  refine wpQuiet_nil ?_
  rintro _ ⟨gb0, rfl⟩
  go_wp2
  rw [rounds_succ]
  go_wp2
  refine region_quiet (by kernel_rfl) (by kernel_rfl) ?_
  iterate 16 (go_big_quiet_step (fail))
  refine wpQuiet_nil ?_
  rintro _ ⟨ga1, rfl⟩
  go_wp2
  refine region_quiet (by kernel_rfl) (by kernel_rfl) ?_
  iterate 40 (go_big_quiet_step (fail))
  refine wpQuiet_nil ?_
  rintro _ ⟨gb1, rfl⟩
  go_wp2
  rw [rounds_succ]
  go_wp2
  refine region_quiet (by kernel_rfl) (by kernel_rfl) ?_
  iterate 16 (go_big_quiet_step (fail))
  refine wpQuiet_nil ?_
  rintro _ ⟨ga2, rfl⟩
  go_wp2
  refine region_quiet (by kernel_rfl) (by kernel_rfl) ?_
  iterate 40 (go_big_quiet_step (fail))
  refine wpQuiet_nil ?_
  rintro _ ⟨gb2, rfl⟩
  go_wp2
  rw [rounds_succ]
  go_wp2_with (go_at_call 15; refine (awake_any _).mono ?_; rintro e w' ⟨rfl, gz, rfl⟩)
  go_ret
  exact ⟨rfl, by repeat (first | exact Ext.refl _ | apply Ext.alloc | apply Ext.ext)⟩
end Go.Proofs.Ytnginblfdamfbaa
