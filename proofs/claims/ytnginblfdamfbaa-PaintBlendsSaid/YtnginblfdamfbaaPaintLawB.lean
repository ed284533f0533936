/- Chapter 10: the laws of Blend, walked. -/
import Derived.Test.YtnginblfdamfbaaPaintRefB1
import Derived.Test.YtnginblfdamfbaaPaintRefB2
import Derived.Test.YtnginblfdamfbaaPaintRefB3
import Derived.Test.YtnginblfdamfbaaPaintRefB4
set_option linter.unusedVariables false
set_option linter.unusedSimpArgs false
namespace Go.Proofs.Ytnginblfdamfbaa
open Go.RowKit

theorem refBlend_mode (c0 c1 c2 c3 d0 d1 d2 d3 m : Int) (w : World) (hc0 : 0 ≤ c0 ∧ c0 ≤ 255) (hc1 : 0 ≤ c1 ∧ c1 ≤ 255) (hc2 : 0 ≤ c2 ∧ c2 ≤ 255) (hc3 : 0 ≤ c3 ∧ c3 ≤ 255) (hd0 : 0 ≤ d0 ∧ d0 ≤ 255) (hd1 : 0 ≤ d1 ∧ d1 ≤ 255) (hd2 : 0 ≤ d2 ∧ d2 ≤ 255) (hd3 : 0 ≤ d3 ∧ d3 ≤ 255) (hm : m = 1 ∨ m = 2 ∨ m = 3 ∨ m = 4) :
    Calls Try.prog 27 #[.agg #[.int .i64 c0, .int .i64 c1, .int .i64 c2, .int .i64 c3], .agg #[.int .i64 d0, .int .i64 d1, .int .i64 d2, .int .i64 d3], .int .i64 m] w fun e w' =>
      e = .returned (.agg #[.int .i64 (blendI m c0 d0 c3 d3 (c3 + ofI (255 - c3) d3)), .int .i64 (blendI m c1 d1 c3 d3 (c3 + ofI (255 - c3) d3)), .int .i64 (blendI m c2 d2 c3 d3 (c3 + ofI (255 - c3) d3)), .int .i64 (c3 + ofI (255 - c3) d3)]) ∧ Ext w w' := by
  rcases hm with rfl | rfl | rfl | rfl
  · exact refBlend_1 c0 c1 c2 c3 d0 d1 d2 d3 w hc0 hc1 hc2 hc3 hd0 hd1 hd2 hd3
  · exact refBlend_2 c0 c1 c2 c3 d0 d1 d2 d3 w hc0 hc1 hc2 hc3 hd0 hd1 hd2 hd3
  · exact refBlend_3 c0 c1 c2 c3 d0 d1 d2 d3 w hc0 hc1 hc2 hc3 hd0 hd1 hd2 hd3
  · exact refBlend_4 c0 c1 c2 c3 d0 d1 d2 d3 w hc0 hc1 hc2 hc3 hd0 hd1 hd2 hd3

theorem blendI_le (m s t a b o : Int) : blendI m s t a b o ≤ o := by unfold blendI; omega

theorem idx23_3' (c0 c1 c2 c3 : Int) (w : World) : (Instr.index 23 (.agg #[.int .u8 c0, .int .u8 c1, .int .u8 c2, .int .u8 c3]) (.int .i64 3)).run Try.prog w = .ok (.int .u8 c3) w := idx23_3 _ _ _ _ w

set_option maxRecDepth 100000 in
set_option maxHeartbeats 6400000 in
theorem PaintBlends_walk (c0 c1 c2 c3 d0 d1 d2 d3 m : Int) (w : World) (hc0 : 0 ≤ c0 ∧ c0 ≤ 255) (hc1 : 0 ≤ c1 ∧ c1 ≤ 255) (hc2 : 0 ≤ c2 ∧ c2 ≤ 255) (hc3 : 0 ≤ c3 ∧ c3 ≤ 255) (hd0 : 0 ≤ d0 ∧ d0 ≤ 255) (hd1 : 0 ≤ d1 ∧ d1 ≤ 255) (hd2 : 0 ≤ d2 ∧ d2 ≤ 255) (hd3 : 0 ≤ d3 ∧ d3 ≤ 255) (hm : -9223372036854775808 ≤ m ∧ m ≤ 9223372036854775807) :
    Calls Try.prog 7 #[.agg #[.int .u8 c0, .int .u8 c1, .int .u8 c2, .int .u8 c3], .agg #[.int .u8 d0, .int .u8 d1, .int .u8 d2, .int .u8 d3], .int .i64 m] w fun e w' => e = .returned (.bool true) ∧ Ext w w' := by
  have o3 := ofI_bd (a := 255 - c3) (b := d3) (by omega) (by omega) hd3.1 hd3.2
  clear hm
  by_cases hm : m < 0 ∨ 4 < m
  · have H := Lib.hid (fun w => blend_kind c0 c1 c2 c3 d0 d1 d2 d3 m w hc0 hc1 hc2 hc3 hd0 hd1 hd2 hd3 hm)
    rcases hm with hm | hm
    case' inr => have hm' : ¬ m < 0 := by omega
    all_goals
      go_enter Try.func7, Try.ntmps7
      go_wp2_with fail
      refine (H.out _).mono ?_
      rintro e w' ⟨rfl, g, rfl⟩
      go_wp2_with (go_at_call 15; refine (awake_any _).mono ?_; rintro e w' ⟨rfl, g5, rfl⟩)
      go_ret
      exact ⟨rfl, by repeat (first | exact Ext.refl _ | apply Ext.alloc | apply Ext.ext)⟩
  · have m0 : ¬ m < 0 := by omega
    have m4 : ¬ 4 < m := by omega
    have mb : 0 ≤ m ∧ m ≤ 4 := by omega
    clear hm
    obtain ⟨rc, hrc⟩ : ∃ x, rightB c0 c1 c2 c3 = x := ⟨_, rfl⟩
    obtain ⟨rd, hrd⟩ : ∃ x, rightB d0 d1 d2 d3 = x := ⟨_, rfl⟩
    cases rc
    · have H := Lib.hid (fun w => blend_range c0 c1 c2 c3 d0 d1 d2 d3 m w hc0 hc1 hc2 hc3 hd0 hd1 hd2 hd3 mb (.inl hrc))
      go_enter Try.func7, Try.ntmps7
      go_wp2_with fail
      refine (H.out _).mono ?_
      rintro e w' ⟨rfl, g, rfl⟩
      go_wp2_with fail
      refine (right_any c0 c1 c2 c3 _).mono ?_
      rintro e w' ⟨rfl, g1, rfl⟩
      go_wp2_with (go_at_call 15; refine (awake_any _).mono ?_; rintro e w' ⟨rfl, g5, rfl⟩)
      go_ret
      exact ⟨rfl, by repeat (first | exact Ext.refl _ | apply Ext.alloc | apply Ext.ext)⟩
    · cases rd
      · have H := Lib.hid (fun w => blend_range c0 c1 c2 c3 d0 d1 d2 d3 m w hc0 hc1 hc2 hc3 hd0 hd1 hd2 hd3 mb (.inr hrd))
        go_enter Try.func7, Try.ntmps7
        go_wp2_with fail
        refine (H.out _).mono ?_
        rintro e w' ⟨rfl, g, rfl⟩
        go_wp2_with fail
        refine (right_any c0 c1 c2 c3 _).mono ?_
        rintro e w' ⟨rfl, g1, rfl⟩
        go_wp2_with fail
        refine (right_any d0 d1 d2 d3 _).mono ?_
        rintro e w' ⟨rfl, g2, rfl⟩
        go_wp2_with (go_at_call 15; refine (awake_any _).mono ?_; rintro e w' ⟨rfl, g5, rfl⟩)
        go_ret
        exact ⟨rfl, by repeat (first | exact Ext.refl _ | apply Ext.alloc | apply Ext.ext)⟩
      · by_cases hz : m = 0
        · subst hz
          have v0 := overI_bd hc0 hc3 hd0
          have v1 := overI_bd hc1 hc3 hd1
          have v2 := overI_bd hc2 hc3 hd2
          have v3 := overI_bd hc3 hc3 hd3
          have vo : 0 ≤ (c3 + ofI (255 - c3) d3) ∧ (c3 + ofI (255 - c3) d3) ≤ 255 := by omega
          have R : rightB (overI c0 c3 d0) (overI c1 c3 d1) (overI c2 c3 d2) (c3 + ofI (255 - c3) d3) = true := by
            have h1 := hrc
            have h2 := hrd
            simp only [rightB, decide_eq_true_eq] at h1 h2 ⊢
            have i0 := overI_right (c := c0) (a := c3) (d := d0) (b := d3) hc0.1 hc3 hd0.1 hd3 (by omega) (by omega)
            have i1 := overI_right (c := c1) (a := c3) (d := d1) (b := d3) hc1.1 hc3 hd1.1 hd3 (by omega) (by omega)
            have i2 := overI_right (c := c2) (a := c3) (d := d2) (b := d3) hc2.1 hc3 hd2.1 hd3 (by omega) (by omega)
            omega
          have H := Lib.hid (fun w => blend_over c0 c1 c2 c3 d0 d1 d2 d3 w hc0 hc1 hc2 hc3 hd0 hd1 hd2 hd3 hrc hrd)
          go_enter Try.func7, Try.ntmps7
          go_wp2_with fail
          refine (H.out _).mono ?_
          rintro e w' ⟨rfl, g, rfl⟩
          go_wp2_with fail
          refine (right_any c0 c1 c2 c3 _).mono ?_
          rintro e w' ⟨rfl, g1, rfl⟩
          go_wp2_with fail
          refine (right_any d0 d1 d2 d3 _).mono ?_
          rintro e w' ⟨rfl, g2, rfl⟩
          go_wp2_with fail
          refine region_quiet (by kernel_rfl) (by kernel_rfl) ?_
          iterate 6 (go_big_quiet_step (exact calls_ext (ref_any c0 c1 c2 c3 _ hc0 hc1 hc2 hc3)))
          iterate 2 (go_big_quiet_step (exact calls_ext (ref_any d0 d1 d2 d3 _ hd0 hd1 hd2 hd3)))
          iterate 2 (go_big_quiet_step (exact calls_ext (refBlend_over c0 c1 c2 c3 d0 d1 d2 d3 _ hc0 hc1 hc2 hc3 hd0 hd1 hd2 hd3)))
          iterate 4 (go_big_quiet_step (exact calls_ext (is_yes _ _ _ _ _ v0 v1 v2 vo)))
          iterate 6 (go_big_quiet_step (exact calls_ext (right_yes R _)))
          iterate 4 (go_big_quiet_step (exact calls_ext (over_any c0 c1 c2 c3 d0 d1 d2 d3 _ hc0 hc1 hc2 hc3 hd0 hd1 hd2 hd3)))
          iterate 3 (go_big_quiet_step (exact calls_ext (awake_any _)))
          iterate 2 (go_big_quiet_step (fail))
          refine wpQuiet_nil ?_
          rintro _ ⟨g7, rfl⟩
          go_wp2
          go_ret
          exact ⟨rfl, by repeat (first | exact Ext.refl _ | apply Ext.alloc | apply Ext.ext)⟩
        · have hm : m = 1 ∨ m = 2 ∨ m = 3 ∨ m = 4 := by omega
          have vo : 0 ≤ (c3 + ofI (255 - c3) d3) ∧ (c3 + ofI (255 - c3) d3) ≤ 255 := by omega
          have v0 : 0 ≤ blendI m c0 d0 c3 d3 (c3 + ofI (255 - c3) d3) ∧ blendI m c0 d0 c3 d3 (c3 + ofI (255 - c3) d3) ≤ 255 := by unfold blendI; omega
          have v1 : 0 ≤ blendI m c1 d1 c3 d3 (c3 + ofI (255 - c3) d3) ∧ blendI m c1 d1 c3 d3 (c3 + ofI (255 - c3) d3) ≤ 255 := by unfold blendI; omega
          have v2 : 0 ≤ blendI m c2 d2 c3 d3 (c3 + ofI (255 - c3) d3) ∧ blendI m c2 d2 c3 d3 (c3 + ofI (255 - c3) d3) ≤ 255 := by unfold blendI; omega
          have R : rightB (blendI m c0 d0 c3 d3 (c3 + ofI (255 - c3) d3)) (blendI m c1 d1 c3 d3 (c3 + ofI (255 - c3) d3)) (blendI m c2 d2 c3 d3 (c3 + ofI (255 - c3) d3)) (c3 + ofI (255 - c3) d3) = true := by
            have i0 := blendI_le m c0 d0 c3 d3 (c3 + ofI (255 - c3) d3)
            have i1 := blendI_le m c1 d1 c3 d3 (c3 + ofI (255 - c3) d3)
            have i2 := blendI_le m c2 d2 c3 d3 (c3 + ofI (255 - c3) d3)
            simp only [rightB, decide_eq_true_eq]
            omega
          have H := Lib.hid (fun w => blend_mode c0 c1 c2 c3 d0 d1 d2 d3 m w hc0 hc1 hc2 hc3 hd0 hd1 hd2 hd3 hm hrc hrd)
          have HM := Lib.hid hm
          clear hm
          go_enter Try.func7, Try.ntmps7
          go_wp2_with fail
          refine (H.out _).mono ?_
          rintro e w' ⟨rfl, g, rfl⟩
          go_wp2_with fail
          refine (right_any c0 c1 c2 c3 _).mono ?_
          rintro e w' ⟨rfl, g1, rfl⟩
          go_wp2_with fail
          refine (right_any d0 d1 d2 d3 _).mono ?_
          rintro e w' ⟨rfl, g2, rfl⟩
          go_wp2_with fail
          refine region_quiet (by kernel_rfl) (by kernel_rfl) ?_
          iterate 6 (go_big_quiet_step (exact calls_ext (ref_any c0 c1 c2 c3 _ hc0 hc1 hc2 hc3)))
          iterate 2 (go_big_quiet_step (exact calls_ext (ref_any d0 d1 d2 d3 _ hd0 hd1 hd2 hd3)))
          iterate 2 (go_big_quiet_step (exact calls_ext (refBlend_mode c0 c1 c2 c3 d0 d1 d2 d3 m _ hc0 hc1 hc2 hc3 hd0 hd1 hd2 hd3 HM.out)))
          iterate 4 (go_big_quiet_step (exact calls_ext (is_yes _ _ _ _ _ v0 v1 v2 vo)))
          iterate 6 (go_big_quiet_step (exact calls_ext (right_yes R _)))
          iterate 4 (go_big_quiet_step (exact calls_ext (over_any c0 c1 c2 c3 d0 d1 d2 d3 _ hc0 hc1 hc2 hc3 hd0 hd1 hd2 hd3)))
          iterate 3 (go_big_quiet_step (exact calls_ext (awake_any _)))
          iterate 2 (go_big_quiet_step (fail))
          refine wpQuiet_nil ?_
          rintro _ ⟨g7, rfl⟩
          go_wp2
          go_ret
          exact ⟨rfl, by repeat (first | exact Ext.refl _ | apply Ext.alloc | apply Ext.ext)⟩
end Go.Proofs.Ytnginblfdamfbaa
