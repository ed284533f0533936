/- Chapter 10: the anchor, and the laws of Of, Fade, Part, Over, Mix, walked. -/
import Derived.Test.YtnginblfdamfbaaPaintMix
set_option linter.unusedVariables false
set_option linter.unusedSimpArgs false
namespace Go.Proofs.Ytnginblfdamfbaa
open Go.RowKit

set_option maxHeartbeats 1600000 in
theorem awake_any (w : World) : Calls Try.prog 15 #[] w fun e w' => e = .returned (.bool true) ∧ Ext w w' := by
  have a1 : ofI 255 128 = 128 := by decide
  have a2 : ofI 0 128 = 0 := by decide
  have a3 : overI 128 128 255 = 255 := by decide
  have a4 : overI 0 128 255 = 127 := by decide
  have a5 : ofI 127 255 = 127 := by decide
  go_enter Try.func15, Try.ntmps15
  go_wp2_with fail
  refine (straight_any 255 0 0 128 _ (by omega) (by omega) (by omega) (by omega)).mono ?_
  rintro e w' ⟨rfl, g, rfl⟩
  go_wp2_with fail
  refine (over_any 128 0 0 128 255 255 255 255 _ (by omega) (by omega) (by omega) (by omega) (by omega) (by omega) (by omega) (by omega)).mono ?_
  rintro e w' ⟨rfl, g1, rfl⟩
  go_wp2
  go_ret
  exact ⟨rfl, by repeat (first | exact Ext.refl _ | apply Ext.alloc | apply Ext.ext)⟩

set_option maxHeartbeats 1600000 in
theorem PaintOf_walk (a b : Int) (w : World) (ha : -9223372036854775808 ≤ a ∧ a ≤ 9223372036854775807) (hb : -9223372036854775808 ≤ b ∧ b ≤ 9223372036854775807) :
    Calls Try.prog 5 #[.int .i64 a, .int .i64 b] w fun e w' => e = .returned (.bool true) ∧ Ext w w' := by
  by_cases h : 0 ≤ a ∧ a ≤ 255 ∧ 0 ≤ b ∧ b ≤ 255
  · obtain ⟨h1, h2, h3, h4⟩ := h
    have e1 := ofI_comm b a
    have e2 := ofI_255 a h1
    have e3 := ofI_0 a
    have e4 := ofI_bd h1 h2 h3 h4
    have e5 : ofI a b ≤ min a b := by omega
    clear ha hb
    go_enter Try.func5, Try.ntmps5
    go_wp2_with fail
    refine (pubOf_in a b _ h1 h2 h3 h4).mono ?_
    rintro e w' ⟨rfl, g, rfl⟩
    go_wp2_with fail
    refine (refOf_any a b _ h1 h2 h3 h4).mono ?_
    rintro e w' ⟨rfl, g1, rfl⟩
    go_wp2_with fail
    refine (pubOf_in b a _ h3 h4 h1 h2).mono ?_
    rintro e w' ⟨rfl, g2, rfl⟩
    go_wp2_with fail
    refine (pubOf_in a 255 _ h1 h2 (by omega) (by omega)).mono ?_
    rintro e w' ⟨rfl, g3, rfl⟩
    go_wp2_with fail
    refine (pubOf_in a 0 _ h1 h2 (by omega) (by omega)).mono ?_
    rintro e w' ⟨rfl, g4, rfl⟩
    go_wp2_with fail
    refine (awake_any _).mono ?_
    rintro e w' ⟨rfl, g5, rfl⟩
    go_wp2
    go_ret
    exact ⟨rfl, by repeat (first | exact Ext.refl _ | apply Ext.alloc | apply Ext.ext)⟩
  · go_enter Try.func5, Try.ntmps5
    go_wp2_with fail
    refine (pubOf_out a b _ (by omega)).mono ?_
    rintro e w' ⟨rfl, g, rfl⟩
    go_wp2_with (go_at_call 15; refine (awake_any _).mono ?_; rintro e w' ⟨rfl, g5, rfl⟩)
    all_goals
      go_ret
      exact ⟨rfl, by repeat (first | exact Ext.refl _ | apply Ext.alloc | apply Ext.ext)⟩

set_option maxHeartbeats 3200000 in
theorem PaintOvers_walk (c0 c1 c2 c3 d0 d1 d2 d3 : Int) (w : World) (hc0 : 0 ≤ c0 ∧ c0 ≤ 255) (hc1 : 0 ≤ c1 ∧ c1 ≤ 255) (hc2 : 0 ≤ c2 ∧ c2 ≤ 255) (hc3 : 0 ≤ c3 ∧ c3 ≤ 255) (hd0 : 0 ≤ d0 ∧ d0 ≤ 255) (hd1 : 0 ≤ d1 ∧ d1 ≤ 255) (hd2 : 0 ≤ d2 ∧ d2 ≤ 255) (hd3 : 0 ≤ d3 ∧ d3 ≤ 255) :
    Calls Try.prog 3 #[.agg #[.int .u8 c0, .int .u8 c1, .int .u8 c2, .int .u8 c3], .agg #[.int .u8 d0, .int .u8 d1, .int .u8 d2, .int .u8 d3]] w fun e w' => e = .returned (.bool true) ∧ Ext w w' := by
  have z0 := overI_zero hd0
  have v0 := overI_bd hc0 hc3 hd0
  have f0 := overI_full (d := d0) hc0
  have z1 := overI_zero hd1
  have v1 := overI_bd hc1 hc3 hd1
  have f1 := overI_full (d := d1) hc1
  have z2 := overI_zero hd2
  have v2 := overI_bd hc2 hc3 hd2
  have f2 := overI_full (d := d2) hc2
  have z3 := overI_zero hd3
  have v3 := overI_bd hc3 hc3 hd3
  have f3 := overI_full (d := d3) hc3
  have o3 := ofI_bd (a := 255 - c3) (b := d3) (by omega) (by omega) hd3.1 hd3.2
  have y3 := ofI_255' d3 hd3.1
  have y4 := ofI_0' d3
  have vo : 0 ≤ c3 + ofI (255 - c3) d3 ∧ c3 + ofI (255 - c3) d3 ≤ 255 := by omega
  have R : rightB c0 c1 c2 c3 = true → rightB d0 d1 d2 d3 = true → rightB (overI c0 c3 d0) (overI c1 c3 d1) (overI c2 c3 d2) (c3 + ofI (255 - c3) d3) = true := by
    intro h1 h2
    simp only [rightB, decide_eq_true_eq] at h1 h2 ⊢
    have i0 := overI_right (c := c0) (a := c3) (d := d0) (b := d3) hc0.1 hc3 hd0.1 hd3 (by omega) (by omega)
    have i1 := overI_right (c := c1) (a := c3) (d := d1) (b := d3) hc1.1 hc3 hd1.1 hd3 (by omega) (by omega)
    have i2 := overI_right (c := c2) (a := c3) (d := d2) (b := d3) hc2.1 hc3 hd2.1 hd3 (by omega) (by omega)
    omega
  have HR := Lib.hid R
  have F := Lib.hid f0
  have F1 := Lib.hid f1
  have F2 := Lib.hid f2
  clear R f0 f1 f2 f3
  go_enter Try.func3, Try.ntmps3
  go_wp2_with fail
  refine (over_any c0 c1 c2 c3 d0 d1 d2 d3 _ hc0 hc1 hc2 hc3 hd0 hd1 hd2 hd3).mono ?_
  rintro e w' ⟨rfl, g, rfl⟩
  go_wp2
  refine region_quiet (by kernel_rfl) (by kernel_rfl) ?_
  iterate 3 (go_big_quiet_step (exact calls_ext (ref_any c0 c1 c2 c3 _ hc0 hc1 hc2 hc3)))
  iterate 2 (go_big_quiet_step (exact calls_ext (ref_any d0 d1 d2 d3 _ hd0 hd1 hd2 hd3)))
  go_big_quiet_step (exact calls_ext (refOver_any c0 c1 c2 c3 d0 d1 d2 d3 _ hc0 hc1 hc2 hc3 hd0 hd1 hd2 hd3))
  go_big_quiet_step (exact calls_ext (is_yes _ _ _ _ _ v0 v1 v2 vo))
  iterate 5 (go_big_quiet_step (exact calls_ext (over_any 0 0 0 0 d0 d1 d2 d3 _ (by omega) (by omega) (by omega) (by omega) hd0 hd1 hd2 hd3)))
  iterate 3 (go_big_quiet_step (fail))
  refine wpQuiet_nil ?_
  rintro _ ⟨g2, rfl⟩
  go_wp2_with fail
  refine (right_any c0 c1 c2 c3 _).mono ?_
  rintro e w' ⟨rfl, g3, rfl⟩
  have tail : ∀ (b : Bool), rightB c0 c1 c2 c3 = b → True := fun _ _ => trivial
  cases hR : rightB c0 c1 c2 c3
  · go_wp2_with fail
    refine (right_any c0 c1 c2 c3 _).mono ?_
    rintro e w' ⟨rfl, g4, rfl⟩
    go_wp2_with (go_at_call 15; refine (awake_any _).mono ?_; rintro e w' ⟨rfl, g5, rfl⟩)
    go_ret
    exact ⟨rfl, by repeat (first | exact Ext.refl _ | apply Ext.alloc | apply Ext.ext)⟩
  · by_cases h3 : c3 = 255
    · subst h3
      have f0 := F.out
      have f1 := F1.out
      have f2 := F2.out
      go_wp2_with fail
      refine (right_any c0 c1 c2 255 _).mono ?_
      rintro e w' ⟨rfl, g4, rfl⟩
      go_wp2_with fail
      refine (right_any d0 d1 d2 d3 _).mono ?_
      rintro e w' ⟨rfl, g5, rfl⟩
      cases hD : rightB d0 d1 d2 d3
      · go_wp2_with (go_at_call 15; refine (awake_any _).mono ?_; rintro e w' ⟨rfl, g6, rfl⟩)
        go_ret
        exact ⟨rfl, by repeat (first | exact Ext.refl _ | apply Ext.alloc | apply Ext.ext)⟩
      · go_wp2_with fail
        refine (right_any _ _ _ _ _).mono ?_
        rintro e w' ⟨rfl, g6, rfl⟩
        go_wp2_with (go_at_call 15; refine (awake_any _).mono ?_; rintro e w' ⟨rfl, g7, rfl⟩)
        go_ret
        exact ⟨rfl, by repeat (first | exact Ext.refl _ | apply Ext.alloc | apply Ext.ext)⟩
    · have h3' : (c3 == 255) = false := by simpa using h3
      go_wp2_with fail
      refine (right_any c0 c1 c2 c3 _).mono ?_
      rintro e w' ⟨rfl, g4, rfl⟩
      go_wp2_with fail
      refine (right_any d0 d1 d2 d3 _).mono ?_
      rintro e w' ⟨rfl, g5, rfl⟩
      cases hD : rightB d0 d1 d2 d3
      · go_wp2_with (go_at_call 15; refine (awake_any _).mono ?_; rintro e w' ⟨rfl, g6, rfl⟩)
        go_ret
        exact ⟨rfl, by repeat (first | exact Ext.refl _ | apply Ext.alloc | apply Ext.ext)⟩
      · have hO := HR.out hR hD
        go_wp2_with fail
        refine (right_any _ _ _ _ _).mono ?_
        rintro e w' ⟨rfl, g6, rfl⟩
        go_wp2_with (go_at_call 15; refine (awake_any _).mono ?_; rintro e w' ⟨rfl, g7, rfl⟩)
        go_ret
        exact ⟨rfl, by repeat (first | exact Ext.refl _ | apply Ext.alloc | apply Ext.ext)⟩

end Go.Proofs.Ytnginblfdamfbaa
