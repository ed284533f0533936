/- Chapter 10: the anchor, and the laws of Of, Fade, Part, Over, Mix, walked. -/
import Derived.Test.YtnginblfdamfbaaPaintLaws
import Derived.Deep.RegionHeld3
import Derived.Deep.DeepCutAuto
set_option linter.unusedVariables false
set_option linter.unusedSimpArgs false
namespace Go.Proofs.Ytnginblfdamfbaa
open Go.RowKit

theorem right_yes {a b c d : Int} (h : rightB a b c d = true) (w : World) :
    Calls Try.prog 14 #[.agg #[.int .u8 a, .int .u8 b, .int .u8 c, .int .u8 d]] w fun e w' => e = .returned (.bool true) ∧ Ext w w' := by
  have := right_any a b c d w
  rwa [h] at this

set_option maxRecDepth 100000 in
set_option maxHeartbeats 3200000 in
theorem PaintFades_walk (c0 c1 c2 c3 by_ n : Int) (w : World) (hc0 : 0 ≤ c0 ∧ c0 ≤ 255) (hc1 : 0 ≤ c1 ∧ c1 ≤ 255) (hc2 : 0 ≤ c2 ∧ c2 ≤ 255) (hc3 : 0 ≤ c3 ∧ c3 ≤ 255) (hb : 0 ≤ by_ ∧ by_ ≤ 255) (hn : -9223372036854775808 ≤ n ∧ n ≤ 9223372036854775807) :
    Calls Try.prog 4 #[.agg #[.int .u8 c0, .int .u8 c1, .int .u8 c2, .int .u8 c3], .int .u8 by_, .int .i64 n] w fun e w' => e = .returned (.bool true) ∧ Ext w w' := by
  obtain ⟨m, hm⟩ : ∃ m, m = min (max n 0) 16 := ⟨_, rfl⟩
  have hm2 : 0 ≤ m ∧ m ≤ 16 := by omega
  have v0 : 0 ≤ ofI c0 by_ ∧ ofI c0 by_ ≤ 255 := by have := ofI_bd hc0.1 hc0.2 hb.1 hb.2; omega
  have u0 : 0 ≤ partI c0 m ∧ partI c0 m ≤ 255 := by have := partI_bd hc0 hm2; omega
  have v1 : 0 ≤ ofI c1 by_ ∧ ofI c1 by_ ≤ 255 := by have := ofI_bd hc1.1 hc1.2 hb.1 hb.2; omega
  have u1 : 0 ≤ partI c1 m ∧ partI c1 m ≤ 255 := by have := partI_bd hc1 hm2; omega
  have v2 : 0 ≤ ofI c2 by_ ∧ ofI c2 by_ ≤ 255 := by have := ofI_bd hc2.1 hc2.2 hb.1 hb.2; omega
  have u2 : 0 ≤ partI c2 m ∧ partI c2 m ≤ 255 := by have := partI_bd hc2 hm2; omega
  have v3 : 0 ≤ ofI c3 by_ ∧ ofI c3 by_ ≤ 255 := by have := ofI_bd hc3.1 hc3.2 hb.1 hb.2; omega
  have u3 : 0 ≤ partI c3 m ∧ partI c3 m ≤ 255 := by have := partI_bd hc3 hm2; omega
  have R1 : rightB c0 c1 c2 c3 = true → rightB (ofI c0 by_) (ofI c1 by_) (ofI c2 by_) (ofI c3 by_) = true := by
    intro h1
    simp only [rightB, decide_eq_true_eq] at h1 ⊢
    have i0 := ofI_mono (a := c0) (c := c3) hc0.1 hb.1 (by omega) (Int.le_refl by_)
    have i1 := ofI_mono (a := c1) (c := c3) hc1.1 hb.1 (by omega) (Int.le_refl by_)
    have i2 := ofI_mono (a := c2) (c := c3) hc2.1 hb.1 (by omega) (Int.le_refl by_)
    omega
  have R2 : rightB c0 c1 c2 c3 = true → rightB (partI c0 m) (partI c1 m) (partI c2 m) (partI c3 m) = true := by
    intro h1
    simp only [rightB, decide_eq_true_eq] at h1 ⊢
    have i0 := partI_mono (n := m) (x := c0) (y := c3) hm2.1 (by omega)
    have i1 := partI_mono (n := m) (x := c1) (y := c3) hm2.1 (by omega)
    have i2 := partI_mono (n := m) (x := c2) (y := c3) hm2.1 (by omega)
    omega
  have R3 : rightB (ofI c0 by_) (ofI c1 by_) (ofI c2 by_) by_ = true := by
    simp only [rightB, decide_eq_true_eq]
    have i0 := ofI_bd hc0.1 hc0.2 hb.1 hb.2
    have i1 := ofI_bd hc1.1 hc1.2 hb.1 hb.2
    have i2 := ofI_bd hc2.1 hc2.2 hb.1 hb.2
    omega
  have e255 := ofI_255' by_ hb.1
  have HR1 := Lib.hid R1
  have HR2 := Lib.hid R2
  have HM := Lib.hid hm
  have hm' := hm.symm
  clear R1 R2 hm
  go_enter Try.func4, Try.ntmps4
  go_upto_region 1 with fail
  go_cut [7, 8] (fun s7 s8 wx => ∃ g7 g8 : Nat, s7 = .pointer (some ⟨g7, 0, none⟩) ∧ s8 = .pointer (some ⟨g8, 0, none⟩) ∧ w.heap.size < wx.heap.size ∧ g7 < wx.heap.size ∧ g8 < wx.heap.size ∧ wx.cell? ⟨w.heap.size, 0, none⟩ = some (.int .u8 c0) ∧ wx.cell? ⟨w.heap.size, 1, none⟩ = some (.int .u8 c1) ∧ wx.cell? ⟨w.heap.size, 2, none⟩ = some (.int .u8 c2) ∧ wx.cell? ⟨w.heap.size, 3, none⟩ = some (.int .u8 c3) ∧ wx.cell? ⟨g7, 0, none⟩ = some (.int .u8 (ofI c0 by_)) ∧ wx.cell? ⟨g7, 1, none⟩ = some (.int .u8 (ofI c1 by_)) ∧ wx.cell? ⟨g7, 2, none⟩ = some (.int .u8 (ofI c2 by_)) ∧ wx.cell? ⟨g7, 3, none⟩ = some (.int .u8 (ofI c3 by_)) ∧ wx.cell? ⟨g8, 0, none⟩ = some (.int .u8 (partI c0 m)) ∧ wx.cell? ⟨g8, 1, none⟩ = some (.int .u8 (partI c1 m)) ∧ wx.cell? ⟨g8, 2, none⟩ = some (.int .u8 (partI c2 m)) ∧ wx.cell? ⟨g8, 3, none⟩ = some (.int .u8 (partI c3 m)) ∧ Ext w wx)
  case first =>
    go_region_held3 (fun w' => w'.cell? ⟨w.heap.size, 0, none⟩ = some (.int .u8 c0) ∧ w'.cell? ⟨w.heap.size, 1, none⟩ = some (.int .u8 c1) ∧ w'.cell? ⟨w.heap.size, 2, none⟩ = some (.int .u8 c2) ∧ w'.cell? ⟨w.heap.size, 3, none⟩ = some (.int .u8 c3)) (first | (simp [go_sem]; done) | go_keep)
      (first | (go_at_call 16; refine (fade_any c0 c1 c2 c3 by_ _ hc0 hc1 hc2 hc3 hb).mono ?_; rintro e w' ⟨rfl, g, rfl⟩) | (go_at_call 17; refine (part_any c0 c1 c2 c3 n _ hc0 hc1 hc2 hc3).mono ?_; rw [hm']; rintro e w' ⟨rfl, g, rfl⟩))
    all_goals
      go_wp2_with fail
      go_meet
      refine ⟨_, _, rfl, rfl, ?_, ?_, ?_, ?_, ?_, ?_, ?_, ?_, ?_, ?_, ?_, ?_, ?_, ?_, ?_, ?_⟩
      all_goals first | (simp [go_sem]; done) | (repeat (first | exact Ext.refl _ | apply Ext.alloc | apply Ext.ext))
  case rest =>
    obtain ⟨g7, g8, rfl, rfl, l0, l7, l8, x0, x1, x2, x3, y0, y1, y2, y3, z0, z1, z2, z3, hE⟩ := hcut
    have HE := Lib.hid hE
    clear hE
    go_wp2_with fail
    refine region_quiet (by kernel_rfl) (by kernel_rfl) ?_
    iterate 3 (go_big_quiet_step (exact calls_ext (ref_any c0 c1 c2 c3 _ hc0 hc1 hc2 hc3)))
    iterate 3 (go_big_quiet_step (exact calls_ext (refFade_any c0 c1 c2 c3 by_ _ hc0 hc1 hc2 hc3 hb)))
    iterate 5 (go_big_quiet_step (exact calls_ext (is_yes _ _ _ _ _ v0 v1 v2 v3)))
    go_big_quiet_step (exact calls_ext (ref_any c0 c1 c2 c3 _ hc0 hc1 hc2 hc3))
    iterate 4 (go_big_quiet_step (exact calls_ext (refPart_any c0 c1 c2 c3 m _ hc0 hc1 hc2 hc3 hm2)))
    iterate 5 (go_big_quiet_step (exact calls_ext (is_yes _ _ _ _ _ u0 u1 u2 u3)))
    iterate 2 (go_big_quiet_step (exact calls_ext (right_any c0 c1 c2 c3 _)))
    iterate 1 (go_big_quiet_step (exact calls_ext (ref_any c0 c1 c2 c3 _ hc0 hc1 hc2 hc3)))
    iterate 1 (go_big_quiet_step (exact calls_ext (refRight_any c0 c1 c2 c3 _)))
    iterate 2 (go_big_quiet_step (fail))
    refine wpQuiet_nil ?_
    rintro _ ⟨g2, rfl⟩
    go_wp2_with fail
    refine (right_any c0 c1 c2 c3 _).mono ?_
    rintro e w' ⟨rfl, g3, rfl⟩
    cases hR : rightB c0 c1 c2 c3
    case' true =>
      have q1 := HR1.out hR
      have q2 := HR2.out hR
      go_wp2_with fail
      refine (right_any _ _ _ _ _).mono ?_
      rintro e w' ⟨rfl, g4, rfl⟩
      go_wp2_with fail
      refine (right_any _ _ _ _ _).mono ?_
      rintro e w' ⟨rfl, g5, rfl⟩
    all_goals
      go_wp2_with fail
      refine (straight_any c0 c1 c2 by_ _ hc0 hc1 hc2 hb).mono ?_
      rintro e w' ⟨rfl, g6, rfl⟩
      go_wp2_with fail
      refine region_quiet (by kernel_rfl) (by kernel_rfl) ?_
      iterate 2 (go_big_quiet_step (exact calls_ext (right_yes R3 _)))
      iterate 21 (go_big_quiet_step (exact calls_ext (refFade_any c0 c1 c2 255 by_ _ hc0 hc1 hc2 (by omega) hb)))
      iterate 1 (go_big_quiet_step (exact calls_ext (is_yes _ _ _ _ _ v0 v1 v2 hb)))
      iterate 3 (go_big_quiet_step (exact calls_ext (awake_any _)))
      iterate 2 (go_big_quiet_step (fail))
      refine wpQuiet_nil ?_
      rintro _ ⟨g7, rfl⟩
      go_wp2
      go_ret
      exact ⟨rfl, HE.out.trans (by repeat (first | exact Ext.refl _ | apply Ext.alloc | apply Ext.ext))⟩
end Go.Proofs.Ytnginblfdamfbaa
