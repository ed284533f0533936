import Derived.Test.YtblfplkocljlgaaTKey
namespace Go.Proofs.Ytblfplkocljlgaa
open Go.RowKit
set_option linter.unusedVariables false
set_option linter.unusedSimpArgs false

theorem keyRight_any (x y : Int) (w : World) : Calls Try.prog 30 #[.agg #[.int .i64 x, .int .i64 y]] w fun e w' => e = .returned (.bool (rightK (x, y))) ∧ Ext w w' := by
  by_cases h : -524288 ≤ min x y
  · go_enter Try.func30, Try.ntmps30
    go_wp2
    go_ret
    exact ⟨ret_bool (by unfold rightK; rw [decide_eq_decide]; dsimp only; omega), (Ext.refl w).alloc _⟩
  · go_enter Try.func30, Try.ntmps30
    go_wp2
    go_ret
    exact ⟨ret_bool (by unfold rightK; simp; omega), (Ext.refl w).alloc _⟩

set_option maxHeartbeats 1600000 in
theorem refRightK_any (x y : Int) (w : World) : Calls Try.prog 9 #[.agg #[.int .i64 x, .int .i64 y]] w fun e w' => e = .returned (.bool (rightK (x, y))) ∧ Ext w w' := by
  rcases (show (¬ -524288 ≤ x) ∨ (-524288 ≤ x ∧ ¬ x ≤ 524287) ∨ (-524288 ≤ x ∧ x ≤ 524287 ∧ ¬ -524288 ≤ y) ∨ (-524288 ≤ x ∧ x ≤ 524287 ∧ -524288 ≤ y) by omega) with h1 | ⟨h1, h2⟩ | ⟨h1, h2, h3⟩ | ⟨h1, h2, h3⟩
  all_goals (
    go_enter Try.func9, Try.ntmps9
    go_wp2
    go_ret
    exact ⟨ret_bool (by unfold rightK; first | (simp; omega) | (rw [decide_eq_decide]; dsimp only; omega)), (Ext.refl w).alloc _⟩)

theorem refK_any (x y : Int) (w : World) : Calls Try.prog 10 #[.agg #[.int .i64 x, .int .i64 y]] w fun e w' => e = .returned (.agg #[.int .i64 x, .int .i64 y]) ∧ Ext w w' := by
  go_enter Try.func10, Try.ntmps10
  go_wp2
  exact bodyPost_ret (v := .agg #[.int .i64 x, .int .i64 y]) (by simp [results, Try.results10, go_sem]) rfl ⟨rfl, by ((repeat (first | exact Ext.refl _ | apply Ext.alloc | apply Ext.drew' | apply Ext.drewN | apply Ext.ext)))⟩

theorem wrap8 (x : Int) (h : -1152921504606846976 ≤ x ∧ x ≤ 1152921504606846975) : IntKind.i64.wrap (x * 8) = 8 * x := by
  unfold IntKind.wrap
  simp [IntKind.signed, IntKind.bits]
  omega

/-- the pixels of a tile -/
def tboxB (k : KK) : Int × Int × Int × Int := if rightK k then (8 * k.1, 8 * k.2, 8 * k.1 + 8, 8 * k.2 + 8) else (0, 0, 0, 0)

set_option maxHeartbeats 1600000 in
theorem tbox_any (x y : Int) (w : World) : Calls Try.prog 8 #[.agg #[.int .i64 x, .int .i64 y]] w fun e w' => e = .returned (boxV (tboxB (x, y))) ∧ Ext w w' := by
  have C := Lib.hid (fun wx => keyRight_any x y wx)
  cases h : rightK (x, y) with
  | false =>
    rw [h] at C
    rw [show boxV (tboxB (x, y)) = .agg #[.int .i64 0, .int .i64 0, .int .i64 0, .int .i64 0] by unfold tboxB; rw [h]; rfl]
    clear h
    go_enter Try.func8, Try.ntmps8
    go_wp2_with fail
    refine (C.out _).mono ?_
    rintro e w1 ⟨rfl, g1, rfl⟩
    go_wp2
    exact bodyPost_ret (v := .agg #[.int .i64 0, .int .i64 0, .int .i64 0, .int .i64 0]) (by simp [results, Try.results8, go_sem]) rfl ⟨rfl, by ((repeat (first | exact Ext.refl _ | apply Ext.alloc | apply Ext.drew' | apply Ext.drewN | apply Ext.ext)))⟩
  | true =>
    rw [h] at C
    rw [show boxV (tboxB (x, y)) = .agg #[.int .i64 (8 * x), .int .i64 (8 * y), .int .i64 (8 * x + 8), .int .i64 (8 * y + 8)] by unfold tboxB; rw [h]; rfl]
    unfold rightK at h
    simp only [decide_eq_true_eq] at h
    obtain ⟨h1, h2, h3, h4⟩ := h
    have s1 : IntKind.i64.wrap (x * 8) = 8 * x := wrap8 x (by omega)
    have s2 : IntKind.i64.wrap (y * 8) = 8 * y := wrap8 y (by omega)
    go_enter Try.func8, Try.ntmps8
    go_wp2_with fail
    refine (C.out _).mono ?_
    rintro e w1 ⟨rfl, g1, rfl⟩
    go_wp2
    refine region_quiet (by kernel_rfl) (by kernel_rfl) ?_
    iterate 8 (go_big_quiet_step (fail))
    refine wpQuiet_nil ?_
    rintro _ ⟨g2, rfl⟩
    go_wp2
    exact bodyPost_ret (v := .agg #[.int .i64 (8 * x), .int .i64 (8 * y), .int .i64 (8 * x + 8), .int .i64 (8 * y + 8)]) (by simp [results, Try.results8, go_sem]) rfl ⟨rfl, by ((repeat (first | exact Ext.refl _ | apply Ext.alloc | apply Ext.drew' | apply Ext.drewN | apply Ext.ext)))⟩

end Go.Proofs.Ytblfplkocljlgaa
