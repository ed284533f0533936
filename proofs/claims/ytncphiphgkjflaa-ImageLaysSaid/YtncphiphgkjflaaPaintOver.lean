/- Chapter 10: colours number by number, walked. -/
import Derived.Test.YtncphiphgkjflaaPaintLeaf
set_option linter.unusedVariables false
set_option linter.unusedSimpArgs false
namespace Go.Proofs.Ytncphiphgkjflaa
open Go.RowKit

set_option maxHeartbeats 1600000 in
theorem over_any (c0 c1 c2 c3 d0 d1 d2 d3 : Int) (w : World) (hc0 : 0 ≤ c0 ∧ c0 ≤ 255) (hc1 : 0 ≤ c1 ∧ c1 ≤ 255) (hc2 : 0 ≤ c2 ∧ c2 ≤ 255) (hc3 : 0 ≤ c3 ∧ c3 ≤ 255) (hd0 : 0 ≤ d0 ∧ d0 ≤ 255) (hd1 : 0 ≤ d1 ∧ d1 ≤ 255) (hd2 : 0 ≤ d2 ∧ d2 ≤ 255) (hd3 : 0 ≤ d3 ∧ d3 ≤ 255) :
    Calls Try.prog 57 #[.agg #[.int .u8 c0, .int .u8 c1, .int .u8 c2, .int .u8 c3], .agg #[.int .u8 d0, .int .u8 d1, .int .u8 d2, .int .u8 d3]] w fun e w' =>
      e = .returned (.agg #[.int .u8 (overI c0 c3 d0), .int .u8 (overI c1 c3 d1), .int .u8 (overI c2 c3 d2), .int .u8 (c3 + ofI (255 - c3) d3)]) ∧ Ext w w' := by
  have o0 := ofI_bd (a := 255 - c3) (b := d0) (by omega) (by omega) hd0.1 hd0.2
  have o1 := ofI_bd (a := 255 - c3) (b := d1) (by omega) (by omega) hd1.1 hd1.2
  have o2 := ofI_bd (a := 255 - c3) (b := d2) (by omega) (by omega) hd2.1 hd2.2
  have o3 := ofI_bd (a := 255 - c3) (b := d3) (by omega) (by omega) hd3.1 hd3.2
  go_enter Try.func57, Try.ntmps57
  go_wp2
  refine wp_loop_rounds 5 ?_
  rw [rounds_succ]
  go_wp2
  refine region_tail 18 (by kernel_rfl) (by kernel_rfl) ?_
  simp only [List.take_succ_cons, List.take_zero, List.drop_succ_cons, List.drop_zero]
  iterate 18 (go_big_quiet_step (exact calls_ext (of_any _ _ _ (by omega) (by omega) (by omega) (by omega))))
  refine wpQuiet_nil ?_
  rintro _ ⟨g0, rfl⟩
  try rw [overI_eq c0 c3 d0]
  go_wp2
  rw [rounds_succ]
  go_wp2
  refine region_tail 18 (by kernel_rfl) (by kernel_rfl) ?_
  simp only [List.take_succ_cons, List.take_zero, List.drop_succ_cons, List.drop_zero]
  iterate 18 (go_big_quiet_step (exact calls_ext (of_any _ _ _ (by omega) (by omega) (by omega) (by omega))))
  refine wpQuiet_nil ?_
  rintro _ ⟨g1, rfl⟩
  try rw [overI_eq c1 c3 d1]
  go_wp2
  rw [rounds_succ]
  go_wp2
  refine region_tail 18 (by kernel_rfl) (by kernel_rfl) ?_
  simp only [List.take_succ_cons, List.take_zero, List.drop_succ_cons, List.drop_zero]
  iterate 18 (go_big_quiet_step (exact calls_ext (of_any _ _ _ (by omega) (by omega) (by omega) (by omega))))
  refine wpQuiet_nil ?_
  rintro _ ⟨g2, rfl⟩
  try rw [overI_eq c2 c3 d2]
  go_wp2
  rw [rounds_succ]
  go_wp2
  refine region_tail 18 (by kernel_rfl) (by kernel_rfl) ?_
  simp only [List.take_succ_cons, List.take_zero, List.drop_succ_cons, List.drop_zero]
  iterate 18 (go_big_quiet_step (exact calls_ext (of_any _ _ _ (by omega) (by omega) (by omega) (by omega))))
  refine wpQuiet_nil ?_
  rintro _ ⟨g3, rfl⟩
  try rw [overI_eq c3 c3 d3]
  go_wp2
  rw [rounds_succ]
  go_wp2
  refine bodyPost_ret ?_ rfl ⟨rfl, by repeat (first | exact Ext.refl _ | apply Ext.alloc | apply Ext.ext)⟩
  simp [results, Try.results57, go_sem]
  exact overI_alpha hc3 hd3

set_option maxHeartbeats 3200000 in
theorem refOver_any (c0 c1 c2 c3 d0 d1 d2 d3 : Int) (w : World) (hc0 : 0 ≤ c0 ∧ c0 ≤ 255) (hc1 : 0 ≤ c1 ∧ c1 ≤ 255) (hc2 : 0 ≤ c2 ∧ c2 ≤ 255) (hc3 : 0 ≤ c3 ∧ c3 ≤ 255) (hd0 : 0 ≤ d0 ∧ d0 ≤ 255) (hd1 : 0 ≤ d1 ∧ d1 ≤ 255) (hd2 : 0 ≤ d2 ∧ d2 ≤ 255) (hd3 : 0 ≤ d3 ∧ d3 ≤ 255) :
    Calls Try.prog 59 #[.agg #[.int .i64 c0, .int .i64 c1, .int .i64 c2, .int .i64 c3], .agg #[.int .i64 d0, .int .i64 d1, .int .i64 d2, .int .i64 d3]] w fun e w' =>
      e = .returned (.agg #[.int .i64 (overI c0 c3 d0), .int .i64 (overI c1 c3 d1), .int .i64 (overI c2 c3 d2), .int .i64 (c3 + ofI (255 - c3) d3)]) ∧ Ext w w' := by
  have o0 := ofI_bd (a := 255 - c3) (b := d0) (by omega) (by omega) hd0.1 hd0.2
  have o1 := ofI_bd (a := 255 - c3) (b := d1) (by omega) (by omega) hd1.1 hd1.2
  have o2 := ofI_bd (a := 255 - c3) (b := d2) (by omega) (by omega) hd2.1 hd2.2
  have o3 := ofI_bd (a := 255 - c3) (b := d3) (by omega) (by omega) hd3.1 hd3.2
  go_enter Try.func59, Try.ntmps59
  go_wp2
  refine wp_loop_rounds 5 ?_
  all_goals
    rw [rounds_succ]
    go_wp2
    refine region_tail 13 (by kernel_rfl) (by kernel_rfl) ?_
    simp only [List.take_succ_cons, List.take_zero, List.drop_succ_cons, List.drop_zero]
    iterate 13 (go_big_quiet_step (exact calls_ext (refOf_any _ _ _ (by omega) (by omega) (by omega) (by omega))))
    refine wpQuiet_nil ?_
    rintro _ ⟨g0, rfl⟩
    go_wp2
  all_goals
    rw [rounds_succ]
    go_wp2
    refine region_tail 13 (by kernel_rfl) (by kernel_rfl) ?_
    simp only [List.take_succ_cons, List.take_zero, List.drop_succ_cons, List.drop_zero]
    iterate 13 (go_big_quiet_step (exact calls_ext (refOf_any _ _ _ (by omega) (by omega) (by omega) (by omega))))
    refine wpQuiet_nil ?_
    rintro _ ⟨g1, rfl⟩
    go_wp2
  all_goals
    rw [rounds_succ]
    go_wp2
    refine region_tail 13 (by kernel_rfl) (by kernel_rfl) ?_
    simp only [List.take_succ_cons, List.take_zero, List.drop_succ_cons, List.drop_zero]
    iterate 13 (go_big_quiet_step (exact calls_ext (refOf_any _ _ _ (by omega) (by omega) (by omega) (by omega))))
    refine wpQuiet_nil ?_
    rintro _ ⟨g2, rfl⟩
    go_wp2
  all_goals
    rw [rounds_succ]
    go_wp2
    refine region_tail 13 (by kernel_rfl) (by kernel_rfl) ?_
    simp only [List.take_succ_cons, List.take_zero, List.drop_succ_cons, List.drop_zero]
    iterate 13 (go_big_quiet_step (exact calls_ext (refOf_any _ _ _ (by omega) (by omega) (by omega) (by omega))))
    refine wpQuiet_nil ?_
    rintro _ ⟨g3, rfl⟩
    go_wp2
  all_goals
    rw [rounds_succ]
    go_wp2
    refine bodyPost_agg4 (by simp [results, Try.results59, go_sem]; exact ⟨rfl, rfl, rfl, rfl⟩) rfl ?_ ?_ ?_ ?_ (by repeat (first | exact Ext.refl _ | apply Ext.alloc | apply Ext.ext))
    all_goals first | omega | (unfold overI; omega)

end Go.Proofs.Ytncphiphgkjflaa
