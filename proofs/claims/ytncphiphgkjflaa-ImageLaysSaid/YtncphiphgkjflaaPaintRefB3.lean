/- Chapter 10: the reference's blend, walked. -/
import Derived.Test.YtncphiphgkjflaaPaintBlend
import Derived.Deep.DeepCutAuto
set_option linter.unusedVariables false
set_option linter.unusedSimpArgs false
namespace Go.Proofs.Ytncphiphgkjflaa
open Go.RowKit

set_option maxRecDepth 100000 in
set_option maxHeartbeats 6400000 in
theorem refBlend_3 (c0 c1 c2 c3 d0 d1 d2 d3 : Int) (w : World) (hc0 : 0 ≤ c0 ∧ c0 ≤ 255) (hc1 : 0 ≤ c1 ∧ c1 ≤ 255) (hc2 : 0 ≤ c2 ∧ c2 ≤ 255) (hc3 : 0 ≤ c3 ∧ c3 ≤ 255) (hd0 : 0 ≤ d0 ∧ d0 ≤ 255) (hd1 : 0 ≤ d1 ∧ d1 ≤ 255) (hd2 : 0 ≤ d2 ∧ d2 ≤ 255) (hd3 : 0 ≤ d3 ∧ d3 ≤ 255) :
    Calls Try.prog 48 #[.agg #[.int .i64 c0, .int .i64 c1, .int .i64 c2, .int .i64 c3], .agg #[.int .i64 d0, .int .i64 d1, .int .i64 d2, .int .i64 d3], .int .i64 3] w fun e w' =>
      e = .returned (.agg #[.int .i64 (blendI 3 c0 d0 c3 d3 (c3 + ofI (255 - c3) d3)), .int .i64 (blendI 3 c1 d1 c3 d3 (c3 + ofI (255 - c3) d3)), .int .i64 (blendI 3 c2 d2 c3 d3 (c3 + ofI (255 - c3) d3)), .int .i64 (c3 + ofI (255 - c3) d3)]) ∧ Ext w w' := by
  have o3 := ofI_bd (a := 255 - c3) (b := d3) (by omega) (by omega) hd3.1 hd3.2
  have n0 := oneI_bd (m := 3) hc0 hd0 hc3 hd3
  have p0 := ofI_bd hc0.1 hc0.2 hd0.1 hd0.2
  have q0 := ofI_bd (a := 255 - d3) (b := c0) (by omega) (by omega) hc0.1 hc0.2
  have r0 := ofI_bd (a := 255 - c3) (b := d0) (by omega) (by omega) hd0.1 hd0.2
  have s0 := ofI_bd hd3.1 hd3.2 hc0.1 hc0.2
  have t0 := ofI_bd hc3.1 hc3.2 hd0.1 hd0.2
  have n1 := oneI_bd (m := 3) hc1 hd1 hc3 hd3
  have p1 := ofI_bd hc1.1 hc1.2 hd1.1 hd1.2
  have q1 := ofI_bd (a := 255 - d3) (b := c1) (by omega) (by omega) hc1.1 hc1.2
  have r1 := ofI_bd (a := 255 - c3) (b := d1) (by omega) (by omega) hd1.1 hd1.2
  have s1 := ofI_bd hd3.1 hd3.2 hc1.1 hc1.2
  have t1 := ofI_bd hc3.1 hc3.2 hd1.1 hd1.2
  have n2 := oneI_bd (m := 3) hc2 hd2 hc3 hd3
  have p2 := ofI_bd hc2.1 hc2.2 hd2.1 hd2.2
  have q2 := ofI_bd (a := 255 - d3) (b := c2) (by omega) (by omega) hc2.1 hc2.2
  have r2 := ofI_bd (a := 255 - c3) (b := d2) (by omega) (by omega) hd2.1 hd2.2
  have s2 := ofI_bd hd3.1 hd3.2 hc2.1 hc2.2
  have t2 := ofI_bd hc3.1 hc3.2 hd2.1 hd2.2
  go_enter Try.func48, Try.ntmps48
  go_wp2_with fail
  refine (refOver_any c0 c1 c2 c3 d0 d1 d2 d3 _ hc0 hc1 hc2 hc3 hd0 hd1 hd2 hd3).mono ?_
  rintro e w' ⟨rfl, g, rfl⟩
  go_wp2_with fail
  refine wp_loop_rounds 4 ?_
  rw [rounds_succ]
  go_wp2
  refine region_quiet (by kernel_rfl) (by kernel_rfl) ?_
  iterate 8 (go_big_quiet_step (fail))
  refine wpQuiet_nil ?_
  rintro _ ⟨ga0, rfl⟩
  go_wp2_with fail
  refine region_quiet (by kernel_rfl) (by kernel_rfl) ?_
  iterate 10 (go_big_quiet_step (exact calls_ext (refOf_any _ _ _ (by omega) (by omega) (by omega) (by omega))))
  refine wpQuiet_nil ?_
  rintro W0 hW
  have f1 : W0.cell? ⟨w.heap.size, 3, none⟩ = some (.int .i64 c3) := by obtain ⟨_, rfl⟩ := hW; simp [go_sem]
  have f2 : W0.cell? ⟨w.heap.size + 1, 3, none⟩ = some (.int .i64 d3) := by obtain ⟨_, rfl⟩ := hW; simp [go_sem]
  have f3 : W0.cell? ⟨w.heap.size + (3 + g.blocks.size), 3, none⟩ = some (.int .i64 (c3 + ofI (255 - c3) d3)) := by obtain ⟨_, rfl⟩ := hW; simp [go_sem]
  have l1 : w.heap.size < W0.heap.size := by obtain ⟨_, rfl⟩ := hW; simp [go_sem]
  have l2 : w.heap.size + 1 < W0.heap.size := by obtain ⟨_, rfl⟩ := hW; simp [go_sem]
  have l3 : w.heap.size + (3 + g.blocks.size) < W0.heap.size := by obtain ⟨_, rfl⟩ := hW; simp [go_sem]
  have HW := Lib.hid hW
  clear hW
  go_upto_if 39 with (fail)
  go_cut [13] (fun s13 wx => s13 = .int .i64 (oneI 3 c0 d0 c3 d3) ∧ Ext W0 wx)
  case first =>
    go_wp2_with fail
    all_goals
      go_meet
      refine ⟨?_, Ext.refl _⟩
      simp only [Value.int.injEq, true_and]
      rw [← oneI_3]
      (try simp only [Bool.not_eq_true', Bool.not_eq_false', decide_eq_true_eq, decide_eq_false_iff_not] at *)
      omega
  case rest =>
  obtain ⟨rfl, gx, rfl⟩ := hcut
  go_upto_if 81 with (fail)
  go_cut [13] (fun s13 wx => s13 = .int .i64 (max (oneI 3 c0 d0 c3 d3) 0) ∧ wx = W0.ext gx)
  case first =>
    go_wp2_with fail
    all_goals
      go_meet
      refine ⟨?_, rfl⟩
      simp only [Value.int.injEq, true_and]
      omega
  case rest =>
  obtain ⟨rfl, rfl⟩ := hcut
  go_upto_if 85 with (fail)
  go_cut [13] (fun s13 wx => s13 = .int .i64 (blendI 3 c0 d0 c3 d3 (c3 + ofI (255 - c3) d3)) ∧ wx = W0.ext gx)
  case first =>
    go_wp2_with fail
    all_goals
      go_meet
      refine ⟨?_, rfl⟩
      simp only [blendI, Value.int.injEq, true_and]
      omega
  case rest =>
  obtain ⟨rfl, rfl⟩ := hcut
  obtain ⟨gw0, rfl⟩ := HW.out
  clear f1 f2 f3 l1 l2 l3 HW
  go_wp2
  rw [rounds_succ]
  go_wp2
  refine region_quiet (by kernel_rfl) (by kernel_rfl) ?_
  iterate 8 (go_big_quiet_step (fail))
  refine wpQuiet_nil ?_
  rintro _ ⟨ga1, rfl⟩
  go_wp2_with fail
  refine region_quiet (by kernel_rfl) (by kernel_rfl) ?_
  iterate 10 (go_big_quiet_step (exact calls_ext (refOf_any _ _ _ (by omega) (by omega) (by omega) (by omega))))
  refine wpQuiet_nil ?_
  rintro W1 hW
  have f1 : W1.cell? ⟨w.heap.size, 3, none⟩ = some (.int .i64 c3) := by obtain ⟨_, rfl⟩ := hW; simp [go_sem]
  have f2 : W1.cell? ⟨w.heap.size + 1, 3, none⟩ = some (.int .i64 d3) := by obtain ⟨_, rfl⟩ := hW; simp [go_sem]
  have f3 : W1.cell? ⟨w.heap.size + (3 + g.blocks.size), 3, none⟩ = some (.int .i64 (c3 + ofI (255 - c3) d3)) := by obtain ⟨_, rfl⟩ := hW; simp [go_sem]
  have l1 : w.heap.size < W1.heap.size := by obtain ⟨_, rfl⟩ := hW; simp [go_sem]
  have l2 : w.heap.size + 1 < W1.heap.size := by obtain ⟨_, rfl⟩ := hW; simp [go_sem]
  have l3 : w.heap.size + (3 + g.blocks.size) < W1.heap.size := by obtain ⟨_, rfl⟩ := hW; simp [go_sem]
  have HW := Lib.hid hW
  clear hW
  go_upto_if 39 with (fail)
  go_cut [13] (fun s13 wx => s13 = .int .i64 (oneI 3 c1 d1 c3 d3) ∧ Ext W1 wx)
  case first =>
    go_wp2_with fail
    all_goals
      go_meet
      refine ⟨?_, Ext.refl _⟩
      simp only [Value.int.injEq, true_and]
      rw [← oneI_3]
      (try simp only [Bool.not_eq_true', Bool.not_eq_false', decide_eq_true_eq, decide_eq_false_iff_not] at *)
      omega
  case rest =>
  obtain ⟨rfl, gx, rfl⟩ := hcut
  go_upto_if 81 with (fail)
  go_cut [13] (fun s13 wx => s13 = .int .i64 (max (oneI 3 c1 d1 c3 d3) 0) ∧ wx = W1.ext gx)
  case first =>
    go_wp2_with fail
    all_goals
      go_meet
      refine ⟨?_, rfl⟩
      simp only [Value.int.injEq, true_and]
      omega
  case rest =>
  obtain ⟨rfl, rfl⟩ := hcut
  go_upto_if 85 with (fail)
  go_cut [13] (fun s13 wx => s13 = .int .i64 (blendI 3 c1 d1 c3 d3 (c3 + ofI (255 - c3) d3)) ∧ wx = W1.ext gx)
  case first =>
    go_wp2_with fail
    all_goals
      go_meet
      refine ⟨?_, rfl⟩
      simp only [blendI, Value.int.injEq, true_and]
      omega
  case rest =>
  obtain ⟨rfl, rfl⟩ := hcut
  obtain ⟨gw1, rfl⟩ := HW.out
  clear f1 f2 f3 l1 l2 l3 HW
  go_wp2
  rw [rounds_succ]
  go_wp2
  refine region_quiet (by kernel_rfl) (by kernel_rfl) ?_
  iterate 8 (go_big_quiet_step (fail))
  refine wpQuiet_nil ?_
  rintro _ ⟨ga2, rfl⟩
  go_wp2_with fail
  refine region_quiet (by kernel_rfl) (by kernel_rfl) ?_
  iterate 10 (go_big_quiet_step (exact calls_ext (refOf_any _ _ _ (by omega) (by omega) (by omega) (by omega))))
  refine wpQuiet_nil ?_
  rintro W2 hW
  have f1 : W2.cell? ⟨w.heap.size, 3, none⟩ = some (.int .i64 c3) := by obtain ⟨_, rfl⟩ := hW; simp [go_sem]
  have f2 : W2.cell? ⟨w.heap.size + 1, 3, none⟩ = some (.int .i64 d3) := by obtain ⟨_, rfl⟩ := hW; simp [go_sem]
  have f3 : W2.cell? ⟨w.heap.size + (3 + g.blocks.size), 3, none⟩ = some (.int .i64 (c3 + ofI (255 - c3) d3)) := by obtain ⟨_, rfl⟩ := hW; simp [go_sem]
  have l1 : w.heap.size < W2.heap.size := by obtain ⟨_, rfl⟩ := hW; simp [go_sem]
  have l2 : w.heap.size + 1 < W2.heap.size := by obtain ⟨_, rfl⟩ := hW; simp [go_sem]
  have l3 : w.heap.size + (3 + g.blocks.size) < W2.heap.size := by obtain ⟨_, rfl⟩ := hW; simp [go_sem]
  have HW := Lib.hid hW
  clear hW
  go_upto_if 39 with (fail)
  go_cut [13] (fun s13 wx => s13 = .int .i64 (oneI 3 c2 d2 c3 d3) ∧ Ext W2 wx)
  case first =>
    go_wp2_with fail
    all_goals
      go_meet
      refine ⟨?_, Ext.refl _⟩
      simp only [Value.int.injEq, true_and]
      rw [← oneI_3]
      (try simp only [Bool.not_eq_true', Bool.not_eq_false', decide_eq_true_eq, decide_eq_false_iff_not] at *)
      omega
  case rest =>
  obtain ⟨rfl, gx, rfl⟩ := hcut
  go_upto_if 81 with (fail)
  go_cut [13] (fun s13 wx => s13 = .int .i64 (max (oneI 3 c2 d2 c3 d3) 0) ∧ wx = W2.ext gx)
  case first =>
    go_wp2_with fail
    all_goals
      go_meet
      refine ⟨?_, rfl⟩
      simp only [Value.int.injEq, true_and]
      omega
  case rest =>
  obtain ⟨rfl, rfl⟩ := hcut
  go_upto_if 85 with (fail)
  go_cut [13] (fun s13 wx => s13 = .int .i64 (blendI 3 c2 d2 c3 d3 (c3 + ofI (255 - c3) d3)) ∧ wx = W2.ext gx)
  case first =>
    go_wp2_with fail
    all_goals
      go_meet
      refine ⟨?_, rfl⟩
      simp only [blendI, Value.int.injEq, true_and]
      omega
  case rest =>
  obtain ⟨rfl, rfl⟩ := hcut
  obtain ⟨gw2, rfl⟩ := HW.out
  clear f1 f2 f3 l1 l2 l3 HW
  go_wp2
  rw [rounds_succ]
  go_wp2
  refine bodyPost_agg4 (by simp [results, Try.results48, go_sem]) rfl rfl rfl rfl rfl (by repeat (first | exact Ext.refl _ | apply Ext.alloc | apply Ext.ext))

end Go.Proofs.Ytncphiphgkjflaa
