/- Chapter 10: mixed colours, walked. -/
import Derived.Test.YtnginblfdamfbaaPaintFade
set_option linter.unusedVariables false
set_option linter.unusedSimpArgs false
namespace Go.Proofs.Ytnginblfdamfbaa
open Go.RowKit

/-- one number between two, t of 65536 -/
def mixI (c d t : Int) : Int := (c * (65536 - t) + d * t + 32768) / 65536

theorem round_mix (n : Int) : roundI n 65536 = (n + 32768) / 65536 := by
  unfold roundI
  split <;> omega

theorem mix_prods {c d t : Int} (hc : 0 ≤ c ∧ c ≤ 255) (hd : 0 ≤ d ∧ d ≤ 255) (ht : 0 ≤ t ∧ t ≤ 65536) :
    0 ≤ c * (65536 - t) ∧ c * (65536 - t) ≤ 255 * 65536 ∧ 0 ≤ d * t ∧ d * t ≤ 255 * 65536 := by
  have h1 := mulB (a := c) (b := 65536 - t) (A := 255) (B := 65536) hc.1 hc.2 (by omega) (by omega)
  have h2 := mulB (a := d) (b := t) (A := 255) (B := 65536) hd.1 hd.2 ht.1 ht.2
  exact ⟨h1.1, h1.2, h2.1, h2.2⟩

theorem mix_sum {c d t lo hi : Int} (ht : 0 ≤ t ∧ t ≤ 65536) (hl : lo ≤ min c d) (hh : max c d ≤ hi) :
    lo * 65536 ≤ c * (65536 - t) + d * t ∧ c * (65536 - t) + d * t ≤ hi * 65536 := by
  have h1 : lo * (65536 - t) ≤ c * (65536 - t) := Int.mul_le_mul_of_nonneg_right (by omega) (by omega)
  have h2 : lo * t ≤ d * t := Int.mul_le_mul_of_nonneg_right (by omega) ht.1
  have h3 : c * (65536 - t) ≤ hi * (65536 - t) := Int.mul_le_mul_of_nonneg_right (by omega) (by omega)
  have h4 : d * t ≤ hi * t := Int.mul_le_mul_of_nonneg_right (by omega) ht.1
  have e1 := Int.mul_sub lo 65536 t
  have e2 := Int.mul_sub hi 65536 t
  omega

theorem mixI_between {c d t : Int} (ht : 0 ≤ t ∧ t ≤ 65536) : min c d ≤ mixI c d t ∧ mixI c d t ≤ max c d := by
  have := mix_sum (c := c) (d := d) (t := t) (lo := min c d) (hi := max c d) ht (Int.le_refl _) (Int.le_refl _)
  unfold mixI; omega

theorem mixI_mono {c d c' d' t : Int} (ht : 0 ≤ t ∧ t ≤ 65536) (h1 : c ≤ c') (h2 : d ≤ d') : mixI c d t ≤ mixI c' d' t := by
  have h3 : c * (65536 - t) ≤ c' * (65536 - t) := Int.mul_le_mul_of_nonneg_right h1 (by omega)
  have h4 : d * t ≤ d' * t := Int.mul_le_mul_of_nonneg_right h2 ht.1
  unfold mixI; omega

set_option maxHeartbeats 3200000 in
theorem refMix_any (c0 c1 c2 c3 d0 d1 d2 d3 t : Int) (w : World) (hc0 : 0 ≤ c0 ∧ c0 ≤ 255) (hc1 : 0 ≤ c1 ∧ c1 ≤ 255) (hc2 : 0 ≤ c2 ∧ c2 ≤ 255) (hc3 : 0 ≤ c3 ∧ c3 ≤ 255) (hd0 : 0 ≤ d0 ∧ d0 ≤ 255) (hd1 : 0 ≤ d1 ∧ d1 ≤ 255) (hd2 : 0 ≤ d2 ∧ d2 ≤ 255) (hd3 : 0 ≤ d3 ∧ d3 ≤ 255) (ht : 0 ≤ t ∧ t ≤ 65536) :
    Calls Try.prog 25 #[.agg #[.int .i64 c0, .int .i64 c1, .int .i64 c2, .int .i64 c3], .agg #[.int .i64 d0, .int .i64 d1, .int .i64 d2, .int .i64 d3], .int .i64 t] w fun e w' =>
      e = .returned (.agg #[.int .i64 (mixI c0 d0 t), .int .i64 (mixI c1 d1 t), .int .i64 (mixI c2 d2 t), .int .i64 (mixI c3 d3 t)]) ∧ Ext w w' := by
  have o0 := mix_prods hc0 hd0 ht
  have o1 := mix_prods hc1 hd1 ht
  have o2 := mix_prods hc2 hd2 ht
  have o3 := mix_prods hc3 hd3 ht
  go_enter Try.func25, Try.ntmps25
  go_wp2
  refine wp_loop_rounds 5 ?_
  rw [rounds_succ]
  go_wp2
  refine region_tail 15 (by kernel_rfl) (by kernel_rfl) ?_
  simp only [List.take_succ_cons, List.take_zero, List.drop_succ_cons, List.drop_zero]
  iterate 15 (go_big_quiet_step (exact calls_ext (round_any _ _ _ (by omega) (by omega) (by omega) (by omega))))
  refine wpQuiet_nil ?_
  rintro _ ⟨g0, rfl⟩
  rw [round_mix]
  go_wp2
  rw [rounds_succ]
  go_wp2
  refine region_tail 15 (by kernel_rfl) (by kernel_rfl) ?_
  simp only [List.take_succ_cons, List.take_zero, List.drop_succ_cons, List.drop_zero]
  iterate 15 (go_big_quiet_step (exact calls_ext (round_any _ _ _ (by omega) (by omega) (by omega) (by omega))))
  refine wpQuiet_nil ?_
  rintro _ ⟨g1, rfl⟩
  rw [round_mix]
  go_wp2
  rw [rounds_succ]
  go_wp2
  refine region_tail 15 (by kernel_rfl) (by kernel_rfl) ?_
  simp only [List.take_succ_cons, List.take_zero, List.drop_succ_cons, List.drop_zero]
  iterate 15 (go_big_quiet_step (exact calls_ext (round_any _ _ _ (by omega) (by omega) (by omega) (by omega))))
  refine wpQuiet_nil ?_
  rintro _ ⟨g2, rfl⟩
  rw [round_mix]
  go_wp2
  rw [rounds_succ]
  go_wp2
  refine region_tail 15 (by kernel_rfl) (by kernel_rfl) ?_
  simp only [List.take_succ_cons, List.take_zero, List.drop_succ_cons, List.drop_zero]
  iterate 15 (go_big_quiet_step (exact calls_ext (round_any _ _ _ (by omega) (by omega) (by omega) (by omega))))
  refine wpQuiet_nil ?_
  rintro _ ⟨g3, rfl⟩
  rw [round_mix]
  go_wp2
  rw [rounds_succ]
  go_wp2
  refine bodyPost_agg4 (by simp [results, Try.results25, go_sem]; exact ⟨rfl, rfl, rfl, rfl⟩) rfl rfl rfl rfl rfl (by repeat (first | exact Ext.refl _ | apply Ext.alloc | apply Ext.ext))

set_option maxHeartbeats 3200000 in
theorem mix_any (c0 c1 c2 c3 d0 d1 d2 d3 t : Int) (w : World) (hc0 : 0 ≤ c0 ∧ c0 ≤ 255) (hc1 : 0 ≤ c1 ∧ c1 ≤ 255) (hc2 : 0 ≤ c2 ∧ c2 ≤ 255) (hc3 : 0 ≤ c3 ∧ c3 ≤ 255) (hd0 : 0 ≤ d0 ∧ d0 ≤ 255) (hd1 : 0 ≤ d1 ∧ d1 ≤ 255) (hd2 : 0 ≤ d2 ∧ d2 ≤ 255) (hd3 : 0 ≤ d3 ∧ d3 ≤ 255) :
    Calls Try.prog 24 #[.agg #[.int .u8 c0, .int .u8 c1, .int .u8 c2, .int .u8 c3], .agg #[.int .u8 d0, .int .u8 d1, .int .u8 d2, .int .u8 d3], .int .i64 t] w fun e w' =>
      e = .returned (.agg #[.int .u8 (mixI c0 d0 (min (max t 0) 65536)), .int .u8 (mixI c1 d1 (min (max t 0) 65536)), .int .u8 (mixI c2 d2 (min (max t 0) 65536)), .int .u8 (mixI c3 d3 (min (max t 0) 65536))]) ∧ Ext w w' := by
  obtain ⟨u, hu⟩ : ∃ u, u = min (max t 0) 65536 := ⟨_, rfl⟩
  have ht : 0 ≤ u ∧ u ≤ 65536 := by omega
  have o0 := mix_prods hc0 hd0 ht
  have r0 := mixI_between (c := c0) (d := d0) ht
  have q0 : 0 ≤ (c0 * (65536 - u) + d0 * u + 32768) / 65536 ∧ (c0 * (65536 - u) + d0 * u + 32768) / 65536 ≤ 255 := r0.elim (fun h1 h2 => by unfold mixI at h1 h2; omega)
  have o1 := mix_prods hc1 hd1 ht
  have r1 := mixI_between (c := c1) (d := d1) ht
  have q1 : 0 ≤ (c1 * (65536 - u) + d1 * u + 32768) / 65536 ∧ (c1 * (65536 - u) + d1 * u + 32768) / 65536 ≤ 255 := r1.elim (fun h1 h2 => by unfold mixI at h1 h2; omega)
  have o2 := mix_prods hc2 hd2 ht
  have r2 := mixI_between (c := c2) (d := d2) ht
  have q2 : 0 ≤ (c2 * (65536 - u) + d2 * u + 32768) / 65536 ∧ (c2 * (65536 - u) + d2 * u + 32768) / 65536 ≤ 255 := r2.elim (fun h1 h2 => by unfold mixI at h1 h2; omega)
  have o3 := mix_prods hc3 hd3 ht
  have r3 := mixI_between (c := c3) (d := d3) ht
  have q3 : 0 ≤ (c3 * (65536 - u) + d3 * u + 32768) / 65536 ∧ (c3 * (65536 - u) + d3 * u + 32768) / 65536 ≤ 255 := r3.elim (fun h1 h2 => by unfold mixI at h1 h2; omega)
  rw [← hu]
  have hu' := hu.symm
  clear hu
  go_enter Try.func24, Try.ntmps24
  go_wp2
  refine wp_loop_rounds 5 ?_
  clear hu'
  rw [rounds_succ]
  go_wp2
  refine region_tail 19 (by kernel_rfl) (by kernel_rfl) ?_
  simp only [List.take_succ_cons, List.take_zero, List.drop_succ_cons, List.drop_zero]
  iterate 19 (go_big_quiet_step (fail))
  refine wpQuiet_nil ?_
  rintro _ ⟨g0, rfl⟩
  go_wp2
  rw [rounds_succ]
  go_wp2
  refine region_tail 19 (by kernel_rfl) (by kernel_rfl) ?_
  simp only [List.take_succ_cons, List.take_zero, List.drop_succ_cons, List.drop_zero]
  iterate 19 (go_big_quiet_step (fail))
  refine wpQuiet_nil ?_
  rintro _ ⟨g1, rfl⟩
  go_wp2
  rw [rounds_succ]
  go_wp2
  refine region_tail 19 (by kernel_rfl) (by kernel_rfl) ?_
  simp only [List.take_succ_cons, List.take_zero, List.drop_succ_cons, List.drop_zero]
  iterate 19 (go_big_quiet_step (fail))
  refine wpQuiet_nil ?_
  rintro _ ⟨g2, rfl⟩
  go_wp2
  rw [rounds_succ]
  go_wp2
  refine region_tail 19 (by kernel_rfl) (by kernel_rfl) ?_
  simp only [List.take_succ_cons, List.take_zero, List.drop_succ_cons, List.drop_zero]
  iterate 19 (go_big_quiet_step (fail))
  refine wpQuiet_nil ?_
  rintro _ ⟨g3, rfl⟩
  go_wp2
  rw [rounds_succ]
  go_wp2
  refine bodyPost_agg4 (by simp [results, Try.results24, go_sem]; exact ⟨rfl, rfl, rfl, rfl⟩) rfl rfl rfl rfl rfl (by repeat (first | exact Ext.refl _ | apply Ext.alloc | apply Ext.ext))
end Go.Proofs.Ytnginblfdamfbaa
