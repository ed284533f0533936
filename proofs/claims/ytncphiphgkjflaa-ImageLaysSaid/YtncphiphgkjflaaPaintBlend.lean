/- Chapter 10: blended colours, walked. -/
import Derived.Test.YtncphiphgkjflaaPaintFade
set_option linter.unusedVariables false
set_option linter.unusedSimpArgs false
namespace Go.Proofs.Ytncphiphgkjflaa
open Go.RowKit

/-- one number of a blend, ahead of its bounds -/
def oneI (m s t a b : Int) : Int :=
  if m = 1 then ofI s t + ofI (255 - b) s + ofI (255 - a) t
  else if m = 2 then s + t - ofI s t
  else if m = 3 then s + t - max (ofI b s) (ofI a t)
  else s + t - min (ofI b s) (ofI a t)

theorem oneI_bd {m s t a b : Int} (hs : 0 ≤ s ∧ s ≤ 255) (ht : 0 ≤ t ∧ t ≤ 255) (ha : 0 ≤ a ∧ a ≤ 255) (hb : 0 ≤ b ∧ b ≤ 255) : -1000 ≤ oneI m s t a b ∧ oneI m s t a b ≤ 1000 := by
  have h1 := ofI_bd hs.1 hs.2 ht.1 ht.2
  have h2 := ofI_bd (a := 255 - b) (b := s) (by omega) (by omega) hs.1 hs.2
  have h3 := ofI_bd (a := 255 - a) (b := t) (by omega) (by omega) ht.1 ht.2
  have h4 := ofI_bd hb.1 hb.2 hs.1 hs.2
  have h5 := ofI_bd ha.1 ha.2 ht.1 ht.2
  unfold oneI
  split
  · omega
  split
  · omega
  split <;> omega

theorem oneI_1 (s t a b : Int) : ofI s t + ofI (255 - b) s + ofI (255 - a) t = oneI 1 s t a b := rfl
theorem oneI_2 (s t a b : Int) : s + t - ofI s t = oneI 2 s t a b := rfl
theorem oneI_3 (s t a b : Int) : s + t - max (ofI b s) (ofI a t) = oneI 3 s t a b := rfl
theorem oneI_4 (s t a b : Int) : s + t - min (ofI b s) (ofI a t) = oneI 4 s t a b := rfl

/-- one number of a blend; o: the alpha of what comes out -/
def blendI (m s t a b o : Int) : Int := min (max (oneI m s t a b) 0) o

set_option maxHeartbeats 1600000 in
theorem one_any (m s t a b : Int) (w : World) (hm : m = 1 ∨ m = 2 ∨ m = 3 ∨ m = 4) (hs : 0 ≤ s ∧ s ≤ 255) (ht : 0 ≤ t ∧ t ≤ 255) (ha : 0 ≤ a ∧ a ≤ 255) (hb : 0 ≤ b ∧ b ≤ 255) :
    Calls Try.prog 58 #[.int .i64 m, .int .i64 s, .int .i64 t, .int .i64 a, .int .i64 b] w fun e w' => e = .returned (.int .i64 (oneI m s t a b)) ∧ Ext w w' := by
  have h1 := ofI_bd hs.1 hs.2 ht.1 ht.2
  have h2 := ofI_bd (a := 255 - b) (b := s) (by omega) (by omega) hs.1 hs.2
  have h3 := ofI_bd (a := 255 - a) (b := t) (by omega) (by omega) ht.1 ht.2
  have h4 := ofI_bd hb.1 hb.2 hs.1 hs.2
  have h5 := ofI_bd ha.1 ha.2 ht.1 ht.2
  rcases hm with rfl | rfl | rfl | rfl
  all_goals
    go_enter Try.func58, Try.ntmps58
    go_wp2_with (go_at_call 56; refine (of_any _ _ _ (by omega) (by omega) (by omega) (by omega)).mono ?_; rintro e w' ⟨rfl, g, rfl⟩)
    go_ret
    exact ⟨ret_int rfl, by repeat (first | exact Ext.refl _ | apply Ext.alloc | apply Ext.ext)⟩

theorem bodyPost_agg4e {P : Program} {fn : Func} {a : Act} {w0 w : World} {k : IntKind} {a0 a1 a2 a3 x b0 b1 b2 b3 : Int} (hr : (results fn a.tmps).run P w = .ok (.tuple #[.agg #[.int k a0, .int k a1, .int k a2, .int k a3], .int .i64 x]) w)
    (hd : a.defers = []) (h0 : a0 = b0) (h1 : a1 = b1) (h2 : a2 = b2) (h3 : a3 = b3) (he : Ext w0 w) :
    bodyPost P fn (fun e w' => e = .returned (.tuple #[.agg #[.int k b0, .int k b1, .int k b2, .int k b3], .int .i64 x]) ∧ Ext w0 w') .ret a w :=
  bodyPost_ret hr hd ⟨by rw [h0, h1, h2, h3], he⟩

set_option maxHeartbeats 1600000 in
theorem blend_kind (c0 c1 c2 c3 d0 d1 d2 d3 m : Int) (w : World) (hc0 : 0 ≤ c0 ∧ c0 ≤ 255) (hc1 : 0 ≤ c1 ∧ c1 ≤ 255) (hc2 : 0 ≤ c2 ∧ c2 ≤ 255) (hc3 : 0 ≤ c3 ∧ c3 ≤ 255) (hd0 : 0 ≤ d0 ∧ d0 ≤ 255) (hd1 : 0 ≤ d1 ∧ d1 ≤ 255) (hd2 : 0 ≤ d2 ∧ d2 ≤ 255) (hd3 : 0 ≤ d3 ∧ d3 ≤ 255) (hm : m < 0 ∨ 4 < m) :
    Calls Try.prog 47 #[.agg #[.int .u8 c0, .int .u8 c1, .int .u8 c2, .int .u8 c3], .agg #[.int .u8 d0, .int .u8 d1, .int .u8 d2, .int .u8 d3], .int .i64 m] w fun e w' =>
      e = .returned (.tuple #[.agg #[.int .u8 0, .int .u8 0, .int .u8 0, .int .u8 0], .int .i64 33]) ∧ Ext w w' := by
  rcases hm with hm | hm
  case' inr => have hm' : ¬ m < 0 := by omega
  all_goals
    go_enter Try.func47, Try.ntmps47
    go_wp2_with fail
    refine (over_any c0 c1 c2 c3 d0 d1 d2 d3 _ hc0 hc1 hc2 hc3 hd0 hd1 hd2 hd3).mono ?_
    rintro e w' ⟨rfl, g, rfl⟩
    go_wp2_with fail
    refine bodyPost_agg4e (by simp [results, Try.results47, go_sem]) rfl rfl rfl rfl rfl (by repeat (first | exact Ext.refl _ | apply Ext.alloc | apply Ext.ext))

set_option maxHeartbeats 1600000 in
theorem blend_range (c0 c1 c2 c3 d0 d1 d2 d3 m : Int) (w : World) (hc0 : 0 ≤ c0 ∧ c0 ≤ 255) (hc1 : 0 ≤ c1 ∧ c1 ≤ 255) (hc2 : 0 ≤ c2 ∧ c2 ≤ 255) (hc3 : 0 ≤ c3 ∧ c3 ≤ 255) (hd0 : 0 ≤ d0 ∧ d0 ≤ 255) (hd1 : 0 ≤ d1 ∧ d1 ≤ 255) (hd2 : 0 ≤ d2 ∧ d2 ≤ 255) (hd3 : 0 ≤ d3 ∧ d3 ≤ 255) (hm : 0 ≤ m ∧ m ≤ 4) (hr : rightB c0 c1 c2 c3 = false ∨ rightB d0 d1 d2 d3 = false) :
    Calls Try.prog 47 #[.agg #[.int .u8 c0, .int .u8 c1, .int .u8 c2, .int .u8 c3], .agg #[.int .u8 d0, .int .u8 d1, .int .u8 d2, .int .u8 d3], .int .i64 m] w fun e w' =>
      e = .returned (.tuple #[.agg #[.int .u8 0, .int .u8 0, .int .u8 0, .int .u8 0], .int .i64 30]) ∧ Ext w w' := by
  obtain ⟨rc, hrc⟩ : ∃ x, rightB c0 c1 c2 c3 = x := ⟨_, rfl⟩
  obtain ⟨rd, hrd⟩ : ∃ x, rightB d0 d1 d2 d3 = x := ⟨_, rfl⟩
  rw [hrc, hrd] at hr
  cases rc
  · go_enter Try.func47, Try.ntmps47
    go_wp2_with fail
    refine (over_any c0 c1 c2 c3 d0 d1 d2 d3 _ hc0 hc1 hc2 hc3 hd0 hd1 hd2 hd3).mono ?_
    rintro e w' ⟨rfl, g, rfl⟩
    go_wp2_with fail
    refine (right_any c0 c1 c2 c3 _).mono ?_
    rintro e w' ⟨rfl, g1, rfl⟩
    go_wp2_with fail
    refine bodyPost_agg4e (by simp [results, Try.results47, go_sem]) rfl rfl rfl rfl rfl (by repeat (first | exact Ext.refl _ | apply Ext.alloc | apply Ext.ext))
  · cases rd
    · go_enter Try.func47, Try.ntmps47
      go_wp2_with fail
      refine (over_any c0 c1 c2 c3 d0 d1 d2 d3 _ hc0 hc1 hc2 hc3 hd0 hd1 hd2 hd3).mono ?_
      rintro e w' ⟨rfl, g, rfl⟩
      go_wp2_with fail
      refine (right_any c0 c1 c2 c3 _).mono ?_
      rintro e w' ⟨rfl, g1, rfl⟩
      go_wp2_with fail
      refine (right_any d0 d1 d2 d3 _).mono ?_
      rintro e w' ⟨rfl, g2, rfl⟩
      go_wp2_with fail
      refine bodyPost_agg4e (by simp [results, Try.results47, go_sem]) rfl rfl rfl rfl rfl (by repeat (first | exact Ext.refl _ | apply Ext.alloc | apply Ext.ext))
    · simp at hr

set_option maxHeartbeats 1600000 in
theorem blend_over (c0 c1 c2 c3 d0 d1 d2 d3 : Int) (w : World) (hc0 : 0 ≤ c0 ∧ c0 ≤ 255) (hc1 : 0 ≤ c1 ∧ c1 ≤ 255) (hc2 : 0 ≤ c2 ∧ c2 ≤ 255) (hc3 : 0 ≤ c3 ∧ c3 ≤ 255) (hd0 : 0 ≤ d0 ∧ d0 ≤ 255) (hd1 : 0 ≤ d1 ∧ d1 ≤ 255) (hd2 : 0 ≤ d2 ∧ d2 ≤ 255) (hd3 : 0 ≤ d3 ∧ d3 ≤ 255) (hrc : rightB c0 c1 c2 c3 = true) (hrd : rightB d0 d1 d2 d3 = true) :
    Calls Try.prog 47 #[.agg #[.int .u8 c0, .int .u8 c1, .int .u8 c2, .int .u8 c3], .agg #[.int .u8 d0, .int .u8 d1, .int .u8 d2, .int .u8 d3], .int .i64 0] w fun e w' =>
      e = .returned (.tuple #[.agg #[.int .u8 (overI c0 c3 d0), .int .u8 (overI c1 c3 d1), .int .u8 (overI c2 c3 d2), .int .u8 (c3 + ofI (255 - c3) d3)], .int .i64 0]) ∧ Ext w w' := by
  go_enter Try.func47, Try.ntmps47
  go_wp2_with fail
  refine (over_any c0 c1 c2 c3 d0 d1 d2 d3 _ hc0 hc1 hc2 hc3 hd0 hd1 hd2 hd3).mono ?_
  rintro e w' ⟨rfl, g, rfl⟩
  go_wp2_with fail
  refine (right_any c0 c1 c2 c3 _).mono ?_
  rintro e w' ⟨rfl, g1, rfl⟩
  go_wp2_with fail
  refine (right_any d0 d1 d2 d3 _).mono ?_
  rintro e w' ⟨rfl, g2, rfl⟩
  go_wp2_with fail
  refine bodyPost_agg4e (by simp [results, Try.results47, go_sem]) rfl rfl rfl rfl rfl (by repeat (first | exact Ext.refl _ | apply Ext.alloc | apply Ext.ext))

set_option maxHeartbeats 3200000 in
theorem blend_mode (c0 c1 c2 c3 d0 d1 d2 d3 m : Int) (w : World) (hc0 : 0 ≤ c0 ∧ c0 ≤ 255) (hc1 : 0 ≤ c1 ∧ c1 ≤ 255) (hc2 : 0 ≤ c2 ∧ c2 ≤ 255) (hc3 : 0 ≤ c3 ∧ c3 ≤ 255) (hd0 : 0 ≤ d0 ∧ d0 ≤ 255) (hd1 : 0 ≤ d1 ∧ d1 ≤ 255) (hd2 : 0 ≤ d2 ∧ d2 ≤ 255) (hd3 : 0 ≤ d3 ∧ d3 ≤ 255) (hm : m = 1 ∨ m = 2 ∨ m = 3 ∨ m = 4) (hrc : rightB c0 c1 c2 c3 = true) (hrd : rightB d0 d1 d2 d3 = true) :
    Calls Try.prog 47 #[.agg #[.int .u8 c0, .int .u8 c1, .int .u8 c2, .int .u8 c3], .agg #[.int .u8 d0, .int .u8 d1, .int .u8 d2, .int .u8 d3], .int .i64 m] w fun e w' =>
      e = .returned (.tuple #[.agg #[.int .u8 (blendI m c0 d0 c3 d3 (c3 + ofI (255 - c3) d3)), .int .u8 (blendI m c1 d1 c3 d3 (c3 + ofI (255 - c3) d3)), .int .u8 (blendI m c2 d2 c3 d3 (c3 + ofI (255 - c3) d3)), .int .u8 (c3 + ofI (255 - c3) d3)], .int .i64 0]) ∧ Ext w w' := by
  have o3 := ofI_bd (a := 255 - c3) (b := d3) (by omega) (by omega) hd3.1 hd3.2
  have n0 := oneI_bd (m := m) hc0 hd0 hc3 hd3
  have n1 := oneI_bd (m := m) hc1 hd1 hc3 hd3
  have n2 := oneI_bd (m := m) hc2 hd2 hc3 hd3
  have m0 : ¬ m < 0 := by omega
  have m4 : ¬ 4 < m := by omega
  have m1 : (m == 0) = false := by simp; omega
  have hm2 : 0 ≤ m ∧ m ≤ 4 := by omega
  have HM := Lib.hid hm
  clear hm
  go_enter Try.func47, Try.ntmps47
  go_wp2_with fail
  refine (over_any c0 c1 c2 c3 d0 d1 d2 d3 _ hc0 hc1 hc2 hc3 hd0 hd1 hd2 hd3).mono ?_
  rintro e w' ⟨rfl, g, rfl⟩
  go_wp2_with fail
  refine (right_any c0 c1 c2 c3 _).mono ?_
  rintro e w' ⟨rfl, g1, rfl⟩
  go_wp2_with fail
  refine (right_any d0 d1 d2 d3 _).mono ?_
  rintro e w' ⟨rfl, g2, rfl⟩
  go_wp2_with fail
  refine wp_loop_rounds 4 ?_
  rw [rounds_succ]
  go_wp2
  refine region_quiet (by kernel_rfl) (by kernel_rfl) ?_
  iterate 17 (go_big_quiet_step (exact calls_ext (one_any _ _ _ _ _ _ HM.out hc0 hd0 hc3 hd3)))
  refine wpQuiet_nil ?_
  rintro _ ⟨g3, rfl⟩
  go_wp2
  rw [rounds_succ]
  go_wp2
  refine region_quiet (by kernel_rfl) (by kernel_rfl) ?_
  iterate 17 (go_big_quiet_step (exact calls_ext (one_any _ _ _ _ _ _ HM.out hc1 hd1 hc3 hd3)))
  refine wpQuiet_nil ?_
  rintro _ ⟨g4, rfl⟩
  go_wp2
  rw [rounds_succ]
  go_wp2
  refine region_quiet (by kernel_rfl) (by kernel_rfl) ?_
  iterate 17 (go_big_quiet_step (exact calls_ext (one_any _ _ _ _ _ _ HM.out hc2 hd2 hc3 hd3)))
  refine wpQuiet_nil ?_
  rintro _ ⟨g5, rfl⟩
  go_wp2
  rw [rounds_succ]
  go_wp2
  refine bodyPost_agg4e (by simp [results, Try.results47, go_sem]; exact ⟨rfl, rfl, rfl⟩) rfl rfl rfl rfl rfl (by repeat (first | exact Ext.refl _ | apply Ext.alloc | apply Ext.ext))
end Go.Proofs.Ytncphiphgkjflaa
