import Derived.Test.YtblfplkocljlgaaTNum
namespace Go.Proofs.Ytblfplkocljlgaa
open Go.RowKit
set_option linter.unusedVariables false
set_option linter.unusedSimpArgs false

/-- may a window be drawn? -/
def winB (b : Int × Int × Int × Int) : Bool :=
  decide (b.1 < b.2.2.1 ∧ b.2.1 < b.2.2.2 ∧ -4194304 ≤ b.1 ∧ -4194304 ≤ b.2.1 ∧ b.2.2.1 ≤ 4194304 ∧ b.2.2.2 ≤ 4194304 ∧ b.2.2.1 - b.1 ≤ 256 ∧ b.2.2.2 - b.2.1 ≤ 256)
def inB (b : Int × Int × Int × Int) : Prop := (-9223372036854775808 ≤ b.1 ∧ b.1 ≤ 9223372036854775807) ∧ (-9223372036854775808 ≤ b.2.1 ∧ b.2.1 ≤ 9223372036854775807) ∧ (-9223372036854775808 ≤ b.2.2.1 ∧ b.2.2.1 ≤ 9223372036854775807) ∧ (-9223372036854775808 ≤ b.2.2.2 ∧ b.2.2.2 ≤ 9223372036854775807)

theorem winB_iff (x0 y0 x1 y1 : Int) : winB (x0, y0, x1, y1) = true ↔ (x0 < x1 ∧ y0 < y1 ∧ -4194304 ≤ x0 ∧ -4194304 ≤ y0 ∧ x1 ≤ 4194304 ∧ y1 ≤ 4194304 ∧ x1 - x0 ≤ 256 ∧ y1 - y0 ≤ 256) := by unfold winB; simp only [decide_eq_true_eq]

set_option maxHeartbeats 3200000 in
theorem size_yes (x0 y0 x1 y1 : Int) (w : World) (h : winB (x0, y0, x1, y1) = true) :
    Calls Try.prog 31 #[.agg #[.int .i64 x0, .int .i64 y0, .int .i64 x1, .int .i64 y1]] w fun e w' => e = .returned (.tuple #[.int .i64 (x1 - x0), .int .i64 (y1 - y0), .bool true]) ∧ Ext w w' := by
  have C := Lib.hid (fun wx => emptyBox_any x0 y0 x1 y1 wx)
  obtain ⟨h1, h2, h3, h4, h5, h6, h7, h8⟩ := (winB_iff _ _ _ _).1 h
  have hb : (decide (x1 ≤ x0) || decide (y1 ≤ y0)) = false := by simp; omega
  rw [hb] at C
  have m1 : -4194304 ≤ min x0 y0 := by omega
  have m2 : max x1 y1 ≤ 4194304 := by omega
  clear h hb
  go_enter Try.func31, Try.ntmps31
  go_wp2_with fail
  refine (C.out _).mono ?_
  rintro e w1 ⟨rfl, g1, rfl⟩
  go_wp2
  refine region_quiet (by kernel_rfl) (by kernel_rfl) ?_
  iterate 12 (go_big_quiet_step (fail))
  refine wpQuiet_nil ?_
  rintro _ ⟨g2, rfl⟩
  go_wp2
  exact bodyPost_ret (v := .tuple #[.int .i64 (x1 - x0), .int .i64 (y1 - y0), .bool true]) (by simp [results, Try.results31, go_sem]) rfl ⟨rfl, by ((repeat (first | exact Ext.refl _ | apply Ext.alloc | apply Ext.drew' | apply Ext.drewN | apply Ext.ext)))⟩

set_option maxHeartbeats 3200000 in
theorem size_no (x0 y0 x1 y1 : Int) (w : World) (hb : inB (x0, y0, x1, y1)) (h : winB (x0, y0, x1, y1) = false) :
    Calls Try.prog 31 #[.agg #[.int .i64 x0, .int .i64 y0, .int .i64 x1, .int .i64 y1]] w fun e w' => e = .returned (.tuple #[.int .i64 0, .int .i64 0, .bool false]) ∧ Ext w w' := by
  have C := Lib.hid (fun wx => emptyBox_any x0 y0 x1 y1 wx)
  have hw : ¬ (x0 < x1 ∧ y0 < y1 ∧ -4194304 ≤ x0 ∧ -4194304 ≤ y0 ∧ x1 ≤ 4194304 ∧ y1 ≤ 4194304 ∧ x1 - x0 ≤ 256 ∧ y1 - y0 ≤ 256) := fun e => by rw [(winB_iff _ _ _ _).2 e] at h; cases h
  simp only [inB] at hb
  clear h
  by_cases h1 : x1 ≤ x0 ∨ y1 ≤ y0
  · have hb : (decide (x1 ≤ x0) || decide (y1 ≤ y0)) = true := by simpa using h1
    rw [hb] at C
    clear hw h1
    go_enter Try.func31, Try.ntmps31
    go_wp2_with fail
    refine (C.out _).mono ?_
    rintro e w1 ⟨rfl, g1, rfl⟩
    go_wp2
    exact bodyPost_ret (v := .tuple #[.int .i64 0, .int .i64 0, .bool false]) (by simp [results, Try.results31, go_sem]) rfl ⟨rfl, by ((repeat (first | exact Ext.refl _ | apply Ext.alloc | apply Ext.drew' | apply Ext.drewN | apply Ext.ext)))⟩
  · have hb' : (decide (x1 ≤ x0) || decide (y1 ≤ y0)) = false := by simp; omega
    rw [hb'] at C
    by_cases h2 : -4194304 ≤ min x0 y0
    · by_cases h3 : max x1 y1 ≤ 4194304
      · have r1 : 0 < x1 - x0 ∧ x1 - x0 ≤ 8388608 := by omega
        have r2 : 0 < y1 - y0 ∧ y1 - y0 ≤ 8388608 := by omega
        by_cases h4 : x1 - x0 ≤ 256
        · have h5 : ¬ y1 - y0 ≤ 256 := by omega
          clear hw h1 hb'
          go_enter Try.func31, Try.ntmps31
          go_wp2_with fail
          refine (C.out _).mono ?_
          rintro e w1 ⟨rfl, g1, rfl⟩
          go_wp2
          refine region_quiet (by kernel_rfl) (by kernel_rfl) ?_
          iterate 12 (go_big_quiet_step (fail))
          refine wpQuiet_nil ?_
          rintro _ ⟨g2, rfl⟩
          go_wp2
          exact bodyPost_ret (v := .tuple #[.int .i64 0, .int .i64 0, .bool false]) (by simp [results, Try.results31, go_sem]) rfl ⟨rfl, by ((repeat (first | exact Ext.refl _ | apply Ext.alloc | apply Ext.drew' | apply Ext.drewN | apply Ext.ext)))⟩
        · clear hw h1 hb'
          go_enter Try.func31, Try.ntmps31
          go_wp2_with fail
          refine (C.out _).mono ?_
          rintro e w1 ⟨rfl, g1, rfl⟩
          go_wp2
          refine region_quiet (by kernel_rfl) (by kernel_rfl) ?_
          iterate 12 (go_big_quiet_step (fail))
          refine wpQuiet_nil ?_
          rintro _ ⟨g2, rfl⟩
          go_wp2
          exact bodyPost_ret (v := .tuple #[.int .i64 0, .int .i64 0, .bool false]) (by simp [results, Try.results31, go_sem]) rfl ⟨rfl, by ((repeat (first | exact Ext.refl _ | apply Ext.alloc | apply Ext.drew' | apply Ext.drewN | apply Ext.ext)))⟩
      · clear hw h1 hb'
        go_enter Try.func31, Try.ntmps31
        go_wp2_with fail
        refine (C.out _).mono ?_
        rintro e w1 ⟨rfl, g1, rfl⟩
        go_wp2
        exact bodyPost_ret (v := .tuple #[.int .i64 0, .int .i64 0, .bool false]) (by simp [results, Try.results31, go_sem]) rfl ⟨rfl, by ((repeat (first | exact Ext.refl _ | apply Ext.alloc | apply Ext.drew' | apply Ext.drewN | apply Ext.ext)))⟩
    · clear hw h1 hb'
      go_enter Try.func31, Try.ntmps31
      go_wp2_with fail
      refine (C.out _).mono ?_
      rintro e w1 ⟨rfl, g1, rfl⟩
      go_wp2
      exact bodyPost_ret (v := .tuple #[.int .i64 0, .int .i64 0, .bool false]) (by simp [results, Try.results31, go_sem]) rfl ⟨rfl, by ((repeat (first | exact Ext.refl _ | apply Ext.alloc | apply Ext.drew' | apply Ext.drewN | apply Ext.ext)))⟩

set_option maxHeartbeats 6400000 in
theorem window_any (x0 y0 x1 y1 : Int) (w : World) (hb : inB (x0, y0, x1, y1)) :
    Calls Try.prog 15 #[.int .i64 x0, .int .i64 y0, .int .i64 x1, .int .i64 y1] w fun e w' => e = .returned (.bool (winB (x0, y0, x1, y1))) ∧ Ext w w' := by
  simp only [inB] at hb
  by_cases h1 : x1 ≤ x0
  · go_enter Try.func15, Try.ntmps15
    go_wp2
    go_ret
    exact ⟨ret_bool (by unfold winB; simp; omega), Ext.refl w⟩
  by_cases h2 : y1 ≤ y0
  · go_enter Try.func15, Try.ntmps15
    go_wp2
    go_ret
    exact ⟨ret_bool (by unfold winB; simp; omega), Ext.refl w⟩
  by_cases h3 : x0 < -4194304
  · go_enter Try.func15, Try.ntmps15
    go_wp2
    go_ret
    exact ⟨ret_bool (by unfold winB; simp; omega), Ext.refl w⟩
  by_cases h4 : y0 < -4194304
  · go_enter Try.func15, Try.ntmps15
    go_wp2
    go_ret
    exact ⟨ret_bool (by unfold winB; simp; omega), Ext.refl w⟩
  by_cases h5 : 4194304 < x1
  · go_enter Try.func15, Try.ntmps15
    go_wp2
    go_ret
    exact ⟨ret_bool (by unfold winB; simp; omega), Ext.refl w⟩
  by_cases h6 : 4194304 < y1
  · go_enter Try.func15, Try.ntmps15
    go_wp2
    go_ret
    exact ⟨ret_bool (by unfold winB; simp; omega), Ext.refl w⟩
  have r1 : 0 < x1 - x0 ∧ x1 - x0 ≤ 8388608 := by omega
  have r2 : 0 < y1 - y0 ∧ y1 - y0 ≤ 8388608 := by omega
  by_cases h7 : x1 - x0 ≤ 256
  · go_enter Try.func15, Try.ntmps15
    go_wp2
    go_ret
    exact ⟨ret_bool (by unfold winB; rw [decide_eq_decide]; dsimp only; omega), Ext.refl w⟩
  · go_enter Try.func15, Try.ntmps15
    go_wp2
    go_ret
    exact ⟨ret_bool (by unfold winB; simp; omega), Ext.refl w⟩

set_option maxHeartbeats 1600000 in
theorem below8_any (x : Int) (w : World) (h : -1000000000 ≤ x ∧ x ≤ 1000000000) :
    Calls Try.prog 32 #[.int .i64 x, .int .i64 8] w fun e w' => e = .returned (.int .i64 (x / 8)) ∧ Ext w w' := by
  obtain ⟨q, hq⟩ : ∃ q, Int.tdiv x 8 = q := ⟨_, rfl⟩
  have hq2 : (0 ≤ x → q = x / 8) ∧ (x < 0 → q = -((-x) / 8)) := by
    subst hq
    refine ⟨fun h0 => Int.tdiv_eq_ediv_of_nonneg h0, fun h0 => ?_⟩
    have := Int.neg_tdiv (-x) 8
    rw [Int.neg_neg] at this
    rw [this, Int.tdiv_eq_ediv_of_nonneg (by omega)]
  by_cases hc : x < q * 8
  · have hr : x / 8 = q - 1 := by
      rcases Int.lt_or_le x 0 with h0 | h0
      · have := hq2.2 h0; omega
      · have := hq2.1 h0; omega
    rw [hr]
    have hb : -200000000 ≤ q ∧ q ≤ 200000000 := by
      rcases Int.lt_or_le x 0 with h0 | h0
      · have := hq2.2 h0; omega
      · have := hq2.1 h0; omega
    clear hr hq2
    go_enter Try.func32, Try.ntmps32
    go_wp2
    go_ret
    exact ⟨rfl, Ext.refl w⟩
  · have hr : x / 8 = q := by
      rcases Int.lt_or_le x 0 with h0 | h0
      · have := hq2.2 h0; omega
      · have := hq2.1 h0; omega
    rw [hr]
    have hb : -200000000 ≤ q ∧ q ≤ 200000000 := by
      rcases Int.lt_or_le x 0 with h0 | h0
      · have := hq2.2 h0; omega
      · have := hq2.1 h0; omega
    clear hr hq2
    go_enter Try.func32, Try.ntmps32
    go_wp2
    go_ret
    exact ⟨rfl, Ext.refl w⟩

set_option maxHeartbeats 1600000 in
theorem of8_any (x y : Int) (w : World) (h : -1000000000 ≤ x ∧ x ≤ 1000000000) (h' : -1000000000 ≤ y ∧ y ≤ 1000000000) :
    Calls Try.prog 16 #[.int .i64 x, .int .i64 y] w fun e w' => e = .returned (.agg #[.int .i64 (x / 8), .int .i64 (y / 8)]) ∧ Ext w w' := by
  have C := Lib.hid (fun wx => below8_any x wx h)
  have D := Lib.hid (fun wx => below8_any y wx h')
  obtain ⟨p, hp⟩ : ∃ p, x / 8 = p := ⟨_, rfl⟩
  obtain ⟨q, hq⟩ : ∃ p, y / 8 = p := ⟨_, rfl⟩
  rw [hp] at C ⊢
  rw [hq] at D ⊢
  clear hp hq
  go_enter Try.func16, Try.ntmps16
  go_wp2_with fail
  refine (C.out _).mono ?_
  rintro e w1 ⟨rfl, g1, rfl⟩
  go_wp2_with fail
  refine (D.out _).mono ?_
  rintro e w1 ⟨rfl, g2, rfl⟩
  go_wp2
  exact bodyPost_ret (v := .agg #[.int .i64 p, .int .i64 q]) (by simp [results, Try.results16, go_sem]) rfl ⟨rfl, by ((repeat (first | exact Ext.refl _ | apply Ext.alloc | apply Ext.drew' | apply Ext.drewN | apply Ext.ext)))⟩

def hasB (a : Int × Int × Int × Int) (x y : Int) : Bool := decide (a.1 ≤ x ∧ x < a.2.2.1 ∧ a.2.1 ≤ y ∧ y < a.2.2.2)

set_option maxHeartbeats 1600000 in
theorem has_any (a0 b0 a1 b1 x y : Int) (w : World) :
    Calls Try.prog 17 #[.agg #[.int .i64 a0, .int .i64 b0, .int .i64 a1, .int .i64 b1], .agg #[.int .i64 x, .int .i64 y]] w fun e w' => e = .returned (.bool (hasB (a0, b0, a1, b1) x y)) ∧ Ext w w' := by
  rcases (show (¬ a0 ≤ x) ∨ (a0 ≤ x ∧ ¬ x < a1) ∨ (a0 ≤ x ∧ x < a1 ∧ ¬ b0 ≤ y) ∨ (a0 ≤ x ∧ x < a1 ∧ b0 ≤ y ∧ ¬ y < b1) ∨ (a0 ≤ x ∧ x < a1 ∧ b0 ≤ y ∧ y < b1) by omega) with h1 | ⟨h1, h2⟩ | ⟨h1, h2, h3⟩ | ⟨h1, h2, h3, h4⟩ | ⟨h1, h2, h3, h4⟩
  all_goals (
    go_enter Try.func17, Try.ntmps17
    go_wp2
    go_ret
    exact ⟨ret_bool (by unfold hasB; simp; omega), by ((repeat (first | exact Ext.refl _ | apply Ext.alloc)))⟩)

end Go.Proofs.Ytblfplkocljlgaa
