import Derived.Test.YtblfplkocljlgaaTAwake
namespace Go.Proofs.Ytblfplkocljlgaa
open Go.RowKit Go.ChangeMaps
set_option linter.unusedVariables false
set_option linter.unusedSimpArgs false

theorem meet_empty (k o : KK) (h : k ≠ o) : let m := meetB (tboxB k) (tboxB o); (decide (m.2.2.1 ≤ m.1) || decide (m.2.2.2 ≤ m.2.1)) = true := by
  obtain ⟨x, y⟩ := k
  obtain ⟨u, v⟩ := o
  have hne : x ≠ u ∨ y ≠ v := by
    by_cases hx : x = u
    · exact .inr (fun e => h (by rw [hx, e]))
    · exact .inl hx
  unfold meetB
  split
  · simp
  · rename_i hc
    unfold tboxB at hc
    dsimp only at hc
    split at hc <;> split at hc <;> dsimp only at hc <;> omega

set_option maxRecDepth 100000 in
set_option maxHeartbeats 6400000 in
theorem TileBoxes_walk (x y u v : Int) (w : World) (hx : -9223372036854775808 ≤ x ∧ x ≤ 9223372036854775807) (hy : -9223372036854775808 ≤ y ∧ y ≤ 9223372036854775807) (hu : -9223372036854775808 ≤ u ∧ u ≤ 9223372036854775807) (hv : -9223372036854775808 ≤ v ∧ v ≤ 9223372036854775807) :
    Calls Try.prog 3 #[.agg #[.int .i64 x, .int .i64 y], .agg #[.int .i64 u, .int .i64 v]] w fun e w' => e = .returned (.bool true) ∧ Ext w w' := by
  have CB := Lib.hid (fun wx => tbox_any x y wx)
  have CO := Lib.hid (fun wx => tbox_any u v wx)
  have CR := Lib.hid (fun wx => refRightK_any x y wx)
  have CK := Lib.hid (fun wx => refK_any x y wx)
  have AW := Lib.hid awake_any
  cases hr : rightK (x, y) with
  | false =>
    have e1 : boxV (tboxB (x, y)) = .agg #[.int .i64 0, .int .i64 0, .int .i64 0, .int .i64 0] := by unfold tboxB; rw [hr]; rfl
    rw [e1] at CB
    rw [hr] at CR
    clear hr e1
    go_enter Try.func3, Try.ntmps3
    go_wp2_with fail
    refine (CB.out _).mono ?_
    rintro e w1 ⟨rfl, g1, rfl⟩
    go_wp2_with fail
    refine (CK.out _).mono ?_
    rintro e w1 ⟨rfl, g2, rfl⟩
    go_wp2_with fail
    refine (CR.out _).mono ?_
    rintro e w1 ⟨rfl, g3, rfl⟩
    go_wp2_with fail
    refine (AW.out _).mono ?_
    rintro e w1 ⟨rfl, g4, rfl⟩
    go_wp2
    go_ret
    exact ⟨rfl, by ((repeat (first | exact Ext.refl _ | apply Ext.alloc | apply Ext.drew' | apply Ext.drewN | apply Ext.ext)))⟩
  | true =>
    have e1 : boxV (tboxB (x, y)) = .agg #[.int .i64 (8 * x), .int .i64 (8 * y), .int .i64 (8 * x + 8), .int .i64 (8 * y + 8)] := by unfold tboxB; rw [hr]; rfl
    rw [e1] at CB
    have hr' : rightK (x, y) = true := hr
    unfold rightK at hr'
    simp only [decide_eq_true_eq] at hr'
    obtain ⟨h1, h2, h3, h4⟩ := hr'
    rw [hr] at CR
    obtain ⟨o0, o1, o2, o3, ho⟩ : ∃ a b c d, tboxB (u, v) = (a, b, c, d) := ⟨_, _, _, _, rfl⟩
    rw [ho] at CO
    simp only [boxV] at CO
    have CM := Lib.hid (fun wx => meet_any (8 * x) (8 * y) (8 * x + 8) (8 * y + 8) o0 o1 o2 o3 wx)
    obtain ⟨m0, m1, m2, m3, hm⟩ : ∃ a b c d, meetB (8 * x, 8 * y, 8 * x + 8, 8 * y + 8) (o0, o1, o2, o3) = (a, b, c, d) := ⟨_, _, _, _, rfl⟩
    rw [hm] at CM
    simp only [boxV] at CM
    have CE := Lib.hid (fun wx => emptyBox_any m0 m1 m2 m3 wx)
    have hemp : (x, y) ≠ (u, v) → (decide (m2 ≤ m0) || decide (m3 ≤ m1)) = true := fun hne => by
      have := meet_empty (x, y) (u, v) hne
      rw [show tboxB (x, y) = (8 * x, 8 * y, 8 * x + 8, 8 * y + 8) by unfold tboxB; rw [hr]; rfl, ho, hm] at this
      exact this
    clear hr e1 ho hm
    by_cases hxu : x = u
    · by_cases hyv : y = v
      · subst hxu hyv
        clear hemp
        go_enter Try.func3, Try.ntmps3
        go_wp2_with fail
        refine (CB.out _).mono ?_
        rintro e w1 ⟨rfl, g1, rfl⟩
        go_wp2_with fail
        refine (CK.out _).mono ?_
        rintro e w1 ⟨rfl, g2, rfl⟩
        go_wp2_with fail
        refine (CR.out _).mono ?_
        rintro e w1 ⟨rfl, g3, rfl⟩
        go_wp2
        refine region_quiet (by kernel_rfl) (by kernel_rfl) ?_
        iterate 33 (go_big_quiet_step (first | exact calls_ext (CO.out _) | exact calls_ext (CM.out _) | exact calls_ext (CE.out _) | exact calls_ext (AW.out _)))
        refine wpQuiet_nil ?_
        rintro _ ⟨g7, rfl⟩
        go_wp2
        go_ret
        exact ⟨rfl, by ((repeat (first | exact Ext.refl _ | apply Ext.alloc | apply Ext.drew' | apply Ext.drewN | apply Ext.ext)))⟩
      · rw [hemp (fun e => hyv (by simpa using congrArg Prod.snd e))] at CE
        subst hxu
        clear hemp
        go_enter Try.func3, Try.ntmps3
        go_wp2_with fail
        refine (CB.out _).mono ?_
        rintro e w1 ⟨rfl, g1, rfl⟩
        go_wp2_with fail
        refine (CK.out _).mono ?_
        rintro e w1 ⟨rfl, g2, rfl⟩
        go_wp2_with fail
        refine (CR.out _).mono ?_
        rintro e w1 ⟨rfl, g3, rfl⟩
        go_wp2
        refine region_quiet (by kernel_rfl) (by kernel_rfl) ?_
        iterate 33 (go_big_quiet_step (first | exact calls_ext (CO.out _) | exact calls_ext (CM.out _) | exact calls_ext (CE.out _) | exact calls_ext (AW.out _)))
        refine wpQuiet_nil ?_
        rintro _ ⟨g7, rfl⟩
        go_wp2
        go_ret
        exact ⟨rfl, by ((repeat (first | exact Ext.refl _ | apply Ext.alloc | apply Ext.drew' | apply Ext.drewN | apply Ext.ext)))⟩
    · rw [hemp (fun e => hxu (by simpa using congrArg Prod.fst e))] at CE
      clear hemp
      go_enter Try.func3, Try.ntmps3
      go_wp2_with fail
      refine (CB.out _).mono ?_
      rintro e w1 ⟨rfl, g1, rfl⟩
      go_wp2_with fail
      refine (CK.out _).mono ?_
      rintro e w1 ⟨rfl, g2, rfl⟩
      go_wp2_with fail
      refine (CR.out _).mono ?_
      rintro e w1 ⟨rfl, g3, rfl⟩
      go_wp2
      refine region_quiet (by kernel_rfl) (by kernel_rfl) ?_
      iterate 33 (go_big_quiet_step (first | exact calls_ext (CO.out _) | exact calls_ext (CM.out _) | exact calls_ext (CE.out _) | exact calls_ext (AW.out _)))
      refine wpQuiet_nil ?_
      rintro _ ⟨g7, rfl⟩
      go_wp2
      go_ret
      exact ⟨rfl, by ((repeat (first | exact Ext.refl _ | apply Ext.alloc | apply Ext.drew' | apply Ext.drewN | apply Ext.ext)))⟩

end Go.Proofs.Ytblfplkocljlgaa
