import Derived.Test.YtncphiphgkjflaaIEq
namespace Go.Proofs.Ytncphiphgkjflaa
open Go.RowKit Go.Shelf
set_option linter.unusedVariables false
set_option linter.unusedSimpArgs false

set_option maxRecDepth 100000 in
set_option maxHeartbeats 6400000 in
/-- when the two cannot be told apart -/
theorem diffs_no (W H W' H' : Int) (v1 v2 : Value) (l1 l2 : List Px) (w : World) (hW : -9223372036854775808 ≤ W ∧ W ≤ 9223372036854775807) (hH : -9223372036854775808 ≤ H ∧ H ≤ 9223372036854775807) (hW' : -9223372036854775808 ≤ W' ∧ W' ≤ 9223372036854775807) (hH' : -9223372036854775808 ≤ H' ∧ H' ≤ 9223372036854775807) (hl1 : Pix .u8 w v1 l1) (hl2 : Pix .u8 w v2 l2) (hs1 : l1.length ≤ 400) (hs2 : l2.length ≤ 400) (hno : diffOk W H W' H' l1 l2 = false) :
    Calls Try.prog 5 #[.agg #[.int .i64 W, .int .i64 H, v1], .agg #[.int .i64 W', .int .i64 H', v2]] w fun e w' => e = .returned (.bool true) ∧ Ext w w' := by
  have P1 := Lib.hid hl1
  have P2 := Lib.hid hl2
  obtain ⟨X1, c1, rfl, hc1, hc1', _⟩ := hl1
  obtain ⟨X2, c2, rfl, hc2, hc2', _⟩ := hl2
  obtain ⟨N1, hN1⟩ : ∃ N, l1.length = N := ⟨_, rfl⟩
  obtain ⟨N2, hN2⟩ : ∃ N, l2.length = N := ⟨_, rfl⟩
  rw [hN1] at P1 hc1
  rw [hN2] at P2 hc2
  rw [hN1, hN2]
  have HN1 := Lib.hid hN1
  have HN2 := Lib.hid hN2
  clear hN1 hN2
  have SM1 := Lib.hid (fun wx => small_any W H X1 N1 c1 wx)
  have SM2 := Lib.hid (fun wx => small_any W' H' X2 N2 c2 wx)
  rw [show decide ((N1 : Int) ≤ 400) = true by have := HN1.out; simp; omega] at SM1
  rw [show decide ((N2 : Int) ≤ 400) = true by have := HN2.out; simp; omega] at SM2
  have DF := Lib.hid (fun wx (hx : Ext w wx) => diff_no W H W' H' (.slice X1 N1 c1) (.slice X2 N2 c2) l1 l2 wx hW hH hW' hH' (P1.out.ext hx) (P2.out.ext hx) hno)
  have RF1 := Lib.hid (fun wx (hx : Ext w wx) => ref_any W H (.slice X1 N1 c1) l1 wx (P1.out.ext hx) hs1)
  have RF2 := Lib.hid (fun wx (hx : Ext w wx) => ref_any W' H' (.slice X2 N2 c2) l2 wx (P2.out.ext hx) hs2)
  cases h1 : rightI W H l1 with
  | false =>
    go_enter Try.func5, Try.ntmps5
    go_wp2_with fail
    refine (SM1.out _).mono ?_
    rintro e w1 ⟨rfl, g1, rfl⟩
    go_wp2_with fail
    refine (SM2.out _).mono ?_
    rintro e w2 ⟨rfl, g2, rfl⟩
    go_wp2_with fail
    refine (DF.out _ (by (repeat (first | exact Ext.refl _ | apply Ext.alloc | apply Ext.ext)))).mono ?_
    rintro e w3 ⟨rfl, g3, rfl⟩
    go_wp2_with fail
    refine (RF1.out _ (by (repeat (first | exact Ext.refl _ | apply Ext.alloc | apply Ext.ext)))).mono ?_
    rintro e w4 ⟨v4, rfl, hO4, g4, rfl⟩
    have P4 := Lib.hid hO4.pix
    obtain ⟨A4, c4, rfl⟩ := own_slice hO4.1
    clear hO4
    rw [HN1.out] at P4 ⊢
    have RI4 := refRightImg_any W H (.slice A4 N1 c4) l1 _ hW hH P4.out
    rw [h1] at RI4
    have RI4 := Lib.hid RI4
    go_wp2_with fail
    refine RI4.out.mono ?_
    rintro e w4' ⟨rfl, h4, rfl⟩
    go_wp2_with fail
    refine (awake_any _).mono ?_
    rintro e w9 ⟨rfl, g9, rfl⟩
    go_wp2
    go_ret
    exact ⟨rfl, (by (repeat (first | exact Ext.refl _ | apply Ext.alloc | apply Ext.ext)))⟩
  | true =>
    cases h2 : rightI W' H' l2 with
    | false =>
      go_enter Try.func5, Try.ntmps5
      go_wp2_with fail
      refine (SM1.out _).mono ?_
      rintro e w1 ⟨rfl, g1, rfl⟩
      go_wp2_with fail
      refine (SM2.out _).mono ?_
      rintro e w2 ⟨rfl, g2, rfl⟩
      go_wp2_with fail
      refine (DF.out _ (by (repeat (first | exact Ext.refl _ | apply Ext.alloc | apply Ext.ext)))).mono ?_
      rintro e w3 ⟨rfl, g3, rfl⟩
      go_wp2_with fail
      refine (RF1.out _ (by (repeat (first | exact Ext.refl _ | apply Ext.alloc | apply Ext.ext)))).mono ?_
      rintro e w4 ⟨v4, rfl, hO4, g4, rfl⟩
      have P4 := Lib.hid hO4.pix
      obtain ⟨A4, c4, rfl⟩ := own_slice hO4.1
      clear hO4
      rw [HN1.out] at P4 ⊢
      have RI4 := refRightImg_any W H (.slice A4 N1 c4) l1 _ hW hH P4.out
      rw [h1] at RI4
      have RI4 := Lib.hid RI4
      go_wp2_with fail
      refine RI4.out.mono ?_
      rintro e w4' ⟨rfl, h4, rfl⟩
      go_wp2_with fail
      refine (RF2.out _ (by (repeat (first | exact Ext.refl _ | apply Ext.alloc | apply Ext.ext)))).mono ?_
      rintro e w5 ⟨v5, rfl, hO5, g5, rfl⟩
      have P5 := Lib.hid hO5.pix
      obtain ⟨A5, c5, rfl⟩ := own_slice hO5.1
      clear hO5
      rw [HN2.out] at P5 ⊢
      have RI5 := refRightImg_any W' H' (.slice A5 N2 c5) l2 _ hW' hH' P5.out
      rw [h2] at RI5
      have RI5 := Lib.hid RI5
      go_wp2_with fail
      refine RI5.out.mono ?_
      rintro e w5' ⟨rfl, h5, rfl⟩
      go_wp2_with fail
      refine (awake_any _).mono ?_
      rintro e w9 ⟨rfl, g9, rfl⟩
      go_wp2
      go_ret
      exact ⟨rfl, (by (repeat (first | exact Ext.refl _ | apply Ext.alloc | apply Ext.ext)))⟩
    | true =>
      have hne : ¬ (W = W' ∧ H = H') := by unfold diffOk at hno; rw [h1, h2] at hno; simpa using hno
      rcases (show (¬ W = W') ∨ (W = W' ∧ ¬ H = H') by omega) with hne1 | ⟨rfl, hne1⟩
      · clear hne
        go_enter Try.func5, Try.ntmps5
        go_wp2_with fail
        refine (SM1.out _).mono ?_
        rintro e w1 ⟨rfl, g1, rfl⟩
        go_wp2_with fail
        refine (SM2.out _).mono ?_
        rintro e w2 ⟨rfl, g2, rfl⟩
        go_wp2_with fail
        refine (DF.out _ (by (repeat (first | exact Ext.refl _ | apply Ext.alloc | apply Ext.ext)))).mono ?_
        rintro e w3 ⟨rfl, g3, rfl⟩
        go_wp2_with fail
        refine (RF1.out _ (by (repeat (first | exact Ext.refl _ | apply Ext.alloc | apply Ext.ext)))).mono ?_
        rintro e w4 ⟨v4, rfl, hO4, g4, rfl⟩
        have P4 := Lib.hid hO4.pix
        obtain ⟨A4, c4, rfl⟩ := own_slice hO4.1
        clear hO4
        rw [HN1.out] at P4 ⊢
        have RI4 := refRightImg_any W H (.slice A4 N1 c4) l1 _ hW hH P4.out
        rw [h1] at RI4
        have RI4 := Lib.hid RI4
        go_wp2_with fail
        refine RI4.out.mono ?_
        rintro e w4' ⟨rfl, h4, rfl⟩
        go_wp2_with fail
        refine (RF2.out _ (by (repeat (first | exact Ext.refl _ | apply Ext.alloc | apply Ext.ext)))).mono ?_
        rintro e w5 ⟨v5, rfl, hO5, g5, rfl⟩
        have P5 := Lib.hid hO5.pix
        obtain ⟨A5, c5, rfl⟩ := own_slice hO5.1
        clear hO5
        rw [HN2.out] at P5 ⊢
        have RI5 := refRightImg_any W' H' (.slice A5 N2 c5) l2 _ hW' hH' P5.out
        rw [h2] at RI5
        have RI5 := Lib.hid RI5
        go_wp2_with fail
        refine RI5.out.mono ?_
        rintro e w5' ⟨rfl, h5, rfl⟩
        go_wp2_with fail
        refine (awake_any _).mono ?_
        rintro e w9 ⟨rfl, g9, rfl⟩
        go_wp2
        go_ret
        exact ⟨rfl, (by (repeat (first | exact Ext.refl _ | apply Ext.alloc | apply Ext.ext)))⟩
      · clear hne
        go_enter Try.func5, Try.ntmps5
        go_wp2_with fail
        refine (SM1.out _).mono ?_
        rintro e w1 ⟨rfl, g1, rfl⟩
        go_wp2_with fail
        refine (SM2.out _).mono ?_
        rintro e w2 ⟨rfl, g2, rfl⟩
        go_wp2_with fail
        refine (DF.out _ (by (repeat (first | exact Ext.refl _ | apply Ext.alloc | apply Ext.ext)))).mono ?_
        rintro e w3 ⟨rfl, g3, rfl⟩
        go_wp2_with fail
        refine (RF1.out _ (by (repeat (first | exact Ext.refl _ | apply Ext.alloc | apply Ext.ext)))).mono ?_
        rintro e w4 ⟨v4, rfl, hO4, g4, rfl⟩
        have P4 := Lib.hid hO4.pix
        obtain ⟨A4, c4, rfl⟩ := own_slice hO4.1
        clear hO4
        rw [HN1.out] at P4 ⊢
        have RI4 := refRightImg_any W H (.slice A4 N1 c4) l1 _ hW hH P4.out
        rw [h1] at RI4
        have RI4 := Lib.hid RI4
        go_wp2_with fail
        refine RI4.out.mono ?_
        rintro e w4' ⟨rfl, h4, rfl⟩
        go_wp2_with fail
        refine (RF2.out _ (by (repeat (first | exact Ext.refl _ | apply Ext.alloc | apply Ext.ext)))).mono ?_
        rintro e w5 ⟨v5, rfl, hO5, g5, rfl⟩
        have P5 := Lib.hid hO5.pix
        obtain ⟨A5, c5, rfl⟩ := own_slice hO5.1
        clear hO5
        rw [HN2.out] at P5 ⊢
        have RI5 := refRightImg_any W H' (.slice A5 N2 c5) l2 _ hW hH' P5.out
        rw [h2] at RI5
        have RI5 := Lib.hid RI5
        go_wp2_with fail
        refine RI5.out.mono ?_
        rintro e w5' ⟨rfl, h5, rfl⟩
        go_wp2_with fail
        refine (awake_any _).mono ?_
        rintro e w9 ⟨rfl, g9, rfl⟩
        go_wp2
        go_ret
        exact ⟨rfl, (by (repeat (first | exact Ext.refl _ | apply Ext.alloc | apply Ext.ext)))⟩

end Go.Proofs.Ytncphiphgkjflaa
