import Derived.Test.YtncphiphgkjflaaIDiffX
namespace Go.Proofs.Ytncphiphgkjflaa
open Go.RowKit Go.Shelf
set_option linter.unusedVariables false
set_option linter.unusedSimpArgs false

set_option maxRecDepth 100000 in
set_option maxHeartbeats 3200000 in
theorem ImageDiffs_walk (W H : Int) (v1 : Value) (l1 : List Px) (W' H' : Int) (v2 : Value) (l2 : List Px) (w : World) (hW : -9223372036854775808 ≤ W ∧ W ≤ 9223372036854775807) (hH : -9223372036854775808 ≤ H ∧ H ≤ 9223372036854775807) (hl1 : Pix .u8 w v1 l1) (hW' : -9223372036854775808 ≤ W' ∧ W' ≤ 9223372036854775807) (hH' : -9223372036854775808 ≤ H' ∧ H' ≤ 9223372036854775807) (hl2 : Pix .u8 w v2 l2) :
    Calls Try.prog 5 #[.agg #[.int .i64 W, .int .i64 H, v1], .agg #[.int .i64 W', .int .i64 H', v2]] w fun e w' => e = .returned (.bool true) ∧ Ext w w' := by
  by_cases hs : l1.length ≤ 400 ∧ l2.length ≤ 400
  · cases hd : diffOk W H W' H' l1 l2 with
    | false => exact diffs_no W H W' H' v1 v2 l1 l2 w hW hH hW' hH' hl1 hl2 hs.1 hs.2 hd
    | true =>
      have h := hd
      unfold diffOk at h
      simp only [Bool.and_eq_true, decide_eq_true_eq] at h
      obtain ⟨⟨h1, h2⟩, rfl, rfl⟩ := h
      have hb : (1 ≤ W ∧ W ≤ 256) ∧ (1 ≤ H ∧ H ≤ 256) := by
        have a := h1
        unfold rightI at a
        simp only [Bool.and_eq_true] at a
        have b := a.1.1.1
        have c := a.1.1.2
        simp only [sideB, decide_eq_true_eq] at b c
        exact ⟨b, c⟩
      obtain ⟨WN, rfl⟩ : ∃ n : Nat, W = (n : Int) := ⟨W.toNat, by omega⟩
      obtain ⟨HN, rfl⟩ : ∃ n : Nat, H = (n : Int) := ⟨H.toNat, by omega⟩
      exact diffs_yes WN HN v1 v2 l1 l2 w hl1 hl2 hs.1 hs.2 h1 h2
  · obtain ⟨X1, c1, rfl, hc1, hc1', _⟩ := hl1
    obtain ⟨X2, c2, rfl, hc2, hc2', _⟩ := hl2
    obtain ⟨N1, hN1⟩ : ∃ N, l1.length = N := ⟨_, rfl⟩
    obtain ⟨N2, hN2⟩ : ∃ N, l2.length = N := ⟨_, rfl⟩
    rw [hN1, hN2] at hs
    rw [hN1, hN2]
    have SM1 := Lib.hid (fun wx => small_any W H X1 N1 c1 wx)
    have SM2 := Lib.hid (fun wx => small_any W' H' X2 N2 c2 wx)
    by_cases h1 : N1 ≤ 400
    · rw [show decide ((N1 : Int) ≤ 400) = true by simp; omega] at SM1
      rw [show decide ((N2 : Int) ≤ 400) = false by simp; omega] at SM2
      go_enter Try.func5, Try.ntmps5
      go_wp2_with fail
      refine (SM1.out _).mono ?_
      rintro e w1 ⟨rfl, g1, rfl⟩
      go_wp2_with fail
      refine (SM2.out _).mono ?_
      rintro e w2 ⟨rfl, g2, rfl⟩
      go_wp2_with fail
      refine (awake_any _).mono ?_
      rintro e w3 ⟨rfl, g3, rfl⟩
      go_wp2
      go_ret
      exact ⟨rfl, (by (repeat (first | exact Ext.refl _ | apply Ext.alloc | apply Ext.ext)))⟩
    · rw [show decide ((N1 : Int) ≤ 400) = false by simp; omega] at SM1
      go_enter Try.func5, Try.ntmps5
      go_wp2_with fail
      refine (SM1.out _).mono ?_
      rintro e w1 ⟨rfl, g1, rfl⟩
      go_wp2_with fail
      refine (awake_any _).mono ?_
      rintro e w3 ⟨rfl, g3, rfl⟩
      go_wp2
      go_ret
      exact ⟨rfl, (by (repeat (first | exact Ext.refl _ | apply Ext.alloc | apply Ext.ext)))⟩
end Go.Proofs.Ytncphiphgkjflaa
