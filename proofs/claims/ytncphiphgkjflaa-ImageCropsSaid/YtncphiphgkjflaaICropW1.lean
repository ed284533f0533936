import Derived.Test.YtncphiphgkjflaaIAt
namespace Go.Proofs.Ytncphiphgkjflaa
open Go.RowKit Go.Shelf
set_option linter.unusedVariables false
set_option linter.unusedSimpArgs false

set_option maxRecDepth 100000 in
set_option maxHeartbeats 6400000 in
theorem crops_wrong (W H : Int) (v : Value) (l : List Px) (a0 b0 a1 b1 px py : Int) (w : World) (hW : -9223372036854775808 ≤ W ∧ W ≤ 9223372036854775807) (hH : -9223372036854775808 ≤ H ∧ H ≤ 9223372036854775807) (hl : Pix .u8 w v l) (hn : l.length ≤ 400) (h1 : rightI W H l = false) :
    Calls Try.prog 3 #[.agg #[.int .i64 W, .int .i64 H, v], .agg #[.int .i64 a0, .int .i64 b0, .int .i64 a1, .int .i64 b1], .agg #[.int .i64 px, .int .i64 py]] w fun e w' => e = .returned (.bool true) ∧ Ext w w' := by
  have P := Lib.hid hl
  obtain ⟨X, c, rfl, hc1, hc2, _⟩ := hl
  obtain ⟨N, hN⟩ : ∃ N, l.length = N := ⟨_, rfl⟩
  rw [hN] at P hc1
  rw [hN]
  have HN := Lib.hid hN
  clear hN
  have hn' : N ≤ 400 := by rw [← HN.out]; exact hn
  have SM := Lib.hid (fun wx => small_any W H X N c wx)
  rw [show decide ((N : Int) ≤ 400) = true by simp; omega] at SM
  have RF := Lib.hid (fun wx (hx : Ext w wx) => ref_any W H (.slice X N c) l wx (P.out.ext hx) hn)
  have CN := Lib.hid (fun wx (hx : Ext w wx) => crop_no W H (.slice X N c) l a0 b0 a1 b1 wx hW hH (P.out.ext hx) (by rw [h1]; rfl))
  go_enter Try.func3, Try.ntmps3
  go_wp2_with fail
  refine (SM.out _).mono ?_
  rintro e w1 ⟨rfl, g1, rfl⟩
  go_wp2_with fail
  refine (RF.out _ (by (repeat (first | exact Ext.refl _ | apply Ext.alloc | apply Ext.ext)))).mono ?_
  rintro e w2 ⟨v2, rfl, hO2, g2, rfl⟩
  have P2 := Lib.hid hO2.pix
  obtain ⟨A2, c2, rfl⟩ := own_slice hO2.1
  clear hO2
  rw [HN.out] at P2 ⊢
  have RI := refRightImg_any W H (.slice A2 N c2) l _ hW hH P2.out
  rw [h1] at RI
  have RI := Lib.hid RI
  go_wp2_with fail
  refine RI.out.mono ?_
  rintro e w3 ⟨rfl, g3, rfl⟩
  go_wp2_with fail
  refine (CN.out _ (by (repeat (first | exact Ext.refl _ | apply Ext.alloc | apply Ext.ext)))).mono ?_
  rintro e w4 ⟨rfl, g4, rfl⟩
  go_wp2_with fail
  refine (awake_any _).mono ?_
  rintro e w9 ⟨rfl, g9, rfl⟩
  go_wp2
  go_ret
  exact ⟨rfl, (by (repeat (first | exact Ext.refl _ | apply Ext.alloc | apply Ext.ext)))⟩

end Go.Proofs.Ytncphiphgkjflaa
