import Derived.Test.YtblfplkocljlgaaTImgA
namespace Go.Proofs.Ytblfplkocljlgaa
open Go.RowKit
set_option linter.unusedVariables false
set_option linter.unusedSimpArgs false

/-- a box that both have -/
def meetB (a b : Int × Int × Int × Int) : Int × Int × Int × Int :=
  if min a.2.2.1 b.2.2.1 ≤ max a.1 b.1 ∨ min a.2.2.2 b.2.2.2 ≤ max a.2.1 b.2.1 then (0, 0, 0, 0) else (max a.1 b.1, max a.2.1 b.2.1, min a.2.2.1 b.2.2.1, min a.2.2.2 b.2.2.2)
def boxV (a : Int × Int × Int × Int) : Value := .agg #[.int .i64 a.1, .int .i64 a.2.1, .int .i64 a.2.2.1, .int .i64 a.2.2.2]

set_option maxHeartbeats 1600000 in
theorem meet_any (a0 b0 a1 b1 c0 d0 c1 d1 : Int) (w : World) :
    Calls Try.prog 12 #[.agg #[.int .i64 a0, .int .i64 b0, .int .i64 a1, .int .i64 b1], .agg #[.int .i64 c0, .int .i64 d0, .int .i64 c1, .int .i64 d1]] w fun e w' =>
      e = .returned (boxV (meetB (a0, b0, a1, b1) (c0, d0, c1, d1))) ∧ Ext w w' := by
  have C := Lib.hid (fun wx => emptyBox_any (max a0 c0) (max b0 d0) (min a1 c1) (min b1 d1) wx)
  by_cases h : min a1 c1 ≤ max a0 c0 ∨ min b1 d1 ≤ max b0 d0
  · have hb : (decide (min a1 c1 ≤ max a0 c0) || decide (min b1 d1 ≤ max b0 d0)) = true := by simpa using h
    rw [hb] at C
    have hm : boxV (meetB (a0, b0, a1, b1) (c0, d0, c1, d1)) = .agg #[.int .i64 0, .int .i64 0, .int .i64 0, .int .i64 0] := by
      unfold meetB; rw [if_pos h]; rfl
    rw [hm]
    clear h hb hm
    go_enter Try.func12, Try.ntmps12
    go_wp2_with fail
    refine (C.out _).mono ?_
    rintro e w1 ⟨rfl, g1, rfl⟩
    go_wp2
    exact bodyPost_ret (v := .agg #[.int .i64 0, .int .i64 0, .int .i64 0, .int .i64 0]) (by simp [results, Try.results12, go_sem]) rfl ⟨rfl, by ((repeat (first | exact Ext.refl _ | apply Ext.alloc | apply Ext.drew' | apply Ext.drewN | apply Ext.ext)))⟩
  · have hb : (decide (min a1 c1 ≤ max a0 c0) || decide (min b1 d1 ≤ max b0 d0)) = false := by
      rw [← Bool.decide_or]; exact decide_eq_false h
    rw [hb] at C
    have hm : boxV (meetB (a0, b0, a1, b1) (c0, d0, c1, d1)) = .agg #[.int .i64 (max a0 c0), .int .i64 (max b0 d0), .int .i64 (min a1 c1), .int .i64 (min b1 d1)] := by
      unfold meetB; rw [if_neg h]; rfl
    rw [hm]
    clear h hb hm
    go_enter Try.func12, Try.ntmps12
    go_wp2_with fail
    refine (C.out _).mono ?_
    rintro e w1 ⟨rfl, g1, rfl⟩
    go_wp2
    exact bodyPost_ret (v := .agg #[.int .i64 (max a0 c0), .int .i64 (max b0 d0), .int .i64 (min a1 c1), .int .i64 (min b1 d1)]) (by simp [results, Try.results12, go_sem]) rfl ⟨rfl, by ((repeat (first | exact Ext.refl _ | apply Ext.alloc | apply Ext.drew' | apply Ext.drewN | apply Ext.ext)))⟩

theorem eqC (w : World) (a0 a1 a2 a3 b0 b1 b2 b3 : Int) : (Op.equalIn 10000 68 (.agg #[.int .u8 a0, .int .u8 a1, .int .u8 a2, .int .u8 a3]) (.agg #[.int .u8 b0, .int .u8 b1, .int .u8 b2, .int .u8 b3])).run Try.prog w = .ok (a0 == b0 && (a1 == b1 && (a2 == b2 && a3 == b3))) w :=
  run_equalIn_arr4 w 9998 68 5 .u8 _ _ _ _ _ _ _ _ (by kernel_rfl) (by kernel_rfl) (fun _ => by kernel_rfl) (fun _ => by kernel_rfl)
attribute [go_sem] eqC

end Go.Proofs.Ytblfplkocljlgaa
