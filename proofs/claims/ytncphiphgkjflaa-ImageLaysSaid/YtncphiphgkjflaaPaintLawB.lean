/- Chapter 10: the laws of Blend, walked. -/
import Derived.Test.YtncphiphgkjflaaPaintRefB1
import Derived.Test.YtncphiphgkjflaaPaintRefB2
import Derived.Test.YtncphiphgkjflaaPaintRefB3
import Derived.Test.YtncphiphgkjflaaPaintRefB4
set_option linter.unusedVariables false
set_option linter.unusedSimpArgs false
namespace Go.Proofs.Ytncphiphgkjflaa
open Go.RowKit

theorem refBlend_mode (c0 c1 c2 c3 d0 d1 d2 d3 m : Int) (w : World) (hc0 : 0 ≤ c0 ∧ c0 ≤ 255) (hc1 : 0 ≤ c1 ∧ c1 ≤ 255) (hc2 : 0 ≤ c2 ∧ c2 ≤ 255) (hc3 : 0 ≤ c3 ∧ c3 ≤ 255) (hd0 : 0 ≤ d0 ∧ d0 ≤ 255) (hd1 : 0 ≤ d1 ∧ d1 ≤ 255) (hd2 : 0 ≤ d2 ∧ d2 ≤ 255) (hd3 : 0 ≤ d3 ∧ d3 ≤ 255) (hm : m = 1 ∨ m = 2 ∨ m = 3 ∨ m = 4) :
    Calls Try.prog 48 #[.agg #[.int .i64 c0, .int .i64 c1, .int .i64 c2, .int .i64 c3], .agg #[.int .i64 d0, .int .i64 d1, .int .i64 d2, .int .i64 d3], .int .i64 m] w fun e w' =>
      e = .returned (.agg #[.int .i64 (blendI m c0 d0 c3 d3 (c3 + ofI (255 - c3) d3)), .int .i64 (blendI m c1 d1 c3 d3 (c3 + ofI (255 - c3) d3)), .int .i64 (blendI m c2 d2 c3 d3 (c3 + ofI (255 - c3) d3)), .int .i64 (c3 + ofI (255 - c3) d3)]) ∧ Ext w w' := by
  rcases hm with rfl | rfl | rfl | rfl
  · exact refBlend_1 c0 c1 c2 c3 d0 d1 d2 d3 w hc0 hc1 hc2 hc3 hd0 hd1 hd2 hd3
  · exact refBlend_2 c0 c1 c2 c3 d0 d1 d2 d3 w hc0 hc1 hc2 hc3 hd0 hd1 hd2 hd3
  · exact refBlend_3 c0 c1 c2 c3 d0 d1 d2 d3 w hc0 hc1 hc2 hc3 hd0 hd1 hd2 hd3
  · exact refBlend_4 c0 c1 c2 c3 d0 d1 d2 d3 w hc0 hc1 hc2 hc3 hd0 hd1 hd2 hd3

theorem blendI_le (m s t a b o : Int) : blendI m s t a b o ≤ o := by unfold blendI; omega

theorem idx23_3' (c0 c1 c2 c3 : Int) (w : World) : (Instr.index 40 (.agg #[.int .u8 c0, .int .u8 c1, .int .u8 c2, .int .u8 c3]) (.int .i64 3)).run Try.prog w = .ok (.int .u8 c3) w := idx23_3 _ _ _ _ w

end Go.Proofs.Ytncphiphgkjflaa
