/- Chapter 10: faded, parted, straight colours, walked. -/
import Derived.Test.YtncphiphgkjflaaPaintEach
set_option linter.unusedVariables false
set_option linter.unusedSimpArgs false
namespace Go.Proofs.Ytncphiphgkjflaa
open Go.RowKit

set_option maxHeartbeats 1600000 in
theorem fade_any (c0 c1 c2 c3 by_ : Int) (w : World) (hc0 : 0 ≤ c0 ∧ c0 ≤ 255) (hc1 : 0 ≤ c1 ∧ c1 ≤ 255) (hc2 : 0 ≤ c2 ∧ c2 ≤ 255) (hc3 : 0 ≤ c3 ∧ c3 ≤ 255) (hb : 0 ≤ by_ ∧ by_ ≤ 255) :
    Calls Try.prog 46 #[.agg #[.int .u8 c0, .int .u8 c1, .int .u8 c2, .int .u8 c3], .int .u8 by_] w fun e w' =>
      e = .returned (.agg #[.int .u8 (ofI c0 by_), .int .u8 (ofI c1 by_), .int .u8 (ofI c2 by_), .int .u8 (ofI c3 by_)]) ∧ Ext w w' := by
  have hmf : ∀ (fn : Fn) (first cap : Array Value) (w : World), (Instr.makeFunc fn first cap).run Try.prog w = .ok (.func fn first cap) w := fun _ _ _ _ => rfl
  go_enter Try.func46, Try.ntmps46
  go_wp2_with fail
  refine (each32_any c0 c1 c2 c3 _ (.int .u8 by_) (fun n => ofI n by_) _ hc0 hc1 hc2 hc3 (by simp) (by simp [go_sem]) (fun n w' h0 h1 h2 => fadeFn_any n by_ _ w' h0 h1 hb.1 hb.2 h2)
    (fun n h0 h1 => by have := ofI_bd h0 h1 hb.1 hb.2; omega)).mono ?_
  rintro e w' ⟨rfl, g, rfl⟩
  go_wp2
  refine bodyPost_agg4 (by simp [results, Try.results46, go_sem]) rfl rfl rfl rfl rfl (by repeat (first | exact Ext.refl _ | apply Ext.alloc | apply Ext.ext))

set_option maxHeartbeats 1600000 in
theorem refFade_any (c0 c1 c2 c3 by_ : Int) (w : World) (hc0 : 0 ≤ c0 ∧ c0 ≤ 255) (hc1 : 0 ≤ c1 ∧ c1 ≤ 255) (hc2 : 0 ≤ c2 ∧ c2 ≤ 255) (hc3 : 0 ≤ c3 ∧ c3 ≤ 255) (hb : 0 ≤ by_ ∧ by_ ≤ 255) :
    Calls Try.prog 49 #[.agg #[.int .i64 c0, .int .i64 c1, .int .i64 c2, .int .i64 c3], .int .i64 by_] w fun e w' =>
      e = .returned (.agg #[.int .i64 (ofI c0 by_), .int .i64 (ofI c1 by_), .int .i64 (ofI c2 by_), .int .i64 (ofI c3 by_)]) ∧ Ext w w' := by
  go_enter Try.func49, Try.ntmps49
  go_wp2
  refine region_tail 17 (by kernel_rfl) (by kernel_rfl) ?_
  simp only [List.take_succ_cons, List.take_zero, List.drop_succ_cons, List.drop_zero]
  iterate 17 (go_big_quiet_step (exact calls_ext (refOf_any _ _ _ (by omega) (by omega) (by omega) (by omega))))
  refine wpQuiet_nil ?_
  rintro _ ⟨g, rfl⟩
  go_wp2
  refine bodyPost_agg4 (by simp [results, Try.results49, go_sem]) rfl rfl rfl rfl rfl (by repeat (first | exact Ext.refl _ | apply Ext.alloc | apply Ext.ext))

end Go.Proofs.Ytncphiphgkjflaa
