/- Chapter 10: faded, parted, straight colours, walked. -/
import Derived.Test.YtnginblfdamfbaaPaintEach
set_option linter.unusedVariables false
set_option linter.unusedSimpArgs false
namespace Go.Proofs.Ytnginblfdamfbaa
open Go.RowKit

set_option maxHeartbeats 1600000 in
theorem fade_any (c0 c1 c2 c3 by_ : Int) (w : World) (hc0 : 0 ≤ c0 ∧ c0 ≤ 255) (hc1 : 0 ≤ c1 ∧ c1 ≤ 255) (hc2 : 0 ≤ c2 ∧ c2 ≤ 255) (hc3 : 0 ≤ c3 ∧ c3 ≤ 255) (hb : 0 ≤ by_ ∧ by_ ≤ 255) :
    Calls Try.prog 16 #[.agg #[.int .u8 c0, .int .u8 c1, .int .u8 c2, .int .u8 c3], .int .u8 by_] w fun e w' =>
      e = .returned (.agg #[.int .u8 (ofI c0 by_), .int .u8 (ofI c1 by_), .int .u8 (ofI c2 by_), .int .u8 (ofI c3 by_)]) ∧ Ext w w' := by
  have hmf : ∀ (fn : Fn) (first cap : Array Value) (w : World), (Instr.makeFunc fn first cap).run Try.prog w = .ok (.func fn first cap) w := fun _ _ _ _ => rfl
  go_enter Try.func16, Try.ntmps16
  go_wp2_with fail
  refine (each32_any c0 c1 c2 c3 _ (.int .u8 by_) (fun n => ofI n by_) _ hc0 hc1 hc2 hc3 (by simp) (by simp [go_sem]) (fun n w' h0 h1 h2 => fadeFn_any n by_ _ w' h0 h1 hb.1 hb.2 h2)
    (fun n h0 h1 => by have := ofI_bd h0 h1 hb.1 hb.2; omega)).mono ?_
  rintro e w' ⟨rfl, g, rfl⟩
  go_wp2
  refine bodyPost_agg4 (by simp [results, Try.results16, go_sem]) rfl rfl rfl rfl rfl (by repeat (first | exact Ext.refl _ | apply Ext.alloc | apply Ext.ext))

set_option maxHeartbeats 1600000 in
theorem part_any (c0 c1 c2 c3 n : Int) (w : World) (hc0 : 0 ≤ c0 ∧ c0 ≤ 255) (hc1 : 0 ≤ c1 ∧ c1 ≤ 255) (hc2 : 0 ≤ c2 ∧ c2 ≤ 255) (hc3 : 0 ≤ c3 ∧ c3 ≤ 255) :
    Calls Try.prog 17 #[.agg #[.int .u8 c0, .int .u8 c1, .int .u8 c2, .int .u8 c3], .int .i64 n] w fun e w' =>
      e = .returned (.agg #[.int .u8 (partI c0 (min (max n 0) 16)), .int .u8 (partI c1 (min (max n 0) 16)), .int .u8 (partI c2 (min (max n 0) 16)), .int .u8 (partI c3 (min (max n 0) 16))]) ∧ Ext w w' := by
  have hmf : ∀ (fn : Fn) (first cap : Array Value) (w : World), (Instr.makeFunc fn first cap).run Try.prog w = .ok (.func fn first cap) w := fun _ _ _ _ => rfl
  go_enter Try.func17, Try.ntmps17
  go_wp2_with fail
  refine (each33_any c0 c1 c2 c3 _ (.int .i64 (min (max n 0) 16)) (fun x => partI x (min (max n 0) 16)) _ hc0 hc1 hc2 hc3 (by simp) (by simp [go_sem]) (fun x w' h0 h1 h2 => partFn_any x _ _ w' h0 h1 (by omega) (by omega) h2)
    (fun x h0 h1 => by have := partI_bd (x := x) (n := min (max n 0) 16) ⟨h0, h1⟩ (by omega); omega)).mono ?_
  rintro e w' ⟨rfl, g, rfl⟩
  go_wp2
  refine bodyPost_agg4 (by simp [results, Try.results17, go_sem]) rfl rfl rfl rfl rfl (by repeat (first | exact Ext.refl _ | apply Ext.alloc | apply Ext.ext))

set_option maxHeartbeats 1600000 in
theorem refFade_any (c0 c1 c2 c3 by_ : Int) (w : World) (hc0 : 0 ≤ c0 ∧ c0 ≤ 255) (hc1 : 0 ≤ c1 ∧ c1 ≤ 255) (hc2 : 0 ≤ c2 ∧ c2 ≤ 255) (hc3 : 0 ≤ c3 ∧ c3 ≤ 255) (hb : 0 ≤ by_ ∧ by_ ≤ 255) :
    Calls Try.prog 18 #[.agg #[.int .i64 c0, .int .i64 c1, .int .i64 c2, .int .i64 c3], .int .i64 by_] w fun e w' =>
      e = .returned (.agg #[.int .i64 (ofI c0 by_), .int .i64 (ofI c1 by_), .int .i64 (ofI c2 by_), .int .i64 (ofI c3 by_)]) ∧ Ext w w' := by
  go_enter Try.func18, Try.ntmps18
  go_wp2
  refine region_tail 17 (by kernel_rfl) (by kernel_rfl) ?_
  simp only [List.take_succ_cons, List.take_zero, List.drop_succ_cons, List.drop_zero]
  iterate 17 (go_big_quiet_step (exact calls_ext (refOf_any _ _ _ (by omega) (by omega) (by omega) (by omega))))
  refine wpQuiet_nil ?_
  rintro _ ⟨g, rfl⟩
  go_wp2
  refine bodyPost_agg4 (by simp [results, Try.results18, go_sem]) rfl rfl rfl rfl rfl (by repeat (first | exact Ext.refl _ | apply Ext.alloc | apply Ext.ext))

set_option maxHeartbeats 3200000 in
theorem refPart_any (c0 c1 c2 c3 n : Int) (w : World) (hc0 : 0 ≤ c0 ∧ c0 ≤ 255) (hc1 : 0 ≤ c1 ∧ c1 ≤ 255) (hc2 : 0 ≤ c2 ∧ c2 ≤ 255) (hc3 : 0 ≤ c3 ∧ c3 ≤ 255) (hn : 0 ≤ n ∧ n ≤ 16) :
    Calls Try.prog 19 #[.agg #[.int .i64 c0, .int .i64 c1, .int .i64 c2, .int .i64 c3], .int .i64 n] w fun e w' =>
      e = .returned (.agg #[.int .i64 (partI c0 n), .int .i64 (partI c1 n), .int .i64 (partI c2 n), .int .i64 (partI c3 n)]) ∧ Ext w w' := by
  have o0 := mulB hc0.1 hc0.2 hn.1 hn.2
  have o1 := mulB hc1.1 hc1.2 hn.1 hn.2
  have o2 := mulB hc2.1 hc2.2 hn.1 hn.2
  have o3 := mulB hc3.1 hc3.2 hn.1 hn.2
  go_enter Try.func19, Try.ntmps19
  go_wp2
  refine wp_loop_rounds 5 ?_
  rw [rounds_succ]
  go_wp2_with fail
  refine (round_any _ _ _ (by omega) (by omega) (by omega) (by omega)).mono ?_
  rintro e w' ⟨rfl, g0, rfl⟩
  rw [round_part]
  go_wp2_with fail
  rw [rounds_succ]
  go_wp2_with fail
  refine (round_any _ _ _ (by omega) (by omega) (by omega) (by omega)).mono ?_
  rintro e w' ⟨rfl, g1, rfl⟩
  rw [round_part]
  go_wp2_with fail
  rw [rounds_succ]
  go_wp2_with fail
  refine (round_any _ _ _ (by omega) (by omega) (by omega) (by omega)).mono ?_
  rintro e w' ⟨rfl, g2, rfl⟩
  rw [round_part]
  go_wp2_with fail
  rw [rounds_succ]
  go_wp2_with fail
  refine (round_any _ _ _ (by omega) (by omega) (by omega) (by omega)).mono ?_
  rintro e w' ⟨rfl, g3, rfl⟩
  rw [round_part]
  go_wp2_with fail
  rw [rounds_succ]
  go_wp2
  refine bodyPost_agg4 (by simp [results, Try.results19, go_sem]) rfl rfl rfl rfl rfl (by repeat (first | exact Ext.refl _ | apply Ext.alloc | apply Ext.ext))

set_option maxHeartbeats 1600000 in
theorem straight_any (r g b a : Int) (w : World) (hr : 0 ≤ r ∧ r ≤ 255) (hg : 0 ≤ g ∧ g ≤ 255) (hb : 0 ≤ b ∧ b ≤ 255) (ha : 0 ≤ a ∧ a ≤ 255) :
    Calls Try.prog 21 #[.int .u8 r, .int .u8 g, .int .u8 b, .int .u8 a] w fun e w' =>
      e = .returned (.agg #[.int .u8 (ofI r a), .int .u8 (ofI g a), .int .u8 (ofI b a), .int .u8 a]) ∧ Ext w w' := by
  have ea := ofI_255' a ha.1
  go_enter Try.func21, Try.ntmps21
  go_wp2_with fail
  refine (fade_any r g b 255 a _ hr hg hb (by omega) ha).mono ?_
  rintro e w' ⟨rfl, g, rfl⟩
  go_wp2
  refine bodyPost_agg4 (by simp [results, Try.results21, go_sem]; rfl) rfl rfl rfl rfl (by first | exact ea | rfl) (by repeat (first | exact Ext.refl _ | apply Ext.alloc | apply Ext.ext))
end Go.Proofs.Ytnginblfdamfbaa
