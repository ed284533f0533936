/- Chapter 10: colours number by number, walked. -/
import Derived.Test.YtncphiphgkjflaaPaintOver
set_option linter.unusedVariables false
set_option linter.unusedSimpArgs false
namespace Go.Proofs.Ytncphiphgkjflaa
open Go.RowKit

theorem mulB {a b A B : Int} (ha0 : 0 ≤ a) (ha : a ≤ A) (hb0 : 0 ≤ b) (hb : b ≤ B) : 0 ≤ a * b ∧ a * b ≤ A * B :=
  ⟨Int.mul_nonneg ha0 hb0, Int.mul_le_mul ha hb hb0 (by omega)⟩

set_option maxHeartbeats 400000 in
theorem fadeFn_any (n by_ : Int) (b : Nat) (w : World) (hn0 : 0 ≤ n) (hn : n ≤ 255) (hb0 : 0 ≤ by_) (hb : by_ ≤ 255) (hc : w.cell? ⟨b, 0, none⟩ = some (.int .u8 by_)) :
    Calls Try.prog 55 #[.int .i64 n, .pointer (some ⟨b, 0, none⟩)] w fun e w' => e = .returned (.int .i64 (ofI n by_)) ∧ Ext w w' := by
  go_enter Try.func55, Try.ntmps55
  go_wp2_with (go_at_call 56; refine (of_any _ _ _ hn0 hn hb0 hb).mono ?_; rintro e w' ⟨rfl, g, rfl⟩)
  go_ret
  exact ⟨rfl, _, rfl⟩

/-- so many sixteenths -/
def partI (x n : Int) : Int := (2 * x * n + 16) / 32

theorem partI_bd {x n : Int} (hx : 0 ≤ x ∧ x ≤ 255) (hn : 0 ≤ n ∧ n ≤ 16) : 0 ≤ partI x n ∧ partI x n ≤ x := by
  have h1 := Int.mul_nonneg hx.1 hn.1
  have h2 : x * n ≤ x * 16 := Int.mul_le_mul_of_nonneg_left hn.2 hx.1
  unfold partI
  rw [Int.mul_assoc]
  omega

theorem partI_mono {x y n : Int} (hn : 0 ≤ n) (h : x ≤ y) : partI x n ≤ partI y n := by
  have h2 : x * n ≤ y * n := Int.mul_le_mul_of_nonneg_right h hn
  unfold partI
  rw [Int.mul_assoc, Int.mul_assoc]
  omega

theorem round_part (x n : Int) : roundI (x * n) 16 = partI x n := by
  unfold roundI partI
  rw [Int.mul_assoc]
  split <;> omega

theorem idx23_0 (c0 c1 c2 c3 : Int) (w : World) : (Instr.index 40 (.agg #[.int .u8 c0, .int .u8 c1, .int .u8 c2, .int .u8 c3]) (.int .i64 0)).run Try.prog w = .ok (.int .u8 c0) w := by kernel_rfl
theorem idx23_1 (c0 c1 c2 c3 : Int) (w : World) : (Instr.index 40 (.agg #[.int .u8 c0, .int .u8 c1, .int .u8 c2, .int .u8 c3]) (.int .i64 1)).run Try.prog w = .ok (.int .u8 c1) w := by kernel_rfl
theorem idx23_2 (c0 c1 c2 c3 : Int) (w : World) : (Instr.index 40 (.agg #[.int .u8 c0, .int .u8 c1, .int .u8 c2, .int .u8 c3]) (.int .i64 2)).run Try.prog w = .ok (.int .u8 c2) w := by kernel_rfl
theorem idx23_3 (c0 c1 c2 c3 : Int) (w : World) : (Instr.index 40 (.agg #[.int .u8 c0, .int .u8 c1, .int .u8 c2, .int .u8 c3]) (.int .i64 3)).run Try.prog w = .ok (.int .u8 c3) w := by kernel_rfl
attribute [go_sem] idx23_0 idx23_1 idx23_2 idx23_3

set_option maxHeartbeats 1600000 in
theorem each32_any (c0 c1 c2 c3 : Int) (b : Nat) (v : Value) (f : Int → Int) (w : World) (hc0 : 0 ≤ c0 ∧ c0 ≤ 255) (hc1 : 0 ≤ c1 ∧ c1 ≤ 255) (hc2 : 0 ≤ c2 ∧ c2 ≤ 255) (hc3 : 0 ≤ c3 ∧ c3 ≤ 255) (hb : b < w.heap.size) (hv : w.cell? ⟨b, 0, none⟩ = some v)
    (hf : ∀ (n : Int) (w' : World), 0 ≤ n → n ≤ 255 → w'.cell? ⟨b, 0, none⟩ = some v → Calls Try.prog 55 #[.int .i64 n, .pointer (some ⟨b, 0, none⟩)] w' fun e w'' => e = .returned (.int .i64 (f n)) ∧ Ext w' w'')
    (hfb : ∀ n, 0 ≤ n → n ≤ 255 → 0 ≤ f n ∧ f n ≤ 255) :
    Calls Try.prog 54 #[.agg #[.int .u8 c0, .int .u8 c1, .int .u8 c2, .int .u8 c3], .func (.func 55) #[] #[.pointer (some ⟨b, 0, none⟩)]] w fun e w' =>
      e = .returned (.agg #[.int .u8 (f c0), .int .u8 (f c1), .int .u8 (f c2), .int .u8 (f c3)]) ∧ Ext w w' := by
  have o0 := hfb c0 hc0.1 hc0.2
  have o1 := hfb c1 hc1.1 hc1.2
  have o2 := hfb c2 hc2.1 hc2.2
  have o3 := hfb c3 hc3.1 hc3.2
  have H := Lib.hid hf
  clear hf hfb
  have H2 := Lib.hid (fun (w' : World) (h : Ext w w') => ((below_of_ext h).cell (p := ⟨b, 0, none⟩) hb).trans hv)
  clear hv
  go_enter Try.func54, Try.ntmps54
  go_wp2
  refine wp_loop_rounds 5 ?_
  rw [rounds_succ]
  go_wp2_with fail
  refine (H.out _ _ hc0.1 hc0.2 (H2.out _ (by repeat (first | exact Ext.refl _ | apply Ext.alloc | apply Ext.ext)))).mono ?_
  rintro e w' ⟨rfl, g0, rfl⟩
  go_wp2_with fail
  rw [rounds_succ]
  go_wp2_with fail
  refine (H.out _ _ hc1.1 hc1.2 (H2.out _ (by repeat (first | exact Ext.refl _ | apply Ext.alloc | apply Ext.ext)))).mono ?_
  rintro e w' ⟨rfl, g1, rfl⟩
  go_wp2_with fail
  rw [rounds_succ]
  go_wp2_with fail
  refine (H.out _ _ hc2.1 hc2.2 (H2.out _ (by repeat (first | exact Ext.refl _ | apply Ext.alloc | apply Ext.ext)))).mono ?_
  rintro e w' ⟨rfl, g2, rfl⟩
  go_wp2_with fail
  rw [rounds_succ]
  go_wp2_with fail
  refine (H.out _ _ hc3.1 hc3.2 (H2.out _ (by repeat (first | exact Ext.refl _ | apply Ext.alloc | apply Ext.ext)))).mono ?_
  rintro e w' ⟨rfl, g3, rfl⟩
  go_wp2_with fail
  rw [rounds_succ]
  go_wp2
  refine bodyPost_agg4 (by simp [results, Try.results54, go_sem]) rfl rfl rfl rfl rfl (by repeat (first | exact Ext.refl _ | apply Ext.alloc | apply Ext.ext))

end Go.Proofs.Ytncphiphgkjflaa
