/- Chapter 10: a shade between two stops, walked. -/
import Derived.Test.YtnginblfdamfbaaPaintShade
import Derived.BigRegion
set_option linter.unusedVariables false
set_option linter.unusedSimpArgs false
namespace Go.Proofs.Ytnginblfdamfbaa
open Go.RowKit

/-- the place between stop i - 1 and stop i -/
def placeI (S : Nat → StopI) (i : Nat) (t : Int) : Int := (t - (S (i - 1)).t) * 65536 / ((S i).t - (S (i - 1)).t)

set_option maxRecDepth 100000 in
set_option maxHeartbeats 3200000 in
theorem shade_mid (v : Value) (n : Nat) (S : Nat → StopI) (t : Int) (w : World) (hs : Stops w v n S) (hb : StopsB n S) (h : okTo n S n = true) (i0 : Nat)
    (hi1 : 1 ≤ i0) (hi : i0 < n) (ht : t < (S i0).t) (hlt : ∀ j, j < i0 → ¬ t < (S j).t) (h0 : (S 0).t < t) (hz : t < (S (n - 1)).t) :
    Calls Try.prog 28 #[v, .int .i64 t] w fun e w' => e = .returned (.tuple #[.agg #[.int .u8 (mixI (S (i0 - 1)).r (S i0).r (placeI S i0 t)), .int .u8 (mixI (S (i0 - 1)).g (S i0).g (placeI S i0 t)),
      .int .u8 (mixI (S (i0 - 1)).b (S i0).b (placeI S i0 t)), .int .u8 (mixI (S (i0 - 1)).a (S i0).a (placeI S i0 t))], .int .i64 0]) ∧ Ext w w' := by
  have G := good_of n S h
  have H := fun w' (h' : Ext w w') => check_any v n S w' (hs.ext h') hb
  have e : checkI n S = 0 := by simp [checkI, h]
  simp only [e] at H
  have HH := Lib.hid H
  have h1 := G.one
  have h16 := G.many
  have HI := Lib.hid (fun (b0 : Nat) (w' : World) (h' : Ext w w') (hb0 : b0 < w'.heap.size) (hc0 : w'.cell? ⟨b0, 0, none⟩ = some (.int .i64 t)) => index_any v n S t i0 b0 w' (hs.ext h') hi ht hlt hb0 hc0)
  have p1 : (S (i0 - 1)).t ≤ t := by have := hlt (i0 - 1) (by omega); omega
  have p2 := G.lo (i0 - 1) (by omega)
  have p3 := G.hi i0 hi
  obtain ⟨-, B1, B2, B3, B4⟩ := hb (i0 - 1) (by omega)
  obtain ⟨-, C1, C2, C3, C4⟩ := hb i0 hi
  have q0 : 0 ≤ (t - (S (i0 - 1)).t) * 65536 ∧ (t - (S (i0 - 1)).t) * 65536 ≤ 4294967296 := by omega
  have q1 : 1 ≤ (S i0).t - (S (i0 - 1)).t ∧ (S i0).t - (S (i0 - 1)).t ≤ 65536 := by omega
  have q2 : ¬ (S i0).t - (S (i0 - 1)).t = 0 := by omega
  have r0 : 0 ≤ placeI S i0 t := Int.ediv_nonneg q0.1 (by omega)
  have r1 : placeI S i0 t ≤ 65536 := by
    refine Int.ediv_le_of_le_mul (by omega) ?_
    have : (t - (S (i0 - 1)).t) * 65536 ≤ ((S i0).t - (S (i0 - 1)).t) * 65536 := by omega
    rw [Int.mul_comm 65536]; exact this
  have e2 : min (max (placeI S i0 t) 0) 65536 = placeI S i0 t := by omega
  have M := fun w' => mix_any (S (i0 - 1)).r (S (i0 - 1)).g (S (i0 - 1)).b (S (i0 - 1)).a (S i0).r (S i0).g (S i0).b (S i0).a (placeI S i0 t) w' B1 B2 B3 B4 C1 C2 C3 C4
  simp only [e2] at M
  have HM := Lib.hid M
  have HP := Lib.hid (rfl : (t - (S (i0 - 1)).t) * 65536 / ((S i0).t - (S (i0 - 1)).t) = placeI S i0 t)
  clear H e h M e2 G
  obtain ⟨A, cap, rfl, hn, hcap, hS⟩ := hs
  obtain ⟨b, off, rfl, hbs, hc⟩ := hS (by omega)
  obtain ⟨c0, c1, c2, c3, c4⟩ := hc 0 (by omega)
  obtain ⟨d0, d1, d2, d3, d4⟩ := hc (n - 1) (by omega)
  obtain ⟨x0, x1, x2, x3, x4⟩ := hc (i0 - 1) (by omega)
  obtain ⟨y0, y1, y2, y3, y4⟩ := hc i0 hi
  simp only [Nat.zero_mul, Nat.zero_add, Nat.add_zero] at c0 c1 c2 c3 c4
  have k0 : (0 : Int) ≤ (n : Int) - 1 := by omega
  have k1 : (n : Int) - 1 < (n : Int) := by omega
  have k2 : (0 : Int) < (n : Int) := by omega
  have k3 : (0 : Int) ≤ (i0 : Int) - 1 := by omega
  have k4 : (i0 : Int) - 1 < (n : Int) := by omega
  have k5 : (i0 : Int) < (n : Int) := by omega
  have l1 : b < w.heap.size + 2 := by omega
  have l2 : b < w.heap.size + 1 := by omega
  clear hc hS hb hlt
  go_enter Try.func28, Try.ntmps28
  go_wp2_with fail
  refine (HH.out _ (by repeat (first | exact Ext.refl _ | apply Ext.alloc | apply Ext.ext))).mono ?_
  rintro e w' ⟨rfl, g, rfl⟩
  go_wp2
  refine region_quiet (by kernel_rfl) (by kernel_rfl) ?_
  iterate 7 (go_big_quiet_step (fail))
  refine wpQuiet_nil ?_
  rintro _ ⟨g1, rfl⟩
  have hmf : ∀ (fn : Fn) (first cap : Array Value) (w : World), (Instr.makeFunc fn first cap).run Try.prog w = .ok (.func fn first cap) w := fun _ _ _ _ => rfl
  go_wp2_with fail
  refine (HI.out _ _ (by repeat (first | exact Ext.refl _ | apply Ext.alloc | apply Ext.ext)) (by simp [go_sem]) (by simp [go_sem])).mono ?_
  rintro e w' ⟨rfl, g2, rfl⟩
  go_wp2_with fail
  go_region
  all_goals
    go_wp2_with fail
    refine region_tail 16 (by kernel_rfl) (by kernel_rfl) ?_
    simp only [List.take_succ_cons, List.take_zero, List.drop_succ_cons, List.drop_zero]
    iterate 15 (go_big_quiet_step (fail))
    try rw [HP.out]
    iterate 1 (go_big_quiet_step (exact calls_ext (HM.out _)))
    refine wpQuiet_nil ?_
    rintro _ ⟨g3, rfl⟩
    go_wp2
    refine bodyPost_agg4e (by simp [results, Try.results28, go_sem]) rfl rfl rfl rfl rfl (by repeat (first | exact Ext.refl _ | apply Ext.alloc | apply Ext.ext))
end Go.Proofs.Ytnginblfdamfbaa
