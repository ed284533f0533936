/- Chapter 10: shades, walked. -/
import Derived.Test.YtnginblfdamfbaaPaintStops
import Derived.Test.YtnginblfdamfbaaPaintBlend
import Derived.BigRegion
set_option linter.unusedVariables false
set_option linter.unusedSimpArgs false
namespace Go.Proofs.Ytnginblfdamfbaa
open Go.RowKit

theorem exists_first (P : Nat → Prop) [DecidablePred P] (n : Nat) (h : ∃ j, j < n ∧ P j) : ∃ i, i < n ∧ P i ∧ ∀ j, j < i → ¬ P j := by
  induction n with
  | zero => obtain ⟨j, hj, _⟩ := h; omega
  | succ n ih =>
    by_cases hq : ∃ j, j < n ∧ P j
    · obtain ⟨i, h1, h2, h3⟩ := ih hq
      exact ⟨i, by omega, h2, h3⟩
    · obtain ⟨j, hj, hp⟩ := h
      have hjn : j = n := by
        rcases Nat.lt_or_ge j n with h | h
        · exact absurd ⟨j, h, hp⟩ hq
        · omega
      subst hjn
      exact ⟨j, by omega, hp, fun i hi hpi => hq ⟨i, hi, hpi⟩⟩

/-- what it is to be a shade -/
structure Good (n : Nat) (S : Nat → StopI) : Prop where
  one : 1 ≤ n
  many : n ≤ 16
  lo : ∀ i, i < n → 0 ≤ (S i).t
  hi : ∀ i, i < n → (S i).t ≤ 65536
  right : ∀ i, i < n → rightB (S i).r (S i).g (S i).b (S i).a = true
  up : ∀ i, i + 1 < n → (S i).t ≤ (S (i + 1)).t

theorem good_to (n : Nat) (S : Nat → StopI) : ∀ k, okTo n S k = true → (1 ≤ n ∧ n ≤ 16) ∧ ∀ i, i < k → stopOk S i = true := by
  intro k
  induction k with
  | zero => intro h; simp [okTo] at h; exact ⟨h, fun i hi => by omega⟩
  | succ k ih =>
    intro h
    simp only [okTo, Bool.and_eq_true] at h
    obtain ⟨h1, h2⟩ := ih h.1
    refine ⟨h1, fun i hi => ?_⟩
    by_cases e : i = k
    · subst e; exact h.2
    · exact h2 i (by omega)

theorem good_of (n : Nat) (S : Nat → StopI) (h : okTo n S n = true) : Good n S := by
  obtain ⟨h1, h2⟩ := good_to n S n h
  refine ⟨h1.1, h1.2, fun i hi => ?_, fun i hi => ?_, fun i hi => ?_, fun i hi => ?_⟩
  · have := h2 i hi; simp [stopOk] at this; omega
  · have := h2 i hi; simp [stopOk] at this; omega
  · have := h2 i hi; simp [stopOk] at this; exact this.1.2
  · have := h2 (i + 1) hi; simp [stopOk] at this; omega

theorem Good.mono {n : Nat} {S : Nat → StopI} (h : Good n S) (i j : Nat) (hij : i ≤ j) (hj : j < n) : (S i).t ≤ (S j).t := by
  induction j with
  | zero =>
    obtain rfl : i = 0 := by omega
    exact Int.le_refl _
  | succ j ih =>
    by_cases e : i = j + 1
    · subst e; exact Int.le_refl _
    · exact Int.le_trans (ih (by omega) (by omega)) (h.up j hj)

set_option maxRecDepth 100000 in
set_option maxHeartbeats 1600000 in
theorem pastFn_any (s : StopI) (t : Int) (b : Nat) (w : World) (hb : b < w.heap.size) (hc : w.cell? ⟨b, 0, none⟩ = some (.int .i64 t)) :
    Calls Try.prog 37 #[.agg #[.int .i64 s.t, .int .u8 s.r, .int .u8 s.g, .int .u8 s.b, .int .u8 s.a], .pointer (some ⟨b, 0, none⟩)] w fun e w' => e = .returned (.bool (decide (t < s.t))) ∧ Ext w w' := by
  go_enter Try.func37, Try.ntmps37
  go_wp2
  go_ret
  exact ⟨rfl, by repeat (first | exact Ext.refl _ | apply Ext.alloc | apply Ext.ext)⟩

set_option maxRecDepth 100000 in
set_option maxHeartbeats 1600000 in
theorem index_any (v : Value) (n : Nat) (S : Nat → StopI) (t : Int) (i0 b0 : Nat) (w : World) (hs : Stops w v n S) (h1 : i0 < n) (h2 : t < (S i0).t) (h3 : ∀ j, j < i0 → ¬ t < (S j).t) (hb0 : b0 < w.heap.size) (hc0 : w.cell? ⟨b0, 0, none⟩ = some (.int .i64 t)) :
    Calls Try.prog 36 #[v, .func (.func 37) #[] #[.pointer (some ⟨b0, 0, none⟩)]] w fun e w' => e = .returned (.int .i64 i0) ∧ Ext w w' := by
  obtain ⟨A, cap, rfl, hn, hcap, hS⟩ := hs
  have hn2 : n ≤ 9223372036854775807 := by omega
  obtain ⟨b, off, rfl, hbs, hc⟩ := hS (by omega)
  have HC := Lib.hid hc
  have H3 := Lib.hid h3
  clear hc hS h3
  go_enter Try.func36, Try.ntmps36
  go_wp2
  go_loopw [8] (fun t8 wr => ∃ k : Nat, k ≤ i0 ∧ t8 = .int .i64 k ∧ Ext w wr) (fun t8 _ => n - (intOf t8).toNat)
  case atStart => exact ⟨0, Nat.zero_le _, rfl, Ext.refl _⟩
  case round =>
    obtain ⟨k, hk, rfl, hE⟩ := hrel
    have hkn : k < n := by omega
    obtain ⟨c0, c1, c2, c3, c4⟩ := HC.out k hkn
    rw [← hE.cell hbs] at c0 c1 c2 c3 c4
    have HE := Lib.hid hE
    clear hE
    go_wp2_with fail
    refine (pastFn_any (S k) t b0 _ (Nat.lt_of_lt_of_le hb0 HE.out.size) (by rw [HE.out.cell hb0]; exact hc0)).mono ?_
    rintro e w' ⟨rfl, hE2⟩
    have HE2 := Lib.hid (HE.out.trans hE2)
    clear hE2
    by_cases e : k = i0
    · subst e
      have h2' : decide (t < (S k).t) = true := by simpa using h2
      go_wp2
      go_ret
      exact ⟨rfl, HE2.out⟩
    · have h2' : decide (t < (S k).t) = false := by have := H3.out k (by omega); simpa using this
      go_wp2
      go_roundw
      case rel => exact ⟨k + 1, by omega, by go_num, HE2.out⟩
      case measure => simp [intOf]; omega
/-- a stop's colour, as a value -/
def colV (s : StopI) : Value := .agg #[.int .u8 s.r, .int .u8 s.g, .int .u8 s.b, .int .u8 s.a]

set_option maxRecDepth 100000 in
set_option maxHeartbeats 1600000 in
theorem shade_bad (v : Value) (n : Nat) (S : Nat → StopI) (t : Int) (w : World) (hs : Stops w v n S) (hb : StopsB n S) (h : okTo n S n = false) :
    Calls Try.prog 28 #[v, .int .i64 t] w fun e w' => e = .returned (.tuple #[.agg #[.int .u8 0, .int .u8 0, .int .u8 0, .int .u8 0], .int .i64 30]) ∧ Ext w w' := by
  have H := fun w' (h' : Ext w w') => check_any v n S w' (hs.ext h') hb
  have e : checkI n S = 30 := by simp [checkI, h]
  simp only [e] at H
  have HH := Lib.hid H
  clear H hs e h
  go_enter Try.func28, Try.ntmps28
  go_wp2_with fail
  refine (HH.out _ (by repeat (first | exact Ext.refl _ | apply Ext.alloc | apply Ext.ext))).mono ?_
  rintro e w' ⟨rfl, g, rfl⟩
  go_wp2
  refine bodyPost_agg4e (by simp [results, Try.results28, go_sem]) rfl rfl rfl rfl rfl (by repeat (first | exact Ext.refl _ | apply Ext.alloc | apply Ext.ext))

set_option maxRecDepth 100000 in
set_option maxHeartbeats 1600000 in
theorem shade_ends (v : Value) (n : Nat) (S : Nat → StopI) (t : Int) (w : World) (hs : Stops w v n S) (hb : StopsB n S) (h : okTo n S n = true) (x : StopI)
    (hx : (t ≤ (S 0).t ∧ x = S 0) ∨ ((S 0).t < t ∧ (S (n - 1)).t ≤ t ∧ x = S (n - 1))) :
    Calls Try.prog 28 #[v, .int .i64 t] w fun e w' => e = .returned (.tuple #[.agg #[.int .u8 x.r, .int .u8 x.g, .int .u8 x.b, .int .u8 x.a], .int .i64 0]) ∧ Ext w w' := by
  have G := good_of n S h
  have H := fun w' (h' : Ext w w') => check_any v n S w' (hs.ext h') hb
  have e : checkI n S = 0 := by simp [checkI, h]
  simp only [e] at H
  have HH := Lib.hid H
  have h1 := G.one
  have h16 := G.many
  clear H e h
  obtain ⟨A, cap, rfl, hn, hcap, hS⟩ := hs
  obtain ⟨b, off, rfl, hbs, hc⟩ := hS (by omega)
  obtain ⟨c0, c1, c2, c3, c4⟩ := hc 0 (by omega)
  obtain ⟨d0, d1, d2, d3, d4⟩ := hc (n - 1) (by omega)
  simp only [Nat.zero_mul, Nat.zero_add, Nat.add_zero] at c0 c1 c2 c3 c4
  have i0 : (0 : Int) ≤ (n : Int) - 1 := by omega
  have i1 : (n : Int) - 1 < (n : Int) := by omega
  have i2 : (0 : Int) < (n : Int) := by omega
  have l1 : b < w.heap.size + 2 := by omega
  have l2 : b < w.heap.size + 1 := by omega
  clear hc hS hb G
  rcases hx with ⟨ht, rfl⟩ | ⟨ht, ht2, rfl⟩
  · go_enter Try.func28, Try.ntmps28
    go_wp2_with fail
    refine (HH.out _ (by repeat (first | exact Ext.refl _ | apply Ext.alloc | apply Ext.ext))).mono ?_
    rintro e w' ⟨rfl, g, rfl⟩
    go_wp2
    refine region_quiet (by kernel_rfl) (by kernel_rfl) ?_
    iterate 7 (go_big_quiet_step (fail))
    refine wpQuiet_nil ?_
    rintro _ ⟨g1, rfl⟩
    go_wp2
    refine bodyPost_agg4e (by simp [results, Try.results28, go_sem]) rfl rfl rfl rfl rfl (by repeat (first | exact Ext.refl _ | apply Ext.alloc | apply Ext.ext))
  · go_enter Try.func28, Try.ntmps28
    go_wp2_with fail
    refine (HH.out _ (by repeat (first | exact Ext.refl _ | apply Ext.alloc | apply Ext.ext))).mono ?_
    rintro e w' ⟨rfl, g, rfl⟩
    go_wp2
    refine region_quiet (by kernel_rfl) (by kernel_rfl) ?_
    iterate 7 (go_big_quiet_step (fail))
    refine wpQuiet_nil ?_
    rintro _ ⟨g1, rfl⟩
    go_wp2
    refine bodyPost_agg4e (by simp [results, Try.results28, go_sem]) rfl rfl rfl rfl rfl (by repeat (first | exact Ext.refl _ | apply Ext.alloc | apply Ext.ext))
end Go.Proofs.Ytnginblfdamfbaa
