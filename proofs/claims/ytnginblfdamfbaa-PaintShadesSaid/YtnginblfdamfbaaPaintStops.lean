/- Chapter 10: stops in memory, and when they are a shade. -/
import Derived.Test.YtnginblfdamfbaaPaintLawM
import Derived.Deep.Slices
import Derived.Deep.CutBlock
import Derived.Deep.DeepCutAuto
set_option linter.unusedVariables false
set_option linter.unusedSimpArgs false
namespace Go.Proofs.Ytnginblfdamfbaa
open Go.RowKit

/-- a stop's numbers -/
structure StopI where
  t : Int
  r : Int
  g : Int
  b : Int
  a : Int

/-- n stops lie in memory, and fit their kinds -/
def Stops (w : World) (v : Value) (n : Nat) (S : Nat → StopI) : Prop :=
  ∃ (A : Option Addr) (cap : Nat), v = .slice A n cap ∧ n ≤ cap ∧ cap ≤ 9223372036854775807 ∧ (0 < n → ∃ b off, A = some ⟨b, off, none⟩ ∧ b < w.heap.size ∧ ∀ i, i < n →
    w.cell? ⟨b, off + i * 5, none⟩ = some (.int .i64 (S i).t) ∧ w.cell? ⟨b, off + (i * 5 + 1), none⟩ = some (.int .u8 (S i).r) ∧ w.cell? ⟨b, off + (i * 5 + 2), none⟩ = some (.int .u8 (S i).g) ∧
    w.cell? ⟨b, off + (i * 5 + 3), none⟩ = some (.int .u8 (S i).b) ∧ w.cell? ⟨b, off + (i * 5 + 4), none⟩ = some (.int .u8 (S i).a))

def StopsB (n : Nat) (S : Nat → StopI) : Prop := ∀ i, i < n → (-9223372036854775808 ≤ (S i).t ∧ (S i).t ≤ 9223372036854775807) ∧
  (0 ≤ (S i).r ∧ (S i).r ≤ 255) ∧ (0 ≤ (S i).g ∧ (S i).g ≤ 255) ∧ (0 ≤ (S i).b ∧ (S i).b ≤ 255) ∧ (0 ≤ (S i).a ∧ (S i).a ≤ 255)

theorem Ext.cell {w w' : World} (h : Ext w w') {b i : Nat} (hb : b < w.heap.size) : w'.cell? ⟨b, i, none⟩ = w.cell? ⟨b, i, none⟩ := (below_of_ext h).cell (p := ⟨b, i, none⟩) hb

theorem Stops.ext {w w' : World} {v : Value} {n : Nat} {S : Nat → StopI} (h : Stops w v n S) (he : Ext w w') : Stops w' v n S := by
  obtain ⟨A, cap, h1, h2, h3, h4⟩ := h
  refine ⟨A, cap, h1, h2, h3, fun hn => ?_⟩
  obtain ⟨b, off, e1, e2, e3⟩ := h4 hn
  refine ⟨b, off, e1, Nat.lt_of_lt_of_le e2 he.size, fun i hi => ?_⟩
  simp only [he.cell e2]
  exact e3 i hi

theorem right_is {a b c d : Int} {x : Bool} (h : rightB a b c d = x) (w : World) :
    Calls Try.prog 14 #[.agg #[.int .u8 a, .int .u8 b, .int .u8 c, .int .u8 d]] w fun e w' => e = .returned (.bool x) ∧ Ext w w' := by
  have := right_any a b c d w
  rwa [h] at this

/-- is stop i right beside the one ahead? -/
def stopOk (S : Nat → StopI) (i : Nat) : Bool := decide (0 ≤ (S i).t) && decide ((S i).t ≤ 65536) && rightB (S i).r (S i).g (S i).b (S i).a && (decide (i = 0) || decide ((S (i - 1)).t ≤ (S i).t))

def okTo (n : Nat) (S : Nat → StopI) : Nat → Bool
  | 0 => decide (1 ≤ n) && decide (n ≤ 16)
  | k + 1 => okTo n S k && stopOk S k

/-- the error of stops -/
def checkI (n : Nat) (S : Nat → StopI) : Int := if okTo n S n then 0 else 30

set_option maxRecDepth 100000 in
set_option maxHeartbeats 3200000 in
theorem check_any (v : Value) (n : Nat) (S : Nat → StopI) (w : World) (hs : Stops w v n S) (hb : StopsB n S) :
    Calls Try.prog 29 #[v] w fun e w' => e = .returned (.int .i64 (checkI n S)) ∧ Ext w w' := by
  obtain ⟨A, cap, rfl, hn, hcap, hS⟩ := hs
  have hn2 : n ≤ 9223372036854775807 := by omega
  have HS := Lib.hid hS
  have HB := Lib.hid hb
  clear hS hb
  by_cases h1 : 1 ≤ n
  · obtain ⟨b, off, rfl, hbs, hc⟩ := HS.out h1
    have HC := Lib.hid hc
    have h1' : (1 : Int) ≤ (n : Int) := by omega
    have HO : Hid (okTo n S 0 = decide ((n : Int) ≤ 16)) := by
      show okTo n S 0 = decide ((n : Int) ≤ 16)
      rw [Bool.eq_iff_iff]; simp [okTo]; omega
    clear hc HS
    go_enter Try.func29, Try.ntmps29
    go_wp2
    go_loopw [3, 16] (fun t3 t16 wr => ∃ k : Nat, k ≤ n ∧ t16 = .int .i64 k ∧ t3 = .bool (okTo n S k) ∧ Ext w wr) (fun _ t16 _ => n - (intOf t16).toNat)
    case atStart => exact ⟨0, Nat.zero_le _, rfl, by rw [HO.out], Ext.refl _⟩
    case round =>
      obtain ⟨k, hk, rfl, rfl, hE⟩ := hrel
      by_cases hkn : k < n
      · obtain ⟨c0, c1, c2, c3, c4⟩ := HC.out k hkn
        have hbw : b < wr.heap.size := Nat.lt_of_lt_of_le hbs hE.size
        rw [← hE.cell hbs] at c0 c1 c2 c3 c4
        obtain ⟨⟨bt0, bt1⟩, ⟨br0, br1⟩, ⟨bg0, bg1⟩, ⟨bb0, bb1⟩, ⟨ba0, ba1⟩⟩ := HB.out k hkn
        have HE := Lib.hid hE
        clear hE
        obtain ⟨rr, hr⟩ : ∃ x, rightB (S k).r (S k).g (S k).b (S k).a = x := ⟨_, rfl⟩
        obtain ⟨oo, ho⟩ : ∃ x, okTo n S k = x := ⟨_, rfl⟩
        have HV : Hid (okTo n S (k + 1) = (okTo n S k && stopOk S k)) := rfl
        rw [ho] at HV
        simp only [ho]
        have hbw' : b < wr.heap.size + 1 := by omega
        go_upto_block 1 with (fail)
        go_cut [3] (fun s3 wx => s3 = .bool (okTo n S (k + 1)) ∧ Ext w wx)
        case first =>
          go_wp2_with fail
          clear ho
          cases oo
          case false =>
            refine region_quiet (by kernel_rfl) (by kernel_rfl) ?_
            iterate 32 (go_big_quiet_step (exact calls_ext (right_is hr _)))
            refine wpQuiet_nil ?_
            rintro _ ⟨g, rfl⟩
            go_wp2_with fail
            go_meet
            exact ⟨by rw [HV.out]; simp, HE.out.trans (by repeat (first | exact Ext.refl _ | apply Ext.alloc | apply Ext.ext))⟩
          by_cases q0 : 0 ≤ (S k).t
          case neg =>
            have q0' : decide (0 ≤ (S k).t) = false := by simpa using q0
            refine region_quiet (by kernel_rfl) (by kernel_rfl) ?_
            iterate 32 (go_big_quiet_step (exact calls_ext (right_is hr _)))
            refine wpQuiet_nil ?_
            rintro _ ⟨g, rfl⟩
            go_wp2_with fail
            go_meet
            exact ⟨by rw [HV.out]; simp [stopOk, q0'], HE.out.trans (by repeat (first | exact Ext.refl _ | apply Ext.alloc | apply Ext.ext))⟩
          by_cases q1 : (S k).t ≤ 65536
          case neg =>
            have q1' : decide ((S k).t ≤ 65536) = false := by simpa using q1
            refine region_quiet (by kernel_rfl) (by kernel_rfl) ?_
            iterate 32 (go_big_quiet_step (exact calls_ext (right_is hr _)))
            refine wpQuiet_nil ?_
            rintro _ ⟨g, rfl⟩
            go_wp2_with fail
            go_meet
            exact ⟨by rw [HV.out]; simp [stopOk, q1'], HE.out.trans (by repeat (first | exact Ext.refl _ | apply Ext.alloc | apply Ext.ext))⟩
          cases rr
          case false =>
            refine region_quiet (by kernel_rfl) (by kernel_rfl) ?_
            iterate 32 (go_big_quiet_step (exact calls_ext (right_is hr _)))
            refine wpQuiet_nil ?_
            rintro _ ⟨g, rfl⟩
            go_wp2_with fail
            go_meet
            exact ⟨by rw [HV.out]; simp [stopOk, hr], HE.out.trans (by repeat (first | exact Ext.refl _ | apply Ext.alloc | apply Ext.ext))⟩
          by_cases q2 : k = 0
          case pos =>
            subst q2
            refine region_quiet (by kernel_rfl) (by kernel_rfl) ?_
            iterate 32 (go_big_quiet_step (exact calls_ext (right_is hr _)))
            refine wpQuiet_nil ?_
            rintro _ ⟨g, rfl⟩
            go_wp2_with fail
            go_meet
            exact ⟨by rw [HV.out]; simp [stopOk, hr, q0, q1], HE.out.trans (by repeat (first | exact Ext.refl _ | apply Ext.alloc | apply Ext.ext))⟩
          obtain ⟨d0, d1, d2, d3, d4⟩ := HC.out (k - 1) (by omega)
          rw [← HE.out.cell hbs] at d0 d1 d2 d3 d4
          have q2' : ((k : Int) == 0) = false := by simp; omega
          have q3 : (0 : Int) ≤ (k : Int) - 1 := by omega
          have q4 : (k : Int) - 1 < (n : Int) := by omega
          by_cases q5 : (S (k - 1)).t ≤ (S k).t
          case pos =>
            refine region_quiet (by kernel_rfl) (by kernel_rfl) ?_
            iterate 32 (go_big_quiet_step (exact calls_ext (right_is hr _)))
            refine wpQuiet_nil ?_
            rintro _ ⟨g, rfl⟩
            go_wp2_with fail
            go_meet
            exact ⟨by rw [HV.out]; simp [stopOk, hr, q0, q1, q5], HE.out.trans (by repeat (first | exact Ext.refl _ | apply Ext.alloc | apply Ext.ext))⟩
          case neg =>
            have q5' : decide ((S (k - 1)).t ≤ (S k).t) = false := by simpa using q5
            refine region_quiet (by kernel_rfl) (by kernel_rfl) ?_
            iterate 32 (go_big_quiet_step (exact calls_ext (right_is hr _)))
            refine wpQuiet_nil ?_
            rintro _ ⟨g, rfl⟩
            go_wp2_with fail
            go_meet
            exact ⟨by rw [HV.out]; simp [stopOk, q5', q2], HE.out.trans (by repeat (first | exact Ext.refl _ | apply Ext.alloc | apply Ext.ext))⟩
        case rest =>
          obtain ⟨rfl, hE2⟩ := hcut
          have HE2 := Lib.hid hE2
          clear hE2
          go_wp2
          go_roundw
          case rel => exact ⟨k + 1, by omega, by go_num, rfl, HE2.out⟩
          case measure => simp [intOf]; omega
      · have hkn' : ¬ ((k : Int) < (n : Int)) := by omega
        have HE := Lib.hid hE
        have HK := Lib.hid (show k = n by omega)
        obtain ⟨oo, ho⟩ : ∃ x, okTo n S k = x := ⟨_, rfl⟩
        simp only [ho]
        cases oo
        all_goals
          go_wp2
          go_ret
          refine ⟨ret_int ?_, HE.out⟩
          have e := HK.out
          rw [e] at ho
          simp only [checkI, ho]
          rfl
  · obtain rfl : n = 0 := by omega
    go_enter Try.func29, Try.ntmps29
    go_wp2
    refine wp_loop_rounds 1 ?_
    rw [rounds_succ]
    go_wp2
    go_ret
    exact ⟨ret_int (by simp [checkI, okTo]), Ext.refl _⟩
end Go.Proofs.Ytnginblfdamfbaa
