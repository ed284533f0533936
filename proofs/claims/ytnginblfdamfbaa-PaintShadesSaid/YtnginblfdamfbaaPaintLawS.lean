/- Chapter 10: the law of shades, walked. -/
import Derived.Test.YtnginblfdamfbaaPaintShadeMid
import Derived.Test.YtnginblfdamfbaaPaintLawM
set_option linter.unusedVariables false
set_option linter.unusedSimpArgs false
namespace Go.Proofs.Ytnginblfdamfbaa
open Go.RowKit

set_option maxRecDepth 100000 in
set_option maxHeartbeats 8000000 in
theorem PaintShades_walk (v : Value) (n : Nat) (S : Nat → StopI) (t : Int) (w : World) (hs : Stops w v n S) (hb : StopsB n S) :
    Calls Try.prog 9 #[v, .int .i64 t] w fun e w' => e = .returned (.bool true) ∧ Ext w w' := by
  have hs' := Lib.hid hs
  have HB := Lib.hid hb
  obtain ⟨A, cap, rfl, hn, hcap, hS⟩ := hs
  clear hb
  have hn2 : n ≤ 9223372036854775807 := by omega
  by_cases h100 : 100 < n
  · have h100' : (100 : Int) < (n : Int) := by omega
    go_enter Try.func9, Try.ntmps9
    go_wp2_with (go_at_call 15; refine (awake_any _).mono ?_; rintro e w' ⟨rfl, g5, rfl⟩)
    go_ret
    exact ⟨rfl, by repeat (first | exact Ext.refl _ | apply Ext.alloc | apply Ext.ext)⟩
  have h100' : ¬ (100 : Int) < (n : Int) := by omega
  by_cases h1 : 1 ≤ n
  case neg =>
    obtain rfl : n = 0 := by omega
    have HX := fun w' (h' : Ext w w') => shade_bad _ 0 S t w' (hs'.out.ext h') HB.out rfl
    have HY := fun w' (h' : Ext w w') => check_any _ 0 S w' (hs'.out.ext h') HB.out
    simp only [show checkI 0 S = 30 from rfl] at HY
    have HX := Lib.hid HX
    have HY := Lib.hid HY
    go_enter Try.func9, Try.ntmps9
    go_wp2
    refine wp_loop_rounds 1 ?_
    rw [rounds_succ]
    go_wp2_with fail
    refine (HX.out _ (by repeat (first | exact Ext.refl _ | apply Ext.alloc | apply Ext.ext))).mono ?_
    rintro e w' ⟨rfl, g, rfl⟩
    go_wp2_with fail
    refine (HY.out _ (by repeat (first | exact Ext.refl _ | apply Ext.alloc | apply Ext.ext))).mono ?_
    rintro e w' ⟨rfl, g1, rfl⟩
    go_wp2_with (go_at_call 15; refine (awake_any _).mono ?_; rintro e w' ⟨rfl, g5, rfl⟩)
    go_ret
    exact ⟨rfl, by repeat (first | exact Ext.refl _ | apply Ext.alloc | apply Ext.ext)⟩
  case pos =>
  obtain ⟨b, off, rfl, hbs, hc⟩ := hS h1
  have HC := Lib.hid hc
  have h1' : (1 : Int) ≤ (n : Int) := by omega
  have HO : Hid (okTo n S 0 = decide ((n : Int) ≤ 16)) := by
    show okTo n S 0 = decide ((n : Int) ≤ 16)
    rw [Bool.eq_iff_iff]; simp [okTo]; omega
  clear hc hS h100
  go_enter Try.func9, Try.ntmps9
  go_wp2
  go_loopw [5, 27] (fun t3 t16 wr => ∃ k : Nat, k ≤ n ∧ t16 = .int .i64 k ∧ t3 = .bool (okTo n S k) ∧ Ext w wr) (fun _ t16 _ => n - (intOf t16).toNat)
  case atStart => exact ⟨0, Nat.zero_le _, rfl, by rw [HO.out], Ext.refl _⟩
  case round =>
    obtain ⟨k, hk, rfl, rfl, hE⟩ := hrel
    by_cases hkn : k < n
    · obtain ⟨c0, c1, c2, c3, c4⟩ := HC.out k hkn
      have hbw : b < wr.heap.size := Nat.lt_of_lt_of_le hbs hE.size
      rw [← hE.cell hbs] at c0 c1 c2 c3 c4
      obtain ⟨⟨bt0, bt1⟩, ⟨br0, br1⟩, ⟨bg0, bg1⟩, ⟨bb0, bb1⟩, ⟨ba0, ba1⟩⟩ := HB.out k hkn
      have HE := Lib.hid hE
      clear hE
      obtain ⟨rr, hr⟩ : ∃ x, rightB (S k).r (S k).g (S k).b (S k).a = x := ⟨_, rfl⟩
      obtain ⟨oo, ho⟩ : ∃ x, okTo n S k = x := ⟨_, rfl⟩
      have HV : Hid (okTo n S (k + 1) = (okTo n S k && stopOk S k)) := rfl
      rw [ho] at HV
      simp only [ho]
      have hbw' : b < wr.heap.size + 1 := by omega
      go_upto_block 1 with (fail)
      go_cut [5] (fun s3 wx => s3 = .bool (okTo n S (k + 1)) ∧ Ext w wx)
      case first =>
        clear ho
        go_wp2_with fail
        cases oo
        case false =>
              refine region_quiet (by kernel_rfl) (by kernel_rfl) ?_
              iterate 32 (go_big_quiet_step (exact calls_ext (right_is hr _)))
              refine wpQuiet_nil ?_
              rintro _ ⟨g, rfl⟩
              go_wp2_with fail
              go_meet
              exact ⟨by rw [HV.out]; simp, HE.out.trans (by repeat (first | exact Ext.refl _ | apply Ext.alloc | apply Ext.ext))⟩
        by_cases q0 : 0 ≤ (S k).t
        case neg =>
              have q0' : decide (0 ≤ (S k).t) = false := by simpa using q0
              refine region_quiet (by kernel_rfl) (by kernel_rfl) ?_
              iterate 32 (go_big_quiet_step (exact calls_ext (right_is hr _)))
              refine wpQuiet_nil ?_
              rintro _ ⟨g, rfl⟩
              go_wp2_with fail
              go_meet
              exact ⟨by rw [HV.out]; simp [stopOk, q0'], HE.out.trans (by repeat (first | exact Ext.refl _ | apply Ext.alloc | apply Ext.ext))⟩
        by_cases q1 : (S k).t ≤ 65536
        case neg =>
              have q1' : decide ((S k).t ≤ 65536) = false := by simpa using q1
              refine region_quiet (by kernel_rfl) (by kernel_rfl) ?_
              iterate 32 (go_big_quiet_step (exact calls_ext (right_is hr _)))
              refine wpQuiet_nil ?_
              rintro _ ⟨g, rfl⟩
              go_wp2_with fail
              go_meet
              exact ⟨by rw [HV.out]; simp [stopOk, q1'], HE.out.trans (by repeat (first | exact Ext.refl _ | apply Ext.alloc | apply Ext.ext))⟩
        cases rr
        case false =>
              refine region_quiet (by kernel_rfl) (by kernel_rfl) ?_
              iterate 32 (go_big_quiet_step (exact calls_ext (right_is hr _)))
              refine wpQuiet_nil ?_
              rintro _ ⟨g, rfl⟩
              go_wp2_with fail
              go_meet
              exact ⟨by rw [HV.out]; simp [stopOk, hr], HE.out.trans (by repeat (first | exact Ext.refl _ | apply Ext.alloc | apply Ext.ext))⟩
        by_cases q2 : k = 0
        case pos =>
              subst q2
              refine region_quiet (by kernel_rfl) (by kernel_rfl) ?_
              iterate 32 (go_big_quiet_step (exact calls_ext (right_is hr _)))
              refine wpQuiet_nil ?_
              rintro _ ⟨g, rfl⟩
              go_wp2_with fail
              go_meet
              exact ⟨by rw [HV.out]; simp [stopOk, hr, q0, q1], HE.out.trans (by repeat (first | exact Ext.refl _ | apply Ext.alloc | apply Ext.ext))⟩
        obtain ⟨d0, d1, d2, d3, d4⟩ := HC.out (k - 1) (by omega)
        rw [← HE.out.cell hbs] at d0 d1 d2 d3 d4
        have q2' : ((k : Int) == 0) = false := by simp; omega
        have q3 : (0 : Int) ≤ (k : Int) - 1 := by omega
        have q4 : (k : Int) - 1 < (n : Int) := by omega
        by_cases q5 : (S (k - 1)).t ≤ (S k).t
        case pos =>
              refine region_quiet (by kernel_rfl) (by kernel_rfl) ?_
              iterate 32 (go_big_quiet_step (exact calls_ext (right_is hr _)))
              refine wpQuiet_nil ?_
              rintro _ ⟨g, rfl⟩
              go_wp2_with fail
              go_meet
              exact ⟨by rw [HV.out]; simp [stopOk, hr, q0, q1, q5], HE.out.trans (by repeat (first | exact Ext.refl _ | apply Ext.alloc | apply Ext.ext))⟩
        case neg =>
              have q5' : decide ((S (k - 1)).t ≤ (S k).t) = false := by simpa using q5
              refine region_quiet (by kernel_rfl) (by kernel_rfl) ?_
              iterate 32 (go_big_quiet_step (exact calls_ext (right_is hr _)))
              refine wpQuiet_nil ?_
              rintro _ ⟨g, rfl⟩
              go_wp2_with fail
              go_meet
              exact ⟨by rw [HV.out]; simp [stopOk, q5', q2], HE.out.trans (by repeat (first | exact Ext.refl _ | apply Ext.alloc | apply Ext.ext))⟩
      case rest =>
        obtain ⟨rfl, hE2⟩ := hcut
        have HE2 := Lib.hid hE2
        clear hE2
        go_wp2_with fail
        go_roundw
        case rel => exact ⟨k + 1, by omega, by go_num, rfl, HE2.out⟩
        case measure => simp [intOf]; omega
    · have hkn' : ¬ ((k : Int) < (n : Int)) := by omega
      obtain ⟨oo, ho⟩ : ∃ x, okTo n S k = x := ⟨_, rfl⟩
      simp only [ho]
      have HK := Lib.hid (show k = n by omega)
      have HQ : Hid (okTo n S n = oo) := by
        show okTo n S n = oo
        have h := ho
        rw [HK.out] at h
        exact h
      have HE := Lib.hid hE
      have hbw : b < wr.heap.size := Nat.lt_of_lt_of_le hbs hE.size
      clear hE ho
      cases oo
      · have HX := fun w' (h' : Ext wr w') => shade_bad _ n S t w' (hs'.out.ext (HE.out.trans h')) HB.out HQ.out
        have HY := fun w' (h' : Ext wr w') => check_any _ n S w' (hs'.out.ext (HE.out.trans h')) HB.out
        simp only [show checkI n S = 30 by simp [checkI, HQ.out]] at HY
        have HX := Lib.hid HX
        have HY := Lib.hid HY
        go_wp2_with fail
        refine (HX.out _ (by repeat (first | exact Ext.refl _ | apply Ext.alloc | apply Ext.ext))).mono ?_
        rintro e w' ⟨rfl, g, rfl⟩
        go_wp2_with fail
        refine (HY.out _ (by repeat (first | exact Ext.refl _ | apply Ext.alloc | apply Ext.ext))).mono ?_
        rintro e w' ⟨rfl, g1, rfl⟩
        go_wp2_with (go_at_call 15; refine (awake_any _).mono ?_; rintro e w' ⟨rfl, g5, rfl⟩)
        go_ret
        exact ⟨rfl, HE.out.trans (by repeat (first | exact Ext.refl _ | apply Ext.alloc | apply Ext.ext))⟩
      · have G := good_of n S HQ.out
        have g1 := G.one
        have g16 := G.many
        have HY := fun w' (h' : Ext wr w') => check_any _ n S w' (hs'.out.ext (HE.out.trans h')) HB.out
        simp only [show checkI n S = 0 by simp [checkI, HQ.out]] at HY
        have HY := Lib.hid HY
        obtain ⟨c0, c1, c2, c3, c4⟩ := HC.out 0 (by omega)
        obtain ⟨d0, d1, d2, d3, d4⟩ := HC.out (n - 1) (by omega)
        rw [← HE.out.cell hbs] at c0 c1 c2 c3 c4 d0 d1 d2 d3 d4
        simp only [Nat.zero_mul, Nat.zero_add, Nat.add_zero] at c0 c1 c2 c3 c4
        have k0 : (0 : Int) ≤ (n : Int) - 1 := by omega
        have k1 : (n : Int) - 1 < (n : Int) := by omega
        have k2 : (0 : Int) < (n : Int) := by omega
        by_cases hlow : t ≤ (S 0).t
        · have HX := fun w' (h' : Ext wr w') => shade_ends _ n S t w' (hs'.out.ext (HE.out.trans h')) HB.out HQ.out (S 0) (.inl ⟨hlow, rfl⟩)
          have HX := Lib.hid HX
          clear G
          go_wp2_with fail
          refine (HX.out _ (by repeat (first | exact Ext.refl _ | apply Ext.alloc | apply Ext.ext))).mono ?_
          rintro e w' ⟨rfl, g, rfl⟩
          go_wp2_with fail
          refine (HY.out _ (by repeat (first | exact Ext.refl _ | apply Ext.alloc | apply Ext.ext))).mono ?_
          rintro e w' ⟨rfl, g1, rfl⟩
          go_wp2_with fail
          refine region_quiet (by kernel_rfl) (by kernel_rfl) ?_
          iterate 10 (go_big_quiet_step (exact calls_ext (awake_any _)))
          refine wpQuiet_nil ?_
          rintro _ ⟨g2, rfl⟩
          go_wp2
          go_ret
          exact ⟨rfl, HE.out.trans (by repeat (first | exact Ext.refl _ | apply Ext.alloc | apply Ext.ext))⟩
        · have hlow' : (S 0).t < t := by omega
          by_cases hhi : (S (n - 1)).t ≤ t
          · have HX := fun w' (h' : Ext wr w') => shade_ends _ n S t w' (hs'.out.ext (HE.out.trans h')) HB.out HQ.out (S (n - 1)) (.inr ⟨hlow', hhi, rfl⟩)
            have HX := Lib.hid HX
            clear G
            go_wp2_with fail
            refine (HX.out _ (by repeat (first | exact Ext.refl _ | apply Ext.alloc | apply Ext.ext))).mono ?_
            rintro e w' ⟨rfl, g, rfl⟩
            go_wp2_with fail
            refine (HY.out _ (by repeat (first | exact Ext.refl _ | apply Ext.alloc | apply Ext.ext))).mono ?_
            rintro e w' ⟨rfl, g1, rfl⟩
            go_wp2_with fail
            refine region_quiet (by kernel_rfl) (by kernel_rfl) ?_
            iterate 13 (go_big_quiet_step (exact calls_ext (awake_any _)))
            refine wpQuiet_nil ?_
            rintro _ ⟨g2, rfl⟩
            go_wp2
            go_ret
            exact ⟨rfl, HE.out.trans (by repeat (first | exact Ext.refl _ | apply Ext.alloc | apply Ext.ext))⟩
          · have hhi' : t < (S (n - 1)).t := by omega
            obtain ⟨i0, hi, ht, hlt⟩ := exists_first (fun j => t < (S j).t) n ⟨n - 1, by omega, hhi'⟩
            obtain ⟨j0, rfl⟩ : ∃ j0, i0 = j0 + 1 := ⟨i0 - 1, by have : i0 ≠ 0 := fun e => by subst e; exact absurd ht (by omega)
                                                                omega⟩
            have HX := fun w' (h' : Ext wr w') => shade_mid _ n S t w' (hs'.out.ext (HE.out.trans h')) HB.out HQ.out (j0 + 1) (by omega) hi ht hlt hlow' hhi'
            simp only [Nat.add_sub_cancel] at HX
            have HX := Lib.hid HX
            have HG := Lib.hid (fun j (h : j < n) => G.mono (j0 + 1) j)
            have HL := Lib.hid hlt
            obtain ⟨x0, x1, x2, x3, x4⟩ := HC.out j0 (by omega)
            obtain ⟨y0, y1, y2, y3, y4⟩ := HC.out (j0 + 1) hi
            rw [← HE.out.cell hbs] at x0 x1 x2 x3 x4 y0 y1 y2 y3 y4
            obtain ⟨-, B1, B2, B3, B4⟩ := HB.out j0 (by omega)
            obtain ⟨-, C1, C2, C3, C4⟩ := HB.out (j0 + 1) hi
            have p1 : (S j0).t ≤ t := by have := hlt j0 (by omega); omega
            have p2 := G.lo j0 (by omega)
            have p3 := G.hi (j0 + 1) hi
            have q0 : 0 ≤ (t - (S j0).t) * 65536 ∧ (t - (S j0).t) * 65536 ≤ 4294967296 := by omega
            have q1 : 1 ≤ (S (j0 + 1)).t - (S j0).t ∧ (S (j0 + 1)).t - (S j0).t ≤ 65536 := by omega
            have q2 : ¬ (S (j0 + 1)).t - (S j0).t = 0 := by omega
            have HP := Lib.hid (show (t - (S j0).t) * 65536 / ((S (j0 + 1)).t - (S j0).t) = placeI S (j0 + 1) t from rfl)
            have r0 : 0 ≤ placeI S (j0 + 1) t := by rw [← HP.out]; exact Int.ediv_nonneg q0.1 (by omega)
            have r1 : placeI S (j0 + 1) t ≤ 65536 := by
              rw [← HP.out]
              refine Int.ediv_le_of_le_mul (by omega) ?_
              omega
            have R : rightB (mixI (S j0).r (S (j0 + 1)).r (placeI S (j0 + 1) t)) (mixI (S j0).g (S (j0 + 1)).g (placeI S (j0 + 1) t)) (mixI (S j0).b (S (j0 + 1)).b (placeI S (j0 + 1) t)) (mixI (S j0).a (S (j0 + 1)).a (placeI S (j0 + 1) t)) = true := by
              have h1 := G.right j0 (by omega)
              have h2 := G.right (j0 + 1) hi
              simp only [rightB, decide_eq_true_eq] at h1 h2 ⊢
              have i0 := mixI_mono (c := (S j0).r) (d := (S (j0 + 1)).r) (c' := (S j0).a) (d' := (S (j0 + 1)).a) ⟨r0, r1⟩ (by omega) (by omega)
              have i1 := mixI_mono (c := (S j0).g) (d := (S (j0 + 1)).g) (c' := (S j0).a) (d' := (S (j0 + 1)).a) ⟨r0, r1⟩ (by omega) (by omega)
              have i2 := mixI_mono (c := (S j0).b) (d := (S (j0 + 1)).b) (c' := (S j0).a) (d' := (S (j0 + 1)).a) ⟨r0, r1⟩ (by omega) (by omega)
              omega
            have HR := Lib.hid R
            have m0 : ∀ c d : Int, (0 ≤ c ∧ c ≤ 255) → (0 ≤ d ∧ d ≤ 255) → 0 ≤ mixI c d (placeI S (j0 + 1) t) ∧ mixI c d (placeI S (j0 + 1) t) ≤ 255 := fun c d hc hd => by
              have := mixI_between (c := c) (d := d) ⟨r0, r1⟩; omega
            have M0 := Lib.hid m0
            clear G R m0 hlt
            go_wp2_with fail
            refine (HX.out _ (by repeat (first | exact Ext.refl _ | apply Ext.alloc | apply Ext.ext))).mono ?_
            rintro e w' ⟨rfl, g, rfl⟩
            go_wp2_with fail
            refine (HY.out _ (by repeat (first | exact Ext.refl _ | apply Ext.alloc | apply Ext.ext))).mono ?_
            rintro e w' ⟨rfl, g1, rfl⟩
            go_wp2_with fail
            go_loop [10, 132] (fun t10 t132 => ∃ q : Nat, q ≤ n ∧ t132 = .int .i64 q ∧ t10 = .int .i64 ((min (q - 1) j0 : Nat) : Int)) (fun _ t132 => n - (intOf t132).toNat)
            case atStart => exact ⟨0, by omega, rfl, by simp⟩
            case round =>
              obtain ⟨q, hq, rfl, rfl⟩ := hrel
              by_cases hqn : q < n
              · obtain ⟨z0, z1, z2, z3, z4⟩ := HC.out q hqn
                rw [← HE.out.cell hbs] at z0 z1 z2 z3 z4
                by_cases hq2 : q < j0 + 1
                · have z5 : (S q).t ≤ t := by have := HL.out q hq2; omega
                  go_wp2_with fail
                  go_round
                  case rel => exact ⟨q + 1, by omega, by go_num, by rw [show min (q + 1 - 1) j0 = q by omega]⟩
                  case measure => simp [intOf]; omega
                · have z5 : t < (S q).t := by have := HG.out q hqn (by omega) hqn; omega
                  go_wp2_with fail
                  go_round
                  case rel => exact ⟨q + 1, by omega, by go_num, by rw [show min (q + 1 - 1) j0 = min (q - 1) j0 by omega]⟩
                  case measure => simp [intOf]; omega
              · have hqn' : ¬ ((q : Int) < (n : Int)) := by omega
                have ej : min (q - 1) j0 = j0 := by omega
                rw [ej]
                clear ej
                have u0 : (j0 : Int) < (n : Int) := by omega
                have u1 : (j0 : Int) + 1 < (n : Int) := by omega
                go_wp2_with fail
                refine region_quiet (by kernel_rfl) (by kernel_rfl) ?_
                iterate 21 (go_big_quiet_step (fail))
                try rw [HP.out]
                iterate 1 (go_big_quiet_step (fail))
                refine wpQuiet_nil ?_
                rintro _ ⟨g2, rfl⟩
                go_wp2_with fail
                refine region_quiet (by kernel_rfl) (by kernel_rfl) ?_
                iterate 7 (go_big_quiet_step (exact calls_ext (ref_any _ _ _ _ _ B1 B2 B3 B4)))
                iterate 7 (go_big_quiet_step (exact calls_ext (ref_any _ _ _ _ _ C1 C2 C3 C4)))
                iterate 2 (go_big_quiet_step (exact calls_ext (refMix_any _ _ _ _ _ _ _ _ _ _ B1 B2 B3 B4 C1 C2 C3 C4 ⟨r0, r1⟩)))
                iterate 3 (go_big_quiet_step (exact calls_ext (is_yes _ _ _ _ _ (M0.out _ _ B1 C1) (M0.out _ _ B2 C2) (M0.out _ _ B3 C3) (M0.out _ _ B4 C4))))
                iterate 3 (go_big_quiet_step (exact calls_ext (right_yes HR.out _)))
                iterate 3 (go_big_quiet_step (exact calls_ext (awake_any _)))
                refine wpQuiet_nil ?_
                rintro _ ⟨g3, rfl⟩
                go_wp2
                go_ret
                exact ⟨rfl, HE.out.trans (by repeat (first | exact Ext.refl _ | apply Ext.alloc | apply Ext.ext))⟩
end Go.Proofs.Ytnginblfdamfbaa
