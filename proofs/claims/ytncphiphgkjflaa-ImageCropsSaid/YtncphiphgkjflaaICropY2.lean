import Derived.Test.YtncphiphgkjflaaICropW2
namespace Go.Proofs.Ytncphiphgkjflaa
open Go.RowKit Go.Shelf
set_option linter.unusedVariables false
set_option linter.unusedSimpArgs false

set_option maxRecDepth 100000 in
set_option maxHeartbeats 12800000 in
theorem crops_2_good (W H : Nat) (v : Value) (l : List Px) (x0 y0 x1 y1 d e : Nat) (px py : Int) (w : World) (hl : Pix .u8 w v l) (hn : l.length ≤ 400) (h1 : rightI (W : Int) (H : Int) l = true) (hpx : -9223372036854775808 ≤ px ∧ px ≤ 9223372036854775807) (hpy : -9223372036854775808 ≤ py ∧ py ≤ 9223372036854775807) (hp1 : 0 ≤ px) (hp2 : ¬ px < (W : Int)) (hx0 : x0 + d = x1) (hd0 : 1 ≤ d) (hx1 : x1 ≤ W) (hy0 : y0 + e = y1) (he0 : 1 ≤ e) (hy1 : y1 ≤ H) :
    Calls Try.prog 3 #[.agg #[.int .i64 (W : Int), .int .i64 (H : Int), v], .agg #[.int .i64 (x0 : Int), .int .i64 (y0 : Int), .int .i64 (x1 : Int), .int .i64 (y1 : Int)], .agg #[.int .i64 px, .int .i64 py]] w fun e w' => e = .returned (.bool true) ∧ Ext w w' := by
  have hside : sideB (W : Int) = true ∧ sideB (H : Int) = true ∧ l.length = W * H := by
    have a := h1
    unfold rightI at a
    simp only [Bool.and_eq_true, decide_eq_true_eq] at a
    exact ⟨a.1.1.1, a.1.1.2, by have := a.1.2; exact_mod_cast this⟩
  have hWb : 1 ≤ W ∧ W ≤ 256 := by have := hside.1; simp [sideB] at this; omega
  have hHb : 1 ≤ H ∧ H ≤ 256 := by have := hside.2.1; simp [sideB] at this; omega
  have HL := Lib.hid hside.2.2
  clear hside
  have P := Lib.hid hl
  obtain ⟨X, c, rfl, hc1, hc2, _⟩ := hl
  obtain ⟨N, hN⟩ : ∃ N, l.length = N := ⟨_, rfl⟩
  rw [hN] at P hc1
  rw [hN]
  have HN := Lib.hid hN
  clear hN
  have hn' : N ≤ 400 := by rw [← HN.out]; exact hn
  have SM := Lib.hid (fun wx => small_any (W : Int) (H : Int) X N c wx)
  rw [show decide ((N : Int) ≤ 400) = true by simp; omega] at SM
  have RF := Lib.hid (fun wx (hx : Ext w wx) => ref_any (W : Int) (H : Int) (.slice X N c) l wx (P.out.ext hx) hn)
  have AT := Lib.hid (fun wx (hx : Ext w wx) => at_out (W : Int) (H : Int) (.slice X N c) l px py wx (P.out.ext hx) hpx hpy (by unfold hasB; simp; omega))
  have CY := Lib.hid (fun wx (hx : Ext w wx) => crop_yes W H (.slice X N c) l x0 y0 x1 y1 d wx (P.out.ext hx) h1 hn hx0 hd0 hx1 (by omega) hy1)
  have hd' : (x1 : Int) - (x0 : Int) = (d : Int) := by omega
  have he' : (y1 : Int) - (y0 : Int) = (e : Int) := by omega
  rw [hd', he', show y1 - y0 = e by omega] at CY
  obtain ⟨M, hM⟩ : ∃ M, cropPre W l x0 d y0 e = M := ⟨_, rfl⟩
  have hML := cropPre_len (W := W) (H := H) (y0 := y0) HL.out (show x0 + d ≤ W by omega) e (by omega)
  rw [hM] at hML CY
  obtain ⟨ML, hMl⟩ : ∃ ML, M.length = ML := ⟨_, rfl⟩
  have HML := Lib.hid hMl
  have HMX : Hid (e * d = ML) := Lib.hid (by rw [← hML, hMl])
  have hML4 : ML ≤ 65536 := by rw [← HMX.out]; exact Nat.mul_le_mul (show e ≤ 256 by omega) (show d ≤ 256 by omega)
  have HMR : Hid (rightI (d : Int) (e : Int) M = true) := Lib.hid (by
    have a := h1
    unfold rightI at a ⊢
    simp only [Bool.and_eq_true, decide_eq_true_eq] at a ⊢
    refine ⟨⟨⟨by unfold sideB; simp; omega, by unfold sideB; simp; omega⟩, ?_⟩, by rw [← hM]; exact cropPre_right a.2 e⟩
    rw [hMl, ← HMX.out, Nat.mul_comm]
    simp)
  have HM := Lib.hid hM
  clear hM hML hMl
  go_enter Try.func3, Try.ntmps3
  go_wp2_with fail
  refine (SM.out _).mono ?_
  rintro e w1 ⟨rfl, g1, rfl⟩
  go_wp2_with fail
  refine (RF.out _ (by (repeat (first | exact Ext.refl _ | apply Ext.alloc | apply Ext.ext)))).mono ?_
  rintro e w2 ⟨v2, rfl, hO2, g2, rfl⟩
  have P2 := Lib.hid hO2.pix
  obtain ⟨A2, c2, rfl⟩ := own_slice hO2.1
  clear hO2
  rw [HN.out] at P2 ⊢
  have RI := refRightImg_any (W : Int) (H : Int) (.slice A2 N c2) l _ (by omega) (by omega) P2.out
  rw [h1] at RI
  have RI := Lib.hid RI
  go_wp2_with fail
  refine RI.out.mono ?_
  rintro e w3 ⟨rfl, g3, rfl⟩
  go_wp2_with fail
  refine (AT.out _ (by (repeat (first | exact Ext.refl _ | apply Ext.alloc | apply Ext.ext)))).mono ?_
  rintro e' w4 ⟨rfl, g4, rfl⟩
  go_wp2
  obtain ⟨wz, hwz⟩ : ∃ wz, ((((((((w.alloc (.cells #[.int .i64 (W : Int), .int .i64 (H : Int), .slice X N c] 24)).alloc (.cells #[.int .i64 (x0 : Int), .int .i64 (y0 : Int), .int .i64 (x1 : Int), .int .i64 (y1 : Int)] 26)).alloc (.cells #[.int .i64 px, .int .i64 py] 28)).ext g1).ext g2).ext g3).ext g4).alloc (.cells #[.int .u8 0, .int .u8 0, .int .u8 0, .int .u8 0] 40)) = wz := ⟨_, rfl⟩
  obtain ⟨q, hq⟩ : ∃ q, w.heap.size = q := ⟨_, rfl⟩
  obtain ⟨B9, hB9⟩ : ∃ B9, w.heap.size + (3 + (g1.blocks.size + (g2.blocks.size + (g3.blocks.size + g4.blocks.size)))) = B9 := ⟨_, rfl⟩
  have EZ : Hid (Ext w wz) := Lib.hid (by rw [← hwz]; (repeat (first | exact Ext.refl _ | apply Ext.alloc | apply Ext.ext)))
  have i0 : wz.cell? ⟨q, 0, none⟩ = some (.int .i64 (W : Int)) := by rw [← hwz, ← hq]; simp [go_sem]
  have i1 : wz.cell? ⟨q, 1, none⟩ = some (.int .i64 (H : Int)) := by rw [← hwz, ← hq]; simp [go_sem]
  have i2 : wz.cell? ⟨q, 2, none⟩ = some (.slice X N c) := by rw [← hwz, ← hq]; simp [go_sem]
  have j0 : wz.cell? ⟨q + 1, 0, none⟩ = some (.int .i64 (x0 : Int)) := by rw [← hwz, ← hq]; simp [go_sem]
  have j1 : wz.cell? ⟨q + 1, 1, none⟩ = some (.int .i64 (y0 : Int)) := by rw [← hwz, ← hq]; simp [go_sem]
  have j2 : wz.cell? ⟨q + 1, 2, none⟩ = some (.int .i64 (x1 : Int)) := by rw [← hwz, ← hq]; simp [go_sem]
  have j3 : wz.cell? ⟨q + 1, 3, none⟩ = some (.int .i64 (y1 : Int)) := by rw [← hwz, ← hq]; simp [go_sem]
  have p0 : wz.cell? ⟨q + 2, 0, none⟩ = some (.int .i64 px) := by rw [← hwz, ← hq]; simp [go_sem]
  have p1 : wz.cell? ⟨q + 2, 1, none⟩ = some (.int .i64 py) := by rw [← hwz, ← hq]; simp [go_sem]
  have s0 : wz.cell? ⟨B9, 0, none⟩ = some (.int .u8 0) := by rw [← hwz, ← hB9]; simp [go_sem]
  have s1 : wz.cell? ⟨B9, 1, none⟩ = some (.int .u8 0) := by rw [← hwz, ← hB9]; simp [go_sem]
  have s2 : wz.cell? ⟨B9, 2, none⟩ = some (.int .u8 0) := by rw [← hwz, ← hB9]; simp [go_sem]
  have s3 : wz.cell? ⟨B9, 3, none⟩ = some (.int .u8 0) := by rw [← hwz, ← hB9]; simp [go_sem]
  have hz : B9 < wz.heap.size ∧ q + 2 < wz.heap.size := by rw [← hwz, ← hB9, ← hq]; simp only [World.size_alloc, ext_size]; omega
  rw [hwz, hB9, hq]
  clear hwz hB9 hq
  have FC : Hid (∀ wr, Ext wz wr → (wr.cell? ⟨q, 0, none⟩ = some (.int .i64 (W : Int)) ∧ wr.cell? ⟨q, 1, none⟩ = some (.int .i64 (H : Int)) ∧ wr.cell? ⟨q, 2, none⟩ = some (.slice X N c)) ∧ (wr.cell? ⟨q + 1, 0, none⟩ = some (.int .i64 (x0 : Int)) ∧ wr.cell? ⟨q + 1, 1, none⟩ = some (.int .i64 (y0 : Int)) ∧ wr.cell? ⟨q + 1, 2, none⟩ = some (.int .i64 (x1 : Int)) ∧ wr.cell? ⟨q + 1, 3, none⟩ = some (.int .i64 (y1 : Int))) ∧ (q < wr.heap.size ∧ q + 1 < wr.heap.size)) := Lib.hid (fun wr hk =>
    ⟨⟨(hk.cell (by omega)).trans i0, (hk.cell (by omega)).trans i1, (hk.cell (by omega)).trans i2⟩, ⟨(hk.cell (by omega)).trans j0, (hk.cell (by omega)).trans j1, (hk.cell (by omega)).trans j2, (hk.cell (by omega)).trans j3⟩, by have := hk.size; omega, by have := hk.size; omega⟩)
  go_wp2
  have ki0 := fun g => ((show Ext wz (wz.ext g) from ⟨g, rfl⟩).cell (by omega)).trans i0
  have ki1 := fun g => ((show Ext wz (wz.ext g) from ⟨g, rfl⟩).cell (by omega)).trans i1
  have ki2 := fun g => ((show Ext wz (wz.ext g) from ⟨g, rfl⟩).cell (by omega)).trans i2
  have kp0 := fun g => ((show Ext wz (wz.ext g) from ⟨g, rfl⟩).cell (by omega)).trans p0
  have kp1 := fun g => ((show Ext wz (wz.ext g) from ⟨g, rfl⟩).cell (by omega)).trans p1
  have ks0 := fun g => ((show Ext wz (wz.ext g) from ⟨g, rfl⟩).cell hz.1).trans s0
  have ks1 := fun g => ((show Ext wz (wz.ext g) from ⟨g, rfl⟩).cell hz.1).trans s1
  have ks2 := fun g => ((show Ext wz (wz.ext g) from ⟨g, rfl⟩).cell hz.1).trans s2
  have ks3 := fun g => ((show Ext wz (wz.ext g) from ⟨g, rfl⟩).cell hz.1).trans s3
  refine region_flow 41 [99] (fun t v => match t with | 99 => v = .agg #[.int .i64 0, .int .i64 0, .int .i64 (W : Int), .int .i64 (H : Int)] | _ => False) (fun t v w' => True) (by kernel_rfl) (by kernel_rfl) ?hq ?hu ?hR ?h
  case hq => intro t v h; split at h <;> simp_all
  case hu => intro t h; split at h <;> simp_all [undef]
  case hR => intros; trivial
  case h =>
    dsimp only [List.take, List.drop]
    repeat (first | (refine Flow.skip rfl ?_; simp only [Act.put, List.setIfInBounds_toArray, List.set_cons_zero, List.set_cons_succ]) | (refine Flow.plain rfl rfl ?_; go_big_quiet_step (fail); refine wpQuiet_nil ?_))
    refine Flow.call Try.call15 [.agg #[.int .i64 (W : Int), .int .i64 (H : Int), .slice X N c]] rfl rfl rfl ?_ (fun wx hx hf => (box_any (W : Int) (H : Int) (.slice X N c) wx).mono ?_) ?_
    · exact ⟨_, rfl⟩
    · exact fun e w' ⟨h1, h2⟩ => ⟨_, h1, h2, rfl, trivial⟩
    rintro v rfl
    simp only [Act.put, List.setIfInBounds_toArray, List.set_cons_zero, List.set_cons_succ]
    repeat (first | (refine Flow.skip rfl ?_; simp only [Act.put, List.setIfInBounds_toArray, List.set_cons_zero, List.set_cons_succ]) | (refine Flow.plain rfl rfl ?_; go_big_quiet_step (fail); refine wpQuiet_nil ?_))
    refine Flow.nil fun w6 hx6 hf => ?_
    have E6 := Lib.hid (EZ.out.trans hx6)
    have HX6 := Lib.hid hx6
    obtain ⟨⟨i0', i1', i2'⟩, ⟨j0', j1', j2', j3'⟩, hz6, hz6'⟩ := FC.out _ hx6
    clear hf hx6 i0 i1 i2 j0 j1 j2 j3 p0 p1 s0 s1 s2 s3 ki0 ki1 ki2 kp0 kp1 ks0 ks1 ks2 ks3
    dsimp only [wpList, Exit.then]
    go_wp2_with fail
    refine (CY.out _ E6.out).mono ?_
    rintro e' w7 ⟨v7, rfl, hO7, hE7⟩
    have E7 := Lib.hid (E6.out.trans hE7)
    obtain ⟨A7, c7, rfl⟩ := own_slice hO7.1
    have P7 := Lib.hid hO7.pix
    rw [HML.out] at P7 ⊢
    have CK7 := Lib.hid (fun wx (hx : Ext w7 wx) => check_any (d : Int) (e : Int) (.slice A7 ML c7) M wx (by omega) (by omega) (P7.out.ext hx))
    rw [HMR.out, show errB true = 0 from rfl] at CK7
    obtain ⟨⟨i0, i1, i2⟩, ⟨j0, j1, j2, j3⟩, hz7, hz7'⟩ := FC.out _ (HX6.out.trans hE7)
    have HX7 := Lib.hid (HX6.out.trans hE7)
    clear i0' i1' i2' j0' j1' j2' j3' hE7 hO7
    go_wp2_with fail
    refine (CK7.out _ ((Ext.refl w7).alloc _)).mono ?_
    rintro e' w8 ⟨rfl, hE8⟩
    have EB := Lib.hid (((Ext.refl w7).alloc (.cells #[.int .i64 (d : Int), .int .i64 (e : Int), .slice A7 ML c7] 24)).trans hE8)
    have hg : w7.heap.size < (w7.alloc (.cells #[.int .i64 (d : Int), .int .i64 (e : Int), .slice A7 ML c7] 24)).heap.size := by simp
    have o0 : w8.cell? ⟨w7.heap.size, 0, none⟩ = some (.int .i64 (d : Int)) := (hE8.cell hg).trans (by simp [go_sem])
    have o1 : w8.cell? ⟨w7.heap.size, 1, none⟩ = some (.int .i64 (e : Int)) := (hE8.cell hg).trans (by simp [go_sem])
    have o2 : w8.cell? ⟨w7.heap.size, 2, none⟩ = some (.slice A7 ML c7) := (hE8.cell hg).trans (by simp [go_sem])
    have hg8 : w7.heap.size < w8.heap.size := Nat.lt_of_lt_of_le hg hE8.size
    clear hE8 hg i0 i1 i2 j0 j1 j2 j3
    obtain ⟨G, hG⟩ : ∃ G, w7.heap.size = G := ⟨_, rfl⟩
    rw [hG] at o0 o1 o2 hg8
    rw [hG]
    clear hG
    have FD : Hid (∀ wr, Ext w8 wr → (wr.cell? ⟨q, 0, none⟩ = some (.int .i64 (W : Int)) ∧ wr.cell? ⟨q, 2, none⟩ = some (.slice X N c)) ∧ (wr.cell? ⟨q + 1, 0, none⟩ = some (.int .i64 (x0 : Int)) ∧ wr.cell? ⟨q + 1, 1, none⟩ = some (.int .i64 (y0 : Int))) ∧ (wr.cell? ⟨G, 0, none⟩ = some (.int .i64 (d : Int)) ∧ wr.cell? ⟨G, 1, none⟩ = some (.int .i64 (e : Int)) ∧ wr.cell? ⟨G, 2, none⟩ = some (.slice A7 ML c7)) ∧ (q < wr.heap.size ∧ q + 1 < wr.heap.size ∧ G < wr.heap.size) ∧ Ext w wr ∧ Pix .u8 wr (.slice A7 ML c7) M) := Lib.hid (fun wr hk =>
      have h := FC.out _ ((HX7.out.trans EB.out).trans hk)
      ⟨⟨h.1.1, h.1.2.2⟩, ⟨h.2.1.1, h.2.1.2.1⟩, ⟨(hk.cell hg8).trans o0, (hk.cell hg8).trans o1, (hk.cell hg8).trans o2⟩, ⟨h.2.2.1, h.2.2.2, Nat.lt_of_lt_of_le hg8 hk.size⟩, (E7.out.trans EB.out).trans hk, P7.out.ext (EB.out.trans hk)⟩)
    go_wp2
    clear o0 o1 o2
    go_loopw [187] (fun t187 wr => ∃ y : Nat, y ≤ e ∧ t187 = .int .i64 (y : Int) ∧ Hid (Ext w8 wr)) (fun t187 _ => e - (intOf t187).toNat)
    case atStart => exact ⟨0, by omega, rfl, Lib.hid (Ext.refl _)⟩
    case round =>
      obtain ⟨y, hy, rfl, ST⟩ := hrel
      obtain ⟨_, _, ⟨o0, o1, o2⟩, _⟩ := FD.out _ ST.out
      by_cases hlt : y < e
      · have hlt' : (y : Int) < (e : Int) := by omega
        go_wp2
        clear o0 o1 o2
        go_loopw [192] (fun t192 wr => ∃ x : Nat, x ≤ d ∧ t192 = .int .i64 (x : Int) ∧ Hid (Ext w8 wr)) (fun t192 _ => d - (intOf t192).toNat)
        case atStart => exact ⟨0, by omega, rfl, ST⟩
        case round =>
          clear ST
          obtain ⟨x, hx, rfl, ST⟩ := hrel
          obtain ⟨⟨i0, i2⟩, ⟨j0, j1⟩, ⟨o0, o1, o2⟩, ⟨z1, z2, z3⟩, hEw, hPw⟩ := FD.out _ ST.out
          by_cases hlx : x < d
          · have hlx' : (x : Int) < (d : Int) := by omega
            have hi1 : y * d + x < ML := by
              have h1 : (y + 1) * d ≤ e * d := Nat.mul_le_mul_right _ (by omega)
              rw [Nat.add_mul] at h1
              rw [← HMX.out]
              omega
            have hi2 : (y0 + y) * W + x0 + x < N := by
              have := row_end (W := W) (H := H) (x0 := x0) (d := d) (y := y0 + y) (by omega) (by omega)
              rw [← HL.out, HN.out] at this
              omega
            have hCA := cropPre_at (W := W) (H := H) (y0 := y0) HL.out (show x0 + d ≤ W by omega) e (by omega) y x hlt hlx
            rw [HM.out] at hCA
            obtain ⟨b, off, r, g, u, a, rfl, hbs, hp, hpb, c0, c1, c2, c3⟩ := hPw.at hi1
            obtain ⟨b', off', r', g', u', a', rfl, hbs', hp', hpb', d0, d1, d2, d3⟩ := (P.out.ext hEw).at hi2
            rw [hp, hp'] at hCA
            simp only [Prod.mk.injEq] at hCA
            obtain ⟨rfl, rfl, rfl, rfl⟩ := hCA
            obtain ⟨t1, ht1⟩ : ∃ t, y * d = t := ⟨_, rfl⟩
            obtain ⟨t2, ht2⟩ : ∃ t, (y0 + y) * W = t := ⟨_, rfl⟩
            have ht1' : (y : Int) * (d : Int) = (t1 : Int) := by rw [← ht1]; simp
            have ht2' : ((y0 : Int) + (y : Int)) * (W : Int) = (t2 : Int) := by rw [← ht2]; simp
            rw [ht1] at hi1 c0 c1 c2 c3
            rw [ht2] at hi2 d0 d1 d2 d3
            have hj1 : (t1 : Int) + (x : Int) < (ML : Int) := by omega
            have hj2 : (t2 : Int) + (x0 : Int) + (x : Int) < (N : Int) := by omega
            have hb1 : t1 ≤ 65536 := by omega
            have hb2 : t2 ≤ 400 := by omega
            obtain ⟨ix, hix⟩ : ∃ t, t2 + x0 + x = t := ⟨_, rfl⟩
            have hix' : (t2 : Int) + (x0 : Int) + (x : Int) = (ix : Int) := by omega
            rw [hix] at hi2 d0 d1 d2 d3
            have hj3 : (ix : Int) < (N : Int) := by omega
            clear hix
            clear hp hp' hpb hpb' ht1 ht2
            have hyy : ∀ g, Ext wr (wr.ext g) := fun g => ⟨g, rfl⟩
            replace c0 := fun g => ((hyy g).cell hbs).trans c0
            replace c1 := fun g => ((hyy g).cell hbs).trans c1
            replace c2 := fun g => ((hyy g).cell hbs).trans c2
            replace c3 := fun g => ((hyy g).cell hbs).trans c3
            replace d0 := fun g => ((hyy g).cell hbs').trans d0
            replace d1 := fun g => ((hyy g).cell hbs').trans d1
            replace d2 := fun g => ((hyy g).cell hbs').trans d2
            replace d3 := fun g => ((hyy g).cell hbs').trans d3
            replace i0 := fun g => ((hyy g).cell z1).trans i0
            replace i2 := fun g => ((hyy g).cell z1).trans i2
            replace j0 := fun g => ((hyy g).cell z2).trans j0
            replace j1 := fun g => ((hyy g).cell z2).trans j1
            replace o0 := fun g => ((hyy g).cell z3).trans o0
            replace o2 := fun g => ((hyy g).cell z3).trans o2
            clear hyy o1 hEw hPw
            go_wp2
            refine region_flow 27 [] (fun t v => False) (fun t v w' => True) (by kernel_rfl) (by kernel_rfl) (fun t v h => h.elim) (fun t h => h) (fun _ _ _ _ h => h.elim) ?_
            dsimp only [List.take, List.drop]
            repeat (first | (refine Flow.skip rfl ?_; simp only [Act.put, List.setIfInBounds_toArray, List.set_cons_zero, List.set_cons_succ]) | (refine Flow.plain rfl rfl ?_; go_big_quiet_step (fail); refine wpQuiet_nil ?_))
            refine Flow.nil fun w9 hx9 hf => ?_
            have E9 := Lib.hid (ST.out.trans hx9)
            clear hf hx9 c0 c1 c2 c3 d0 d1 d2 d3 i0 i2 j0 j1 o0 o2
            dsimp only [wpList, Exit.then]
            go_wp2
            go_roundw
            case rel => exact ⟨x + 1, by omega, by go_num, E9⟩
            case measure => simp [intOf]; omega
          · have hlx' : ¬ (x : Int) < (d : Int) := by omega
            clear i0 i2 j0 j1 o0 o1 o2 hEw hPw
            go_wp2
            go_roundw
            case rel => exact ⟨y + 1, by omega, by go_num, ST⟩
            case measure => simp [intOf]; omega
      · have hlt' : ¬ (y : Int) < (e : Int) := by omega
        obtain ⟨_, _, _, _, hEw, _⟩ := FD.out _ ST.out
        have EW := Lib.hid hEw
        clear hEw
        go_wp2_with fail
        refine (awake_any _).mono ?_
        rintro e' w9 ⟨rfl, g9, rfl⟩
        go_wp2
        go_ret
        exact ⟨rfl, EW.out.ext g9⟩

end Go.Proofs.Ytncphiphgkjflaa
