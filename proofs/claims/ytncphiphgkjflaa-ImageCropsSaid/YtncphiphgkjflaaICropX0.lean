import Derived.Test.YtncphiphgkjflaaICropW2
namespace Go.Proofs.Ytncphiphgkjflaa
open Go.RowKit Go.Shelf
set_option linter.unusedVariables false
set_option linter.unusedSimpArgs false

set_option maxRecDepth 100000 in
set_option maxHeartbeats 12800000 in
theorem crops_0_bad (W H : Nat) (v : Value) (l : List Px) (a0 b0 a1 b1 : Int) (px py : Nat) (w : World) (hl : Pix .u8 w v l) (hn : l.length ≤ 400) (h1 : rightI (W : Int) (H : Int) l = true) (hpx : px < W) (hpy : py < H) (hb1 : -9223372036854775808 ≤ a0 ∧ a0 ≤ 9223372036854775807) (hb2 : -9223372036854775808 ≤ b0 ∧ b0 ≤ 9223372036854775807) (hb3 : -9223372036854775808 ≤ a1 ∧ a1 ≤ 9223372036854775807) (hb4 : -9223372036854775808 ≤ b1 ∧ b1 ≤ 9223372036854775807) (hbad : a0 < 0 ∨ (¬ a0 < 0 ∧ b0 < 0) ∨ (¬ a0 < 0 ∧ ¬ b0 < 0 ∧ (W : Int) < a1) ∨ (¬ a0 < 0 ∧ ¬ b0 < 0 ∧ ¬ (W : Int) < a1 ∧ (H : Int) < b1) ∨ (¬ a0 < 0 ∧ ¬ b0 < 0 ∧ ¬ (W : Int) < a1 ∧ ¬ (H : Int) < b1 ∧ a1 ≤ a0) ∨ (¬ a0 < 0 ∧ ¬ b0 < 0 ∧ ¬ (W : Int) < a1 ∧ ¬ (H : Int) < b1 ∧ ¬ a1 ≤ a0 ∧ b1 ≤ b0)) :
    Calls Try.prog 3 #[.agg #[.int .i64 (W : Int), .int .i64 (H : Int), v], .agg #[.int .i64 a0, .int .i64 b0, .int .i64 a1, .int .i64 b1], .agg #[.int .i64 (px : Int), .int .i64 (py : Int)]] w fun e w' => e = .returned (.bool true) ∧ Ext w w' := by
  have hside : sideB (W : Int) = true ∧ sideB (H : Int) = true ∧ l.length = W * H := by
    have a := h1
    unfold rightI at a
    simp only [Bool.and_eq_true, decide_eq_true_eq] at a
    exact ⟨a.1.1.1, a.1.1.2, by have := a.1.2; exact_mod_cast this⟩
  have hWb : 1 ≤ W ∧ W ≤ 256 := by have := hside.1; simp [sideB] at this; omega
  have hHb : 1 ≤ H ∧ H ≤ 256 := by have := hside.2.1; simp [sideB] at this; omega
  have HL := Lib.hid hside.2.2
  clear hside
  have P := Lib.hid hl
  obtain ⟨X, c, rfl, hc1, hc2, _⟩ := hl
  obtain ⟨N, hN⟩ : ∃ N, l.length = N := ⟨_, rfl⟩
  rw [hN] at P hc1
  rw [hN]
  have HN := Lib.hid hN
  clear hN
  have hn' : N ≤ 400 := by rw [← HN.out]; exact hn
  have SM := Lib.hid (fun wx => small_any (W : Int) (H : Int) X N c wx)
  rw [show decide ((N : Int) ≤ 400) = true by simp; omega] at SM
  have RF := Lib.hid (fun wx (hx : Ext w wx) => ref_any (W : Int) (H : Int) (.slice X N c) l wx (P.out.ext hx) hn)
  have hend : py * W + px < l.length := by
    have := row_end (W := W) (H := H) (x0 := px) (d := 1) (y := py) hpy (by omega)
    rw [HL.out]; omega
  have ATI := at_in W H (.slice X N c) l px py
  have AT := Lib.hid (fun wx (hx : Ext w wx) => ATI wx (P.out.ext hx) HL.out (by omega) (by omega) hpx hpy)
  clear ATI
  obtain ⟨ix, hix⟩ : ∃ t, py * W + px = t := ⟨_, rfl⟩
  obtain ⟨tp, htp⟩ : ∃ t, py * W = t := ⟨_, rfl⟩
  have htp' : (py : Int) * (W : Int) = (tp : Int) := by rw [← htp]; simp
  have hix' : (tp : Int) + (px : Int) = (ix : Int) := by rw [← hix, ← htp]; simp
  rw [hix] at hend AT
  rw [HN.out] at hend
  obtain ⟨b, off, r, g, u, a, rfl, hbs, hp, hpb, e0, e1, e2, e3⟩ := P.out.at hend
  rw [hp] at AT
  dsimp only [valP] at AT
  have hj0 : (ix : Int) < (N : Int) := by omega
  clear hp hix htp hpb
  have CN := Lib.hid (fun wx (hx : Ext w wx) => crop_no (W : Int) (H : Int) (.slice (some ⟨b, off, none⟩) N c) l a0 b0 a1 b1 wx (by omega) (by omega) (P.out.ext hx) (by unfold inside; simp; intro _; omega))
  go_enter Try.func3, Try.ntmps3
  go_wp2_with fail
  refine (SM.out _).mono ?_
  rintro e w1 ⟨rfl, g1, rfl⟩
  go_wp2_with fail
  refine (RF.out _ (by (repeat (first | exact Ext.refl _ | apply Ext.alloc | apply Ext.ext)))).mono ?_
  rintro e w2 ⟨v2, rfl, hO2, g2, rfl⟩
  have P2 := Lib.hid hO2.pix
  obtain ⟨A2, c2, rfl⟩ := own_slice hO2.1
  clear hO2
  rw [HN.out] at P2 ⊢
  have RI := refRightImg_any (W : Int) (H : Int) (.slice A2 N c2) l _ (by omega) (by omega) P2.out
  rw [h1] at RI
  have RI := Lib.hid RI
  go_wp2_with fail
  refine RI.out.mono ?_
  rintro e w3 ⟨rfl, g3, rfl⟩
  go_wp2_with fail
  refine (AT.out _ (by (repeat (first | exact Ext.refl _ | apply Ext.alloc | apply Ext.ext)))).mono ?_
  rintro e' w4 ⟨rfl, hE4⟩
  obtain ⟨g4, rfl⟩ := hE4
  go_wp2
  obtain ⟨wz, hwz⟩ : ∃ wz, ((((((((w.alloc (.cells #[.int .i64 (W : Int), .int .i64 (H : Int), .slice (some ⟨b, off, none⟩) N c] 24)).alloc (.cells #[.int .i64 a0, .int .i64 b0, .int .i64 a1, .int .i64 b1] 26)).alloc (.cells #[.int .i64 (px : Int), .int .i64 (py : Int)] 28)).ext g1).ext g2).ext g3).ext g4).alloc (.cells #[.int .u8 (r : Int), .int .u8 (g : Int), .int .u8 (u : Int), .int .u8 (a : Int)] 40)) = wz := ⟨_, rfl⟩
  obtain ⟨q, hq⟩ : ∃ q, w.heap.size = q := ⟨_, rfl⟩
  obtain ⟨B9, hB9⟩ : ∃ B9, w.heap.size + (3 + (g1.blocks.size + (g2.blocks.size + (g3.blocks.size + g4.blocks.size)))) = B9 := ⟨_, rfl⟩
  have EZ : Hid (Ext w wz) := Lib.hid (by rw [← hwz]; (repeat (first | exact Ext.refl _ | apply Ext.alloc | apply Ext.ext)))
  have i0 : wz.cell? ⟨q, 0, none⟩ = some (.int .i64 (W : Int)) := by rw [← hwz, ← hq]; simp [go_sem]
  have i1 : wz.cell? ⟨q, 1, none⟩ = some (.int .i64 (H : Int)) := by rw [← hwz, ← hq]; simp [go_sem]
  have i2 : wz.cell? ⟨q, 2, none⟩ = some (.slice (some ⟨b, off, none⟩) N c) := by rw [← hwz, ← hq]; simp [go_sem]
  have j0 : wz.cell? ⟨q + 1, 0, none⟩ = some (.int .i64 a0) := by rw [← hwz, ← hq]; simp [go_sem]
  have j1 : wz.cell? ⟨q + 1, 1, none⟩ = some (.int .i64 b0) := by rw [← hwz, ← hq]; simp [go_sem]
  have j2 : wz.cell? ⟨q + 1, 2, none⟩ = some (.int .i64 a1) := by rw [← hwz, ← hq]; simp [go_sem]
  have j3 : wz.cell? ⟨q + 1, 3, none⟩ = some (.int .i64 b1) := by rw [← hwz, ← hq]; simp [go_sem]
  have p0 : wz.cell? ⟨q + 2, 0, none⟩ = some (.int .i64 (px : Int)) := by rw [← hwz, ← hq]; simp [go_sem]
  have p1 : wz.cell? ⟨q + 2, 1, none⟩ = some (.int .i64 (py : Int)) := by rw [← hwz, ← hq]; simp [go_sem]
  have s0 : wz.cell? ⟨B9, 0, none⟩ = some (.int .u8 (r : Int)) := by rw [← hwz, ← hB9]; simp [go_sem]
  have s1 : wz.cell? ⟨B9, 1, none⟩ = some (.int .u8 (g : Int)) := by rw [← hwz, ← hB9]; simp [go_sem]
  have s2 : wz.cell? ⟨B9, 2, none⟩ = some (.int .u8 (u : Int)) := by rw [← hwz, ← hB9]; simp [go_sem]
  have s3 : wz.cell? ⟨B9, 3, none⟩ = some (.int .u8 (a : Int)) := by rw [← hwz, ← hB9]; simp [go_sem]
  have hz : B9 < wz.heap.size ∧ q + 2 < wz.heap.size := by rw [← hwz, ← hB9, ← hq]; simp only [World.size_alloc, ext_size]; omega
  rw [hwz, hB9, hq]
  clear hwz hB9 hq
  have FC : Hid (∀ wr, Ext wz wr → (wr.cell? ⟨q, 0, none⟩ = some (.int .i64 (W : Int)) ∧ wr.cell? ⟨q, 1, none⟩ = some (.int .i64 (H : Int)) ∧ wr.cell? ⟨q, 2, none⟩ = some (.slice (some ⟨b, off, none⟩) N c)) ∧ (wr.cell? ⟨q + 1, 0, none⟩ = some (.int .i64 a0) ∧ wr.cell? ⟨q + 1, 1, none⟩ = some (.int .i64 b0) ∧ wr.cell? ⟨q + 1, 2, none⟩ = some (.int .i64 a1) ∧ wr.cell? ⟨q + 1, 3, none⟩ = some (.int .i64 b1)) ∧ (q < wr.heap.size ∧ q + 1 < wr.heap.size)) := Lib.hid (fun wr hk =>
    ⟨⟨(hk.cell (by omega)).trans i0, (hk.cell (by omega)).trans i1, (hk.cell (by omega)).trans i2⟩, ⟨(hk.cell (by omega)).trans j0, (hk.cell (by omega)).trans j1, (hk.cell (by omega)).trans j2, (hk.cell (by omega)).trans j3⟩, by have := hk.size; omega, by have := hk.size; omega⟩)
  go_wp2
  have ke0 := fun g => ((EZ.out.ext g).cell hbs).trans e0
  have ke1 := fun g => ((EZ.out.ext g).cell hbs).trans e1
  have ke2 := fun g => ((EZ.out.ext g).cell hbs).trans e2
  have ke3 := fun g => ((EZ.out.ext g).cell hbs).trans e3
  have ki0 := fun g => ((show Ext wz (wz.ext g) from ⟨g, rfl⟩).cell (by omega)).trans i0
  have ki1 := fun g => ((show Ext wz (wz.ext g) from ⟨g, rfl⟩).cell (by omega)).trans i1
  have ki2 := fun g => ((show Ext wz (wz.ext g) from ⟨g, rfl⟩).cell (by omega)).trans i2
  have kp0 := fun g => ((show Ext wz (wz.ext g) from ⟨g, rfl⟩).cell (by omega)).trans p0
  have kp1 := fun g => ((show Ext wz (wz.ext g) from ⟨g, rfl⟩).cell (by omega)).trans p1
  have ks0 := fun g => ((show Ext wz (wz.ext g) from ⟨g, rfl⟩).cell hz.1).trans s0
  have ks1 := fun g => ((show Ext wz (wz.ext g) from ⟨g, rfl⟩).cell hz.1).trans s1
  have ks2 := fun g => ((show Ext wz (wz.ext g) from ⟨g, rfl⟩).cell hz.1).trans s2
  have ks3 := fun g => ((show Ext wz (wz.ext g) from ⟨g, rfl⟩).cell hz.1).trans s3
  refine region_flow 41 [99] (fun t v => match t with | 99 => v = .agg #[.int .i64 0, .int .i64 0, .int .i64 (W : Int), .int .i64 (H : Int)] | _ => False) (fun t v w' => True) (by kernel_rfl) (by kernel_rfl) ?hq ?hu ?hR ?h
  case hq => intro t v h; split at h <;> simp_all
  case hu => intro t h; split at h <;> simp_all [undef]
  case hR => intros; trivial
  case h =>
    dsimp only [List.take, List.drop]
    repeat (first | (refine Flow.skip rfl ?_; simp only [Act.put, List.setIfInBounds_toArray, List.set_cons_zero, List.set_cons_succ]) | (refine Flow.plain rfl rfl ?_; go_big_quiet_step (fail); refine wpQuiet_nil ?_))
    refine Flow.call Try.call15 [.agg #[.int .i64 (W : Int), .int .i64 (H : Int), .slice (some ⟨b, off, none⟩) N c]] rfl rfl rfl ?_ (fun wx hx hf => (box_any (W : Int) (H : Int) (.slice (some ⟨b, off, none⟩) N c) wx).mono ?_) ?_
    · exact ⟨_, rfl⟩
    · exact fun e w' ⟨h1, h2⟩ => ⟨_, h1, h2, rfl, trivial⟩
    rintro v rfl
    simp only [Act.put, List.setIfInBounds_toArray, List.set_cons_zero, List.set_cons_succ]
    repeat (first | (refine Flow.skip rfl ?_; simp only [Act.put, List.setIfInBounds_toArray, List.set_cons_zero, List.set_cons_succ]) | (refine Flow.plain rfl rfl ?_; go_big_quiet_step (fail); refine wpQuiet_nil ?_))
    refine Flow.nil fun w6 hx6 hf => ?_
    have E6 := Lib.hid (EZ.out.trans hx6)
    have HX6 := Lib.hid hx6
    obtain ⟨⟨i0', i1', i2'⟩, ⟨j0', j1', j2', j3'⟩, hz6, hz6'⟩ := FC.out _ hx6
    clear hf hx6 i0 i1 i2 j0 j1 j2 j3 p0 p1 s0 s1 s2 s3 ki0 ki1 ki2 kp0 kp1 ks0 ks1 ks2 ks3
    dsimp only [wpList, Exit.then]
    clear e0 e1 e2 e3 ke0 ke1 ke2 ke3
    go_wp2_with fail
    refine (CN.out _ E6.out).mono ?_
    rintro e w7 ⟨rfl, hE7⟩
    have E7 := Lib.hid (E6.out.trans hE7)
    obtain ⟨⟨i0, i1, i2⟩, ⟨j0, j1, j2, j3⟩, hz7, hz7'⟩ := FC.out _ (HX6.out.trans hE7)
    clear i0' i1' i2' j0' j1' j2' j3' hE7
    rcases hbad with h1 | ⟨h1, h2⟩ | ⟨h1, h2, h3⟩ | ⟨h1, h2, h3, h4⟩ | ⟨h1, h2, h3, h4, h5⟩ | ⟨h1, h2, h3, h4, h5, h6⟩
    all_goals (
      go_wp2_with fail
      refine (empty_box _).mono ?_
      rintro e w8 ⟨rfl, g8, rfl⟩
      go_wp2_with fail
      refine (awake_any _).mono ?_
      rintro e w9 ⟨rfl, g9, rfl⟩
      go_wp2
      go_ret
      exact ⟨rfl, ((E7.out.alloc _).ext g8).ext g9⟩)

end Go.Proofs.Ytncphiphgkjflaa
