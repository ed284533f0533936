
import Derived.Test.YtncphiphgkjflaaIFill3
namespace Go.Proofs.Ytncphiphgkjflaa
open Go.RowKit Go.Shelf
set_option linter.unusedVariables false
set_option linter.unusedSimpArgs false

theorem empty_box (w : World) : Calls Try.prog 16 #[.agg #[.int .i64 0, .int .i64 0, .slice none 0 0]] w fun e w' => e = .returned (.bool true) ∧ Ext w w' := empty_yes none 0 w

set_option maxRecDepth 100000 in
set_option maxHeartbeats 6400000 in
theorem fills_any (W H : Int) (v : Value) (l : List Px) (a0 b0 a1 b1 : Int) (r g u a : Nat) (w : World) (hW : -9223372036854775808 ≤ W ∧ W ≤ 9223372036854775807) (hH : -9223372036854775808 ≤ H ∧ H ≤ 9223372036854775807) (hl : Pix .u8 w v l) (hpb : r ≤ 255 ∧ g ≤ 255 ∧ u ≤ 255 ∧ a ≤ 255) :
    Calls Try.prog 4 #[.agg #[.int .i64 W, .int .i64 H, v], .agg #[.int .i64 a0, .int .i64 b0, .int .i64 a1, .int .i64 b1], .agg #[.int .u8 (r : Int), .int .u8 (g : Int), .int .u8 (u : Int), .int .u8 (a : Int)]] w fun e w' => e = .returned (.bool true) ∧ Ext w w' := by
  have P := Lib.hid hl
  obtain ⟨X, c, rfl, hc1, hc2, _⟩ := hl
  obtain ⟨N, hN⟩ : ∃ N, l.length = N := ⟨_, rfl⟩
  rw [hN] at P hc1
  rw [hN]
  have HN := Lib.hid hN
  clear hN
  have SM := Lib.hid (fun wx => small_any W H X N c wx)
  by_cases h4 : N ≤ 400
  · have RF := Lib.hid (fun wx (hx : Ext w wx) => ref_any W H (.slice X N c) l wx (P.out.ext hx) (by have := HN.out; omega))
    have CK := Lib.hid (fun wx (hx : Ext w wx) => check_any W H (.slice X N c) l wx hW hH (P.out.ext hx))
    have CR := Lib.hid (fun wx => colorRight_any r g u a wx hpb)
    rw [show decide ((N : Int) ≤ 400) = true by simp; omega] at SM
    cases h1 : rightI W H l with
    | false =>
      have FL := Lib.hid (fun wx (hx : Ext w wx) => fill_no W H (.slice X N c) l a0 b0 a1 b1 r g u a wx hW hH (P.out.ext hx) hpb (.inl h1))
      rw [h1] at CK
      go_enter Try.func4, Try.ntmps4
      go_wp2_with fail
      refine (SM.out _).mono ?_
      rintro e w1 ⟨rfl, g1, rfl⟩
      go_wp2_with fail
      refine (RF.out _ (by (repeat (first | exact Ext.refl _ | apply Ext.alloc | apply Ext.ext)))).mono ?_
      rintro e w2 ⟨v2, rfl, hO2, g2, rfl⟩
      have P2 := Lib.hid hO2.pix
      obtain ⟨A2, c2, rfl⟩ := own_slice hO2.1
      clear hO2
      rw [HN.out] at P2 ⊢
      have RI := Lib.hid (fun wx hx => refRightImg_any W H (.slice A2 N c2) l wx hW hH (P2.out.ext hx))
      rw [h1] at RI
      have IS := Lib.hid (fun wx hx hy => is_yes W H (.slice X N c) (.slice A2 N c2) l wx (P.out.ext hx) (P2.out.ext hy))
      go_wp2_with fail
      refine (FL.out _ (by (repeat (first | exact Ext.refl _ | apply Ext.alloc | apply Ext.ext)))).mono ?_
      rintro e w3 ⟨rfl, g3, rfl⟩
      go_wp2_with fail
      refine (RI.out _ (by (repeat (first | exact Ext.refl _ | apply Ext.alloc | apply Ext.ext)))).mono ?_
      rintro e w4 ⟨rfl, g4, rfl⟩
      go_wp2_with fail
      refine (IS.out _ (by (repeat (first | exact Ext.refl _ | apply Ext.alloc | apply Ext.ext))) (by (repeat (first | exact Ext.refl _ | apply Ext.alloc | apply Ext.ext)))).mono ?_
      rintro e w5 ⟨rfl, g5, rfl⟩
      go_wp2_with fail
      refine (CK.out _ (by (repeat (first | exact Ext.refl _ | apply Ext.alloc | apply Ext.ext)))).mono ?_
      rintro e w6 ⟨rfl, g6, rfl⟩
      rw [show errB false = 30 from rfl]
      go_wp2_with fail
      refine (empty_box _).mono ?_
      rintro e w8 ⟨rfl, g8, rfl⟩
      go_wp2_with fail
      refine (awake_any _).mono ?_
      rintro e w9 ⟨rfl, g9, rfl⟩
      go_wp2
      go_ret
      exact ⟨rfl, (by (repeat (first | exact Ext.refl _ | apply Ext.alloc | apply Ext.ext)))⟩
    | true =>
      rw [h1] at CK
      cases h2 : rightP (r, g, u, a) with
      | false =>
        have FL := Lib.hid (fun wx (hx : Ext w wx) => fill_no W H (.slice X N c) l a0 b0 a1 b1 r g u a wx hW hH (P.out.ext hx) hpb (.inr h2))
        rw [h2] at CR
        go_enter Try.func4, Try.ntmps4
        go_wp2_with fail
        refine (SM.out _).mono ?_
        rintro e w1 ⟨rfl, g1, rfl⟩
        go_wp2_with fail
        refine (RF.out _ (by (repeat (first | exact Ext.refl _ | apply Ext.alloc | apply Ext.ext)))).mono ?_
        rintro e w2 ⟨v2, rfl, hO2, g2, rfl⟩
        have P2 := Lib.hid hO2.pix
        obtain ⟨A2, c2, rfl⟩ := own_slice hO2.1
        clear hO2
        rw [HN.out] at P2 ⊢
        have RI := Lib.hid (fun wx hx => refRightImg_any W H (.slice A2 N c2) l wx hW hH (P2.out.ext hx))
        rw [h1] at RI
        have IS := Lib.hid (fun wx hx hy => is_yes W H (.slice X N c) (.slice A2 N c2) l wx (P.out.ext hx) (P2.out.ext hy))
        go_wp2_with fail
        refine (FL.out _ (by (repeat (first | exact Ext.refl _ | apply Ext.alloc | apply Ext.ext)))).mono ?_
        rintro e w3 ⟨rfl, g3, rfl⟩
        go_wp2_with fail
        refine (RI.out _ (by (repeat (first | exact Ext.refl _ | apply Ext.alloc | apply Ext.ext)))).mono ?_
        rintro e w4 ⟨rfl, g4, rfl⟩
        go_wp2_with fail
        refine (IS.out _ (by (repeat (first | exact Ext.refl _ | apply Ext.alloc | apply Ext.ext))) (by (repeat (first | exact Ext.refl _ | apply Ext.alloc | apply Ext.ext)))).mono ?_
        rintro e w5 ⟨rfl, g5, rfl⟩
        go_wp2_with fail
        refine (CK.out _ (by (repeat (first | exact Ext.refl _ | apply Ext.alloc | apply Ext.ext)))).mono ?_
        rintro e w6 ⟨rfl, g6, rfl⟩
        rw [show errB true = 0 from rfl]
        go_wp2_with fail
        refine (CR.out _).mono ?_
        rintro e w7 ⟨rfl, g7, rfl⟩
        go_wp2_with fail
        refine (empty_box _).mono ?_
        rintro e w8 ⟨rfl, g8, rfl⟩
        go_wp2_with fail
        refine (awake_any _).mono ?_
        rintro e w9 ⟨rfl, g9, rfl⟩
        go_wp2
        go_ret
        exact ⟨rfl, (by (repeat (first | exact Ext.refl _ | apply Ext.alloc | apply Ext.ext)))⟩
      | true =>
        rw [h2] at CR
        have hWH : (1 ≤ W ∧ W ≤ 256) ∧ (1 ≤ H ∧ H ≤ 256) := by
          have h := h1
          unfold rightI at h
          simp only [Bool.and_eq_true] at h
          have h3 := h.1.1.1
          have h4 := h.1.1.2
          simp only [sideB, decide_eq_true_eq] at h3 h4
          exact ⟨h3, h4⟩
        obtain ⟨WN, rfl⟩ : ∃ WN : Nat, W = (WN : Int) := ⟨W.toNat, by omega⟩
        obtain ⟨HN', rfl⟩ : ∃ HN' : Nat, H = (HN' : Int) := ⟨H.toNat, by omega⟩
        have FL := Lib.hid (fun wx (hx : Ext w wx) => fill_yes WN HN' (.slice X N c) l a0 b0 a1 b1 r g u a wx (P.out.ext hx) h1 (by have := HN.out; omega) hpb h2)
        have hWN : 1 ≤ WN ∧ WN ≤ 256 := by omega
        go_enter Try.func4, Try.ntmps4
        go_wp2_with fail
        refine (SM.out _).mono ?_
        rintro e w1 ⟨rfl, g1, rfl⟩
        go_wp2_with fail
        refine (RF.out _ (by (repeat (first | exact Ext.refl _ | apply Ext.alloc | apply Ext.ext)))).mono ?_
        rintro e w2 ⟨v2, rfl, hO2, g2, rfl⟩
        have P2 := Lib.hid hO2.pix
        obtain ⟨A2, c2, rfl⟩ := own_slice hO2.1
        clear hO2
        rw [HN.out] at P2 ⊢
        have RI := Lib.hid (fun wx hx => refRightImg_any (WN : Int) (HN' : Int) (.slice A2 N c2) l wx hW hH (P2.out.ext hx))
        rw [h1] at RI
        have IS := Lib.hid (fun wx hx hy => is_yes (WN : Int) (HN' : Int) (.slice X N c) (.slice A2 N c2) l wx (P.out.ext hx) (P2.out.ext hy))
        go_wp2_with fail
        refine (FL.out _ (by (repeat (first | exact Ext.refl _ | apply Ext.alloc | apply Ext.ext)))).mono ?_
        rintro e w3 ⟨v3, rfl, hO3, g3, rfl⟩
        obtain ⟨A3, c3, rfl⟩ := own_slice hO3.1
        have hL3 : (fillL WN l (a0, b0, a1, b1) (r, g, u, a)).length = N := (upd_len _ _ _).trans HN.out
        rw [hL3] at hO3 ⊢
        have P3 := Lib.hid hO3.pix
        clear hO3 hL3
        go_wp2_with fail
        refine (RI.out _ (by (repeat (first | exact Ext.refl _ | apply Ext.alloc | apply Ext.ext)))).mono ?_
        rintro e w4 ⟨rfl, g4, rfl⟩
        go_wp2_with fail
        refine (IS.out _ (by (repeat (first | exact Ext.refl _ | apply Ext.alloc | apply Ext.ext))) (by (repeat (first | exact Ext.refl _ | apply Ext.alloc | apply Ext.ext)))).mono ?_
        rintro e w5 ⟨rfl, g5, rfl⟩
        go_wp2_with fail
        refine (CK.out _ (by (repeat (first | exact Ext.refl _ | apply Ext.alloc | apply Ext.ext)))).mono ?_
        rintro e w6 ⟨rfl, g6, rfl⟩
        rw [show errB true = 0 from rfl]
        go_wp2_with fail
        refine (CR.out _).mono ?_
        rintro e w7 ⟨rfl, g7, rfl⟩
        go_wp2
        obtain ⟨wz, hwz⟩ : ∃ wz, (((((((((((w.alloc (.cells #[.int .i64 (WN : Int), .int .i64 (HN' : Int), .slice X N c] 24)).alloc (.cells #[.int .i64 a0, .int .i64 b0, .int .i64 a1, .int .i64 b1] 26)).alloc (.cells #[.int .u8 (r : Int), .int .u8 (g : Int), .int .u8 (u : Int), .int .u8 (a : Int)] 40)).ext g1).ext g2).alloc (.cells #[.int .i64 (WN : Int), .int .i64 (HN' : Int), .slice A2 N c2] 34)).ext g3).alloc (.cells #[.int .i64 (WN : Int), .int .i64 (HN' : Int), .slice A3 N c3] 24)).ext g4).ext g5).ext g6).ext g7 = wz := ⟨_, rfl⟩
        obtain ⟨q, hq⟩ : ∃ q, w.heap.size = q := ⟨_, rfl⟩
        obtain ⟨B7, hB7⟩ : ∃ B7, w.heap.size + (3 + (g1.blocks.size + g2.blocks.size)) = B7 := ⟨_, rfl⟩
        obtain ⟨B8, hB8⟩ : ∃ B8, w.heap.size + (3 + (g1.blocks.size + (g2.blocks.size + (1 + g3.blocks.size)))) = B8 := ⟨_, rfl⟩
        have EZ : Hid (Ext w wz) := Lib.hid (by rw [← hwz]; (repeat (first | exact Ext.refl _ | apply Ext.alloc | apply Ext.ext)))
        have Y2 : Hid (Pix .i64 wz (.slice A2 N c2) l) := Lib.hid (by rw [← hwz]; exact P2.out.ext (by (repeat (first | exact Ext.refl _ | apply Ext.alloc | apply Ext.ext))))
        have Y3 : Hid (Pix .u8 wz (.slice A3 N c3) (fillL WN l (a0, b0, a1, b1) (r, g, u, a))) := Lib.hid (by rw [← hwz]; exact P3.out.ext (by (repeat (first | exact Ext.refl _ | apply Ext.alloc | apply Ext.ext))))
        have hz : B8 < wz.heap.size ∧ B7 < wz.heap.size ∧ q + 2 < wz.heap.size := by rw [← hwz, ← hB7, ← hB8, ← hq]; simp only [World.size_alloc, ext_size]; omega
        have b0' : wz.cell? ⟨q + 1, 0, none⟩ = some (.int .i64 a0) := by rw [← hwz, ← hq]; simp [go_sem]
        have b1' : wz.cell? ⟨q + 1, 1, none⟩ = some (.int .i64 b0) := by rw [← hwz, ← hq]; simp [go_sem]
        have b2' : wz.cell? ⟨q + 1, 2, none⟩ = some (.int .i64 a1) := by rw [← hwz, ← hq]; simp [go_sem]
        have b3' : wz.cell? ⟨q + 1, 3, none⟩ = some (.int .i64 b1) := by rw [← hwz, ← hq]; simp [go_sem]
        have p0 : wz.cell? ⟨q + 2, 0, none⟩ = some (.int .u8 (r : Int)) := by rw [← hwz, ← hq]; simp [go_sem]
        have p1 : wz.cell? ⟨q + 2, 1, none⟩ = some (.int .u8 (g : Int)) := by rw [← hwz, ← hq]; simp [go_sem]
        have p2 : wz.cell? ⟨q + 2, 2, none⟩ = some (.int .u8 (u : Int)) := by rw [← hwz, ← hq]; simp [go_sem]
        have p3 : wz.cell? ⟨q + 2, 3, none⟩ = some (.int .u8 (a : Int)) := by rw [← hwz, ← hq]; simp [go_sem]
        have m0 : wz.cell? ⟨B7, 0, none⟩ = some (.int .i64 (WN : Int)) := by rw [← hwz, ← hB7]; simp [go_sem]
        have m1 : wz.cell? ⟨B7, 1, none⟩ = some (.int .i64 (HN' : Int)) := by rw [← hwz, ← hB7]; simp [go_sem]
        have m2 : wz.cell? ⟨B7, 2, none⟩ = some (.slice A2 N c2) := by rw [← hwz, ← hB7]; simp [go_sem]
        have n0 : wz.cell? ⟨B8, 0, none⟩ = some (.int .i64 (WN : Int)) := by rw [← hwz, ← hB8]; simp [go_sem]
        have n1 : wz.cell? ⟨B8, 1, none⟩ = some (.int .i64 (HN' : Int)) := by rw [← hwz, ← hB8]; simp [go_sem]
        have n2 : wz.cell? ⟨B8, 2, none⟩ = some (.slice A3 N c3) := by rw [← hwz, ← hB8]; simp [go_sem]
        rw [hwz, hB7, hB8, hq]
        clear hwz hB7 hB8 hq
        have hx : ∀ g, Ext wz (wz.ext g) := fun g => ⟨g, rfl⟩
        replace b0' := fun g => ((hx g).cell (by omega)).trans b0'
        replace b1' := fun g => ((hx g).cell (by omega)).trans b1'
        replace b2' := fun g => ((hx g).cell (by omega)).trans b2'
        replace b3' := fun g => ((hx g).cell (by omega)).trans b3'
        replace p0 := fun g => ((hx g).cell (by omega)).trans p0
        replace p1 := fun g => ((hx g).cell (by omega)).trans p1
        replace p2 := fun g => ((hx g).cell (by omega)).trans p2
        replace p3 := fun g => ((hx g).cell (by omega)).trans p3
        replace m0 := fun g => ((hx g).cell hz.2.1).trans m0
        replace m1 := fun g => ((hx g).cell hz.2.1).trans m1
        replace m2 := fun g => ((hx g).cell hz.2.1).trans m2
        replace n0 := fun g => ((hx g).cell hz.1).trans n0
        replace n1 := fun g => ((hx g).cell hz.1).trans n1
        replace n2 := fun g => ((hx g).cell hz.1).trans n2
        clear hx
        have HNM : Hid ((fillL WN l (a0, b0, a1, b1) (r, g, u, a)).length = N) := Lib.hid ((upd_len _ _ _).trans HN.out)
        have RC := Lib.hid (fun wx => refColor_any r g u a wx hpb)
        have FR := Lib.hid (fun wx (hx : Ext wz wx) => refFill_any WN (HN' : Int) (.slice A2 N c2) l a0 b0 a1 b1 r g u a wx (Y2.out.ext hx) (by have := HN.out; omega) hWN hpb)
        refine region_flow 22 [67, 68, 69, 72] (fun t v => match t with | 67 => v = .agg #[.int .i64 (r : Int), .int .i64 (g : Int), .int .i64 (u : Int), .int .i64 (a : Int)] | 68 => ∃ A c, v = .agg #[.int .i64 (WN : Int), .int .i64 (HN' : Int), .slice A N c] | 69 => v = .bool true | 72 => v = .bool true | _ => False) (fun t v w' => match t with | 68 => ∃ A c, v = .agg #[.int .i64 (WN : Int), .int .i64 (HN' : Int), .slice A N c] ∧ Pix .i64 w' (.slice A N c) (fillL WN l (a0, b0, a1, b1) (r, g, u, a)) | _ => True) (by kernel_rfl) (by kernel_rfl) ?hq ?hu ?hR ?h
        case hq => intro t v h; split at h <;> simp_all
        case hu => intro t h; split at h <;> simp_all [undef]
        case hR => intro t v w w' h1 h2 h3; split at h1 <;> first | exact (by obtain ⟨A, c, e, h⟩ := h2; exact ⟨A, c, e, h.ext h3⟩) | trivial
        case h =>
          dsimp only [List.take, List.drop]
          repeat (refine Flow.plain rfl rfl ?_; go_big_quiet_step (fail); refine wpQuiet_nil ?_)
          refine Flow.call Try.call22 [.agg #[.int .u8 (r : Int), .int .u8 (g : Int), .int .u8 (u : Int), .int .u8 (a : Int)]] rfl rfl rfl ?_ (fun wx hx hf => (RC.out wx).mono ?_) ?_
          · exact ⟨_, rfl⟩
          · exact fun e w' ⟨h1, h2⟩ => ⟨_, h1, h2, rfl, trivial⟩
          rintro v rfl
          simp only [Act.put, List.setIfInBounds_toArray, List.set_cons_zero, List.set_cons_succ]
          refine Flow.call Try.call21 [.agg #[.int .i64 (WN : Int), .int .i64 (HN' : Int), .slice A2 N c2], .int .i64 a0, .int .i64 b0, .int .i64 a1, .int .i64 b1, .agg #[.int .i64 (r : Int), .int .i64 (g : Int), .int .i64 (u : Int), .int .i64 (a : Int)]] rfl rfl rfl ?_ (fun wx hx hf => (FR.out wx hx).mono ?_) ?_
          · exact ⟨_, none, 0, rfl⟩
          · rintro e w' ⟨v', he, hO, hE⟩
            have hP := hO.pix
            obtain ⟨A', c', rfl⟩ := own_slice hO.1
            rw [HNM.out] at he hP
            exact ⟨_, he, hE, ⟨_, _, rfl⟩, ⟨_, _, rfl, hP⟩⟩
          rintro v ⟨A', c', rfl⟩
          simp only [Act.put, List.setIfInBounds_toArray, List.set_cons_zero, List.set_cons_succ]
          refine Flow.call Try.call19 [.agg #[.int .i64 (WN : Int), .int .i64 (HN' : Int), .slice A3 N c3], .agg #[.int .i64 (WN : Int), .int .i64 (HN' : Int), .slice A' N c']] rfl rfl rfl ?_ (fun wx hx hf => ?_) ?_
          · exact ⟨_, rfl⟩
          · obtain ⟨A9, c9, e9, h68⟩ := hf.at 68 (by kernel_rfl) ⟨A', c', rfl⟩
            have e10 : (Value.agg #[.int .i64 (WN : Int), .int .i64 (HN' : Int), .slice A' N c']) = .agg #[.int .i64 (WN : Int), .int .i64 (HN' : Int), .slice A9 N c9] := e9
            simp only [Value.agg.injEq, Array.mk.injEq, List.cons.injEq, Value.slice.injEq, and_true, true_and] at e10
            obtain ⟨rfl, rfl⟩ := e10
            exact (is_yes (WN : Int) (HN' : Int) _ _ _ wx (Y3.out.ext hx) h68).mono fun e w' ⟨h1, h2⟩ => ⟨_, h1, h2, rfl, trivial⟩
          rintro v rfl
          simp only [Act.put, List.setIfInBounds_toArray, List.set_cons_zero, List.set_cons_succ]
          repeat (refine Flow.plain rfl rfl ?_; go_big_quiet_step (fail); refine wpQuiet_nil ?_)
          refine Flow.call Try.call10 [] rfl rfl rfl ?_ (fun wx hx hf => (awake_any wx).mono ?_) ?_
          · exact ⟨_, rfl⟩
          · exact fun e w' ⟨h1, h2⟩ => ⟨_, h1, h2, rfl, trivial⟩
          rintro v rfl
          simp only [Act.put, List.setIfInBounds_toArray, List.set_cons_zero, List.set_cons_succ]
          repeat (refine Flow.plain rfl rfl ?_; go_big_quiet_step (fail); refine wpQuiet_nil ?_)
          refine Flow.nil fun w5 hx5 hf => ?_
          have E5 := Lib.hid (EZ.out.trans hx5)
          clear hf hx5
          go_wp2
          go_ret
          exact ⟨rfl, E5.out⟩
  · rw [show decide ((N : Int) ≤ 400) = false by simp; omega] at SM
    go_enter Try.func4, Try.ntmps4
    go_wp2_with fail
    refine (SM.out _).mono ?_
    rintro e w1 ⟨rfl, g1, rfl⟩
    go_wp2_with fail
    refine (awake_any _).mono ?_
    rintro e w2 ⟨rfl, g2, rfl⟩
    go_wp2
    go_ret
    exact ⟨rfl, (by (repeat (first | exact Ext.refl _ | apply Ext.alloc | apply Ext.ext)))⟩

theorem ImageFills_walk (W H : Int) (v : Value) (l : List Px) (a0 b0 a1 b1 : Int) (r g u a : Int) (w : World) (hW : -9223372036854775808 ≤ W ∧ W ≤ 9223372036854775807) (hH : -9223372036854775808 ≤ H ∧ H ≤ 9223372036854775807) (hl : Pix .u8 w v l)
    (_ : -9223372036854775808 ≤ a0 ∧ a0 ≤ 9223372036854775807) (_ : -9223372036854775808 ≤ b0 ∧ b0 ≤ 9223372036854775807) (_ : -9223372036854775808 ≤ a1 ∧ a1 ≤ 9223372036854775807) (_ : -9223372036854775808 ≤ b1 ∧ b1 ≤ 9223372036854775807)
    (h0 : 0 ≤ r ∧ r ≤ 255) (h1 : 0 ≤ g ∧ g ≤ 255) (h2 : 0 ≤ u ∧ u ≤ 255) (h3 : 0 ≤ a ∧ a ≤ 255) :
    Calls Try.prog 4 #[.agg #[.int .i64 W, .int .i64 H, v], .agg #[.int .i64 a0, .int .i64 b0, .int .i64 a1, .int .i64 b1], .agg #[.int .u8 r, .int .u8 g, .int .u8 u, .int .u8 a]] w fun e w' => e = .returned (.bool true) ∧ Ext w w' := by
  have h := fills_any W H v l a0 b0 a1 b1 r.toNat g.toNat u.toNat a.toNat w hW hH hl (by omega)
  rwa [show ((r.toNat : Nat) : Int) = r by omega, show ((g.toNat : Nat) : Int) = g by omega, show ((u.toNat : Nat) : Int) = u by omega, show ((a.toNat : Nat) : Int) = a by omega] at h

end Go.Proofs.Ytncphiphgkjflaa
