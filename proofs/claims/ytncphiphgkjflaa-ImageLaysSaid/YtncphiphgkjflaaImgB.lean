import Derived.Test.YtncphiphgkjflaaImgA
namespace Go.Proofs.Ytncphiphgkjflaa
open Go.RowKit
set_option linter.unusedVariables false
set_option linter.unusedSimpArgs false

theorem right_false {W H : Int} {l : List Px} (h : W < 1 ∨ 256 < W ∨ H < 1 ∨ 256 < H ∨ (l.length : Int) ≠ W * H) : rightI W H l = false := by
  unfold rightI sideB
  rcases h with h | h | h | h | h
  · have : ¬ (1 ≤ W ∧ W ≤ 256) := by omega
    simp [this]
  · have : ¬ (1 ≤ W ∧ W ≤ 256) := by omega
    simp [this]
  · have : ¬ (1 ≤ H ∧ H ≤ 256) := by omega
    simp [this]
  · have : ¬ (1 ≤ H ∧ H ≤ 256) := by omega
    simp [this]
  · simp [h]

theorem allRight_take (l : List Px) (i : Nat) (hi : i < l.length) : allRight (l.drop i) = (rightP (l.getD i noP) && allRight (l.drop (i + 1))) := by
  rw [drop_cons l i noP hi]; simp [allRight]

set_option maxRecDepth 100000 in
set_option maxHeartbeats 3200000 in
theorem refRightImg_any (W H : Int) (v : Value) (l : List Px) (w : World) (hW : -9223372036854775808 ≤ W ∧ W ≤ 9223372036854775807) (hH : -9223372036854775808 ≤ H ∧ H ≤ 9223372036854775807) (hl : Pix .i64 w v l) :
    Calls Try.prog 11 #[.agg #[.int .i64 W, .int .i64 H, v]] w fun e w' => e = .returned (.bool (rightI W H l)) ∧ Ext w w' := by
  have P := Lib.hid hl
  obtain ⟨X, c, rfl, hc1, hc2, _⟩ := hl
  obtain ⟨N, hN⟩ : ∃ N, l.length = N := ⟨_, rfl⟩
  have hrf := @right_false W H l
  rw [hN] at P hc1 hrf
  rw [hN]
  have HN := Lib.hid hN
  have HRF := Lib.hid hrf
  clear hN hrf
  obtain ⟨R, hR⟩ : ∃ R, rightI W H l = R := ⟨_, rfl⟩
  rw [hR] at HRF
  rw [hR]
  have HR := Lib.hid hR
  clear hR
  by_cases h1 : W < 1
  · obtain rfl : R = false := HRF.out (.inl h1)
    go_enter Try.func11, Try.ntmps11
    go_wp2
    go_ret
    exact ⟨rfl, (Ext.refl w).alloc _⟩
  · by_cases h2 : 256 < W
    · obtain rfl : R = false := HRF.out (.inr (.inl h2))
      go_enter Try.func11, Try.ntmps11
      go_wp2
      go_ret
      exact ⟨rfl, (Ext.refl w).alloc _⟩
    · by_cases h3 : H < 1
      · obtain rfl : R = false := HRF.out (.inr (.inr (.inl h3)))
        go_enter Try.func11, Try.ntmps11
        go_wp2
        go_ret
        exact ⟨rfl, (Ext.refl w).alloc _⟩
      · by_cases h4 : 256 < H
        · obtain rfl : R = false := HRF.out (.inr (.inr (.inr (.inl h4))))
          go_enter Try.func11, Try.ntmps11
          go_wp2
          go_ret
          exact ⟨rfl, (Ext.refl w).alloc _⟩
        · have hm := mul_bd (W := W) (H := H) (by unfold sideB; simp; omega) (by unfold sideB; simp; omega)
          obtain ⟨m1, m2⟩ := hm
          by_cases h5 : (N : Int) = W * H
          · have h5' : decide ((N : Int) = W * H) = true := by simpa using h5
            have hRR : Hid (allRight l = R) := Lib.hid (by
              rw [← HR.out]; unfold rightI sideB
              have a1 : (1 ≤ W ∧ W ≤ 256) := by omega
              have a2 : (1 ≤ H ∧ H ≤ 256) := by omega
              rw [HN.out]
              simp [a1, a2, h5])
            have F1 : Hid (∀ wr, Ext (w.alloc (.cells #[.int .i64 W, .int .i64 H, .slice X N c] 34)) wr → wr.cell? ⟨w.heap.size, 2, none⟩ = some (.slice X N c) ∧ Ext w wr) := Lib.hid (fun wr hx => by
              have hb : w.heap.size < (w.alloc (.cells #[.int .i64 W, .int .i64 H, .slice X N c] 34)).heap.size := by simp
              refine ⟨(hx.cell hb).trans ?_, ((Ext.refl w).alloc _).trans hx⟩
              simp [go_sem])
            clear hc1
            go_enter Try.func11, Try.ntmps11
            go_wp2
            go_loopw [3] (fun t3 wr => ∃ i : Nat, i ≤ N ∧ t3 = .int .i64 (i : Int) ∧ Hid (Ext (w.alloc (.cells #[.int .i64 W, .int .i64 H, .slice X N c] 34)) wr ∧ allRight (l.drop i) = R)) (fun t3 _ => N - (intOf t3).toNat)
            case atStart => exact ⟨0, by omega, rfl, Lib.hid ⟨Ext.refl _, hRR.out⟩⟩
            case round =>
              obtain ⟨i, hi, rfl, ST⟩ := hrel
              obtain ⟨k2, hE⟩ := F1.out _ ST.out.1
              have E := Lib.hid hE
              clear hE
              by_cases hlt : i < N
              · have hlt' : (i : Int) < (N : Int) := by omega
                obtain ⟨b, off, r, g, u, a, rfl, hbs, hp, hpb, c0, c1, c2, c3⟩ := (P.out.ext E.out).at hlt
                have HD := Lib.hid (allRight_take l i (by have := HN.out; omega))
                have RC := Lib.hid (fun wx => refRight_any r g u a wx hpb)
                have HP := Lib.hid hp
                clear hp hpb
                obtain ⟨bb, hbb⟩ : ∃ bb, rightP (r, g, u, a) = bb := ⟨_, rfl⟩
                rw [hbb] at RC
                have HB := Lib.hid hbb
                clear hbb
                cases bb with
                | true =>
                  go_wp2_with fail
                  refine (RC.out _).mono ?_
                  rintro e w1 ⟨rfl, g1, rfl⟩
                  go_wp2
                  go_roundw
                  case rel => exact ⟨i + 1, by omega, by go_num, Lib.hid ⟨ST.out.1.ext g1, by have h := ST.out.2; rw [HD.out, HP.out, HB.out] at h; simpa using h⟩⟩
                  case measure => simp [intOf]; omega
                | false =>
                  obtain rfl : R = false := by have h := ST.out.2; rw [HD.out, HP.out, HB.out] at h; simpa using h.symm
                  go_wp2_with fail
                  refine (RC.out _).mono ?_
                  rintro e w1 ⟨rfl, g1, rfl⟩
                  go_wp2
                  go_ret
                  exact ⟨rfl, E.out.ext g1⟩
              · have hlt' : ¬ (i : Int) < (N : Int) := by omega
                obtain rfl : R = true := by have h := ST.out.2; rw [List.drop_eq_nil_of_le (by have := HN.out; omega)] at h; simpa [allRight] using h.symm
                go_wp2
                go_ret
                exact ⟨rfl, E.out⟩
          · obtain rfl : R = false := HRF.out (.inr (.inr (.inr (.inr h5))))
            have h5' : decide ((N : Int) = W * H) = false := by simpa using h5
            go_enter Try.func11, Try.ntmps11
            go_wp2
            go_ret
            exact ⟨rfl, (Ext.refl w).alloc _⟩

/-- a box that both have -/
def meetB (a b : Int × Int × Int × Int) : Int × Int × Int × Int :=
  if min a.2.2.1 b.2.2.1 ≤ max a.1 b.1 ∨ min a.2.2.2 b.2.2.2 ≤ max a.2.1 b.2.1 then (0, 0, 0, 0) else (max a.1 b.1, max a.2.1 b.2.1, min a.2.2.1 b.2.2.1, min a.2.2.2 b.2.2.2)
def boxV (a : Int × Int × Int × Int) : Value := .agg #[.int .i64 a.1, .int .i64 a.2.1, .int .i64 a.2.2.1, .int .i64 a.2.2.2]

set_option maxHeartbeats 1600000 in
theorem meet_any (a0 b0 a1 b1 c0 d0 c1 d1 : Int) (w : World) :
    Calls Try.prog 35 #[.agg #[.int .i64 a0, .int .i64 b0, .int .i64 a1, .int .i64 b1], .agg #[.int .i64 c0, .int .i64 d0, .int .i64 c1, .int .i64 d1]] w fun e w' =>
      e = .returned (boxV (meetB (a0, b0, a1, b1) (c0, d0, c1, d1))) ∧ Ext w w' := by
  have C := Lib.hid (fun wx => emptyBox_any (max a0 c0) (max b0 d0) (min a1 c1) (min b1 d1) wx)
  by_cases h : min a1 c1 ≤ max a0 c0 ∨ min b1 d1 ≤ max b0 d0
  · have hb : (decide (min a1 c1 ≤ max a0 c0) || decide (min b1 d1 ≤ max b0 d0)) = true := by simpa using h
    rw [hb] at C
    have hm : boxV (meetB (a0, b0, a1, b1) (c0, d0, c1, d1)) = .agg #[.int .i64 0, .int .i64 0, .int .i64 0, .int .i64 0] := by
      unfold meetB; rw [if_pos h]; rfl
    rw [hm]
    clear h hb hm
    go_enter Try.func35, Try.ntmps35
    go_wp2_with fail
    refine (C.out _).mono ?_
    rintro e w1 ⟨rfl, g1, rfl⟩
    go_wp2
    exact bodyPost_ret (v := .agg #[.int .i64 0, .int .i64 0, .int .i64 0, .int .i64 0]) (by simp [results, Try.results35, go_sem]) rfl ⟨rfl, by ((repeat (first | exact Ext.refl _ | apply Ext.alloc | apply Ext.drew' | apply Ext.drewN | apply Ext.ext)))⟩
  · have hb : (decide (min a1 c1 ≤ max a0 c0) || decide (min b1 d1 ≤ max b0 d0)) = false := by
      rw [← Bool.decide_or]; exact decide_eq_false h
    rw [hb] at C
    have hm : boxV (meetB (a0, b0, a1, b1) (c0, d0, c1, d1)) = .agg #[.int .i64 (max a0 c0), .int .i64 (max b0 d0), .int .i64 (min a1 c1), .int .i64 (min b1 d1)] := by
      unfold meetB; rw [if_neg h]; rfl
    rw [hm]
    clear h hb hm
    go_enter Try.func35, Try.ntmps35
    go_wp2_with fail
    refine (C.out _).mono ?_
    rintro e w1 ⟨rfl, g1, rfl⟩
    go_wp2
    exact bodyPost_ret (v := .agg #[.int .i64 (max a0 c0), .int .i64 (max b0 d0), .int .i64 (min a1 c1), .int .i64 (min b1 d1)]) (by simp [results, Try.results35, go_sem]) rfl ⟨rfl, by ((repeat (first | exact Ext.refl _ | apply Ext.alloc | apply Ext.drew' | apply Ext.drewN | apply Ext.ext)))⟩

theorem eqC (w : World) (a0 a1 a2 a3 b0 b1 b2 b3 : Int) : (Op.equalIn 10000 40 (.agg #[.int .u8 a0, .int .u8 a1, .int .u8 a2, .int .u8 a3]) (.agg #[.int .u8 b0, .int .u8 b1, .int .u8 b2, .int .u8 b3])).run Try.prog w = .ok (a0 == b0 && (a1 == b1 && (a2 == b2 && a3 == b3))) w :=
  run_equalIn_arr4 w 9998 40 5 .u8 _ _ _ _ _ _ _ _ (by kernel_rfl) (by kernel_rfl) (fun _ => by kernel_rfl) (fun _ => by kernel_rfl)
theorem eqR (w : World) (a0 a1 a2 a3 b0 b1 b2 b3 : Int) : (Op.equalIn 10000 50 (.agg #[.int .i64 a0, .int .i64 a1, .int .i64 a2, .int .i64 a3]) (.agg #[.int .i64 b0, .int .i64 b1, .int .i64 b2, .int .i64 b3])).run Try.prog w = .ok (a0 == b0 && (a1 == b1 && (a2 == b2 && a3 == b3))) w :=
  run_equalIn_arr4 w 9998 50 3 .i64 _ _ _ _ _ _ _ _ (by kernel_rfl) (by kernel_rfl) (fun _ => by kernel_rfl) (fun _ => by kernel_rfl)
attribute [go_sem] eqC eqR

set_option maxRecDepth 100000 in
set_option maxHeartbeats 3200000 in
/-- are an image and the document's one and the same? -/
theorem is_yes (W H : Int) (v v' : Value) (l : List Px) (w : World) (h1 : Pix .u8 w v l) (h2 : Pix .i64 w v' l) :
    Calls Try.prog 19 #[.agg #[.int .i64 W, .int .i64 H, v], .agg #[.int .i64 W, .int .i64 H, v']] w fun e w' => e = .returned (.bool true) ∧ Ext w w' := by
  have P := Lib.hid h1
  have P2 := Lib.hid h2
  obtain ⟨X, c, rfl, hc1, hc2, _⟩ := h1
  obtain ⟨X2, c', rfl, hc3, hc4, _⟩ := h2
  obtain ⟨N, hN⟩ : ∃ N, l.length = N := ⟨_, rfl⟩
  rw [hN] at P P2 hc1 hc3
  rw [hN]
  have HN := Lib.hid hN
  clear hN
  have F1 : Hid (∀ wr, Ext ((w.alloc (.cells #[.int .i64 W, .int .i64 H, .slice X N c] 24)).alloc (.cells #[.int .i64 W, .int .i64 H, .slice X2 N c'] 34)) wr → wr.cell? ⟨w.heap.size + 1, 2, none⟩ = some (.slice X2 N c') ∧ w.heap.size + 1 < wr.heap.size ∧ Ext w wr) := Lib.hid (fun wr hx => by
    have hb : w.heap.size + 1 < ((w.alloc (.cells #[.int .i64 W, .int .i64 H, .slice X N c] 24)).alloc (.cells #[.int .i64 W, .int .i64 H, .slice X2 N c'] 34)).heap.size := by simp
    refine ⟨(hx.cell hb).trans ?_, Nat.lt_of_lt_of_le hb hx.size, (((Ext.refl w).alloc _).alloc _).trans hx⟩
    simp [go_sem])
  go_enter Try.func19, Try.ntmps19
  go_wp2
  go_loopw [31] (fun t31 wr => ∃ i : Nat, i ≤ N ∧ t31 = .int .i64 (i : Int) ∧ Hid (Ext ((w.alloc (.cells #[.int .i64 W, .int .i64 H, .slice X N c] 24)).alloc (.cells #[.int .i64 W, .int .i64 H, .slice X2 N c'] 34)) wr)) (fun t31 _ => N - (intOf t31).toNat)
  case atStart => exact ⟨0, by omega, rfl, Lib.hid (Ext.refl _)⟩
  case round =>
    obtain ⟨i, hi, rfl, ST⟩ := hrel
    obtain ⟨k2, hz, hE⟩ := F1.out _ ST.out
    have E := Lib.hid hE
    clear hE
    by_cases hlt : i < N
    · have hlt' : (i : Int) < (N : Int) := by omega
      obtain ⟨b, off, r, g, u, a, rfl, hbs, hp, hpb, c0, c1, c2, c3⟩ := (P.out.ext E.out).at hlt
      obtain ⟨b', off', r', g', u', a', rfl, hbs', hp', hpb', d0, d1, d2, d3⟩ := (P2.out.ext E.out).at hlt
      rw [hp] at hp'
      simp only [Prod.mk.injEq] at hp'
      obtain ⟨rfl, rfl, rfl, rfl⟩ := hp'
      have RC := Lib.hid (fun wx => refColor_any r g u a wx hpb)
      have HX := Lib.hid (show Ext wr (wr.alloc (.cells #[.int .u8 (r : Int), .int .u8 (g : Int), .int .u8 (u : Int), .int .u8 (a : Int)] 40)) from (Ext.refl wr).alloc _)
      clear hp hpb hpb'
      go_wp2
      obtain ⟨wq, hwq⟩ : ∃ wq, wr.alloc (.cells #[.int .u8 (r : Int), .int .u8 (g : Int), .int .u8 (u : Int), .int .u8 (a : Int)] 40) = wq := ⟨_, rfl⟩
      have k0 : wq.cell? ⟨wr.heap.size, 0, none⟩ = some (.int .u8 (r : Int)) := by rw [← hwq]; simp [go_sem]
      have k1 : wq.cell? ⟨wr.heap.size, 1, none⟩ = some (.int .u8 (g : Int)) := by rw [← hwq]; simp [go_sem]
      have k3 : wq.cell? ⟨wr.heap.size, 2, none⟩ = some (.int .u8 (u : Int)) := by rw [← hwq]; simp [go_sem]
      have k4 : wq.cell? ⟨wr.heap.size, 3, none⟩ = some (.int .u8 (a : Int)) := by rw [← hwq]; simp [go_sem]
      rw [hwq] at HX ⊢
      have hzz : wr.heap.size < wq.heap.size := by rw [← hwq]; simp
      have hx : ∀ g, Ext wq (wq.ext g) := fun g => ⟨g, rfl⟩
      have hy : ∀ g, Ext wr (wq.ext g) := fun g => HX.out.trans ⟨g, rfl⟩
      have u0 : ∀ g', (wq.ext g').cell? ⟨wr.heap.size, 0, none⟩ = some (.int .u8 (r : Int)) := fun g' => ((hx g').cell hzz).trans k0
      have u1 : ∀ g', (wq.ext g').cell? ⟨wr.heap.size, 1, none⟩ = some (.int .u8 (g : Int)) := fun g' => ((hx g').cell hzz).trans k1
      have u2 : ∀ g', (wq.ext g').cell? ⟨wr.heap.size, 2, none⟩ = some (.int .u8 (u : Int)) := fun g' => ((hx g').cell hzz).trans k3
      have u3 : ∀ g', (wq.ext g').cell? ⟨wr.heap.size, 3, none⟩ = some (.int .u8 (a : Int)) := fun g' => ((hx g').cell hzz).trans k4
      have u6 : ∀ g', (wq.ext g').cell? ⟨w.heap.size + 1, 2, none⟩ = some (.slice (some ⟨b', off', none⟩) N c') := fun g' => ((hy g').cell hz).trans k2
      have v0 : ∀ g', (wq.ext g').cell? ⟨b', off' + i * 4, none⟩ = some (.int .i64 (r : Int)) := fun g' => ((hy g').cell hbs').trans d0
      have v1 : ∀ g', (wq.ext g').cell? ⟨b', off' + (i * 4 + 1), none⟩ = some (.int .i64 (g : Int)) := fun g' => ((hy g').cell hbs').trans d1
      have v2 : ∀ g', (wq.ext g').cell? ⟨b', off' + (i * 4 + 2), none⟩ = some (.int .i64 (u : Int)) := fun g' => ((hy g').cell hbs').trans d2
      have v3 : ∀ g', (wq.ext g').cell? ⟨b', off' + (i * 4 + 3), none⟩ = some (.int .i64 (a : Int)) := fun g' => ((hy g').cell hbs').trans d3
      clear hwq k0 k1 k3 k4 hx hy c0 c1 c2 c3 d0 d1 d2 d3 k2
      obtain ⟨gb, hgb⟩ : ∃ gb, wr.heap.size = gb := ⟨_, rfl⟩
      rw [hgb] at u0 u1 u2 u3 hzz
      rw [hgb]
      clear hgb
      refine region_flow 8 [37] (fun t v => match t with | 37 => v = .agg #[.int .i64 (r : Int), .int .i64 (g : Int), .int .i64 (u : Int), .int .i64 (a : Int)] | _ => False) (fun t v w' => True) (by kernel_rfl) (by kernel_rfl) ?hq ?hu ?hR ?h
      case hq => intro t v h; split at h <;> simp_all
      case hu => intro t h; split at h <;> simp_all [undef]
      case hR => intros; trivial
      case h =>
        dsimp only [List.take, List.drop]
        repeat (refine Flow.plain rfl rfl ?_; go_big_quiet_step (fail); refine wpQuiet_nil ?_)
        refine Flow.call Try.call22 [.agg #[.int .u8 (r : Int), .int .u8 (g : Int), .int .u8 (u : Int), .int .u8 (a : Int)]] rfl rfl rfl ?_ (fun wx hx hf => (RC.out wx).mono ?_) ?_
        · exact ⟨_, rfl⟩
        · exact fun e w' ⟨h1, h2⟩ => ⟨_, h1, h2, rfl, trivial⟩
        rintro v rfl
        simp only [Act.put, List.setIfInBounds_toArray, List.set_cons_zero, List.set_cons_succ]
        repeat (refine Flow.plain rfl rfl ?_; go_big_quiet_step (fail); refine wpQuiet_nil ?_)
        refine Flow.nil fun w5 hx5 hf => ?_
        have E5 := Lib.hid ((ST.out.trans HX.out).trans hx5)
        clear hf hx5
        go_wp2
        go_roundw
        case rel => exact ⟨i + 1, by omega, by go_num, E5⟩
        case measure => simp [intOf]; omega
    · have hlt' : ¬ (i : Int) < (N : Int) := by omega
      go_wp2
      go_ret
      exact ⟨rfl, E.out⟩

end Go.Proofs.Ytncphiphgkjflaa
