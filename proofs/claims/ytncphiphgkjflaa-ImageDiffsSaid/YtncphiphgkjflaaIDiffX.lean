import Derived.Test.YtncphiphgkjflaaIDiffW
namespace Go.Proofs.Ytncphiphgkjflaa
open Go.RowKit Go.Shelf
set_option linter.unusedVariables false
set_option linter.unusedSimpArgs false

theorem diffPre_nil (W : Nat) (l1 l2 : List Px) (h : l1.length = l2.length) : (diffPre W l1 l2 l1.length).length = 0 ↔ l1 = l2 := by
  rw [List.length_eq_zero_iff]
  constructor
  · intro h0
    unfold diffPre at h0
    rw [List.filterMap_eq_nil_iff] at h0
    apply List.ext_getElem?
    intro k
    by_cases hk : k < l1.length
    · have := h0 k (List.mem_range.2 hk)
      split at this
      · rename_i e
        rw [List.getD_eq_getElem?_getD, List.getD_eq_getElem?_getD, List.getElem?_eq_getElem hk, List.getElem?_eq_getElem (by omega)] at e
        rw [List.getElem?_eq_getElem hk, List.getElem?_eq_getElem (by omega)]
        simpa using e
      · cases this
    · rw [List.getElem?_eq_none (by omega), List.getElem?_eq_none (by omega)]
  · rintro rfl
    unfold diffPre
    rw [List.filterMap_eq_nil_iff]
    intro k _
    simp

set_option maxRecDepth 100000 in
set_option maxHeartbeats 12800000 in
theorem diffs_yes (W H : Nat) (v1 v2 : Value) (l1 l2 : List Px) (w : World) (hl1 : Pix .u8 w v1 l1) (hl2 : Pix .u8 w v2 l2) (hs1 : l1.length ≤ 400) (hs2 : l2.length ≤ 400) (h1 : rightI (W : Int) (H : Int) l1 = true) (h2 : rightI (W : Int) (H : Int) l2 = true) :
    Calls Try.prog 5 #[.agg #[.int .i64 (W : Int), .int .i64 (H : Int), v1], .agg #[.int .i64 (W : Int), .int .i64 (H : Int), v2]] w fun e w' => e = .returned (.bool true) ∧ Ext w w' := by
  have hside : sideB (W : Int) = true ∧ sideB (H : Int) = true ∧ l1.length = W * H ∧ l2.length = W * H := by
    have a := h1
    have b := h2
    unfold rightI at a b
    simp only [Bool.and_eq_true, decide_eq_true_eq] at a b
    exact ⟨a.1.1.1, a.1.1.2, by have := a.1.2; exact_mod_cast this, by have := b.1.2; exact_mod_cast this⟩
  have hWb : 1 ≤ W ∧ W ≤ 256 := by have := hside.1; simp [sideB] at this; omega
  have hHb : 1 ≤ H ∧ H ≤ 256 := by have := hside.2.1; simp [sideB] at this; omega
  have h0N : 0 < l2.length := by rw [hside.2.2.2]; exact Nat.mul_pos (by omega) (by omega)
  have P1 := Lib.hid hl1
  have P2 := Lib.hid hl2
  obtain ⟨X1, c1, rfl, hc1, hc1', _⟩ := hl1
  obtain ⟨X2, c2, rfl, hc2, hc2', _⟩ := hl2
  obtain ⟨N1, hN1⟩ : ∃ N, l1.length = N := ⟨_, rfl⟩
  obtain ⟨N2, hN2⟩ : ∃ N, l2.length = N := ⟨_, rfl⟩
  rw [hN1] at P1 hc1
  rw [hN2] at P2 hc2
  rw [hN1, hN2]
  have HN1 := Lib.hid hN1
  have HN2 := Lib.hid hN2
  clear hN1 hN2
  have e12 : N2 = N1 := by rw [← HN1.out, ← HN2.out, hside.2.2.1, hside.2.2.2]
  subst e12
  have hN4 : N2 ≤ 400 := by rw [← HN2.out]; exact hs2
  have hN0 : 0 < N2 := by rw [← HN2.out]; exact h0N
  have SM1 := Lib.hid (fun wx => small_any (W : Int) (H : Int) X1 N2 c1 wx)
  have SM2 := Lib.hid (fun wx => small_any (W : Int) (H : Int) X2 N2 c2 wx)
  rw [show decide ((N2 : Int) ≤ 400) = true by simp; omega] at SM1 SM2
  have DF := Lib.hid (fun wx (hx : Ext w wx) => diff_yes W H (.slice X1 N2 c1) (.slice X2 N2 c2) l1 l2 wx (P1.out.ext hx) (P2.out.ext hx) h1 h2)
  rw [HN1.out] at DF
  have RF1 := Lib.hid (fun wx (hx : Ext w wx) => ref_any (W : Int) (H : Int) (.slice X1 N2 c1) l1 wx (P1.out.ext hx) hs1)
  have RF2 := Lib.hid (fun wx (hx : Ext w wx) => ref_any (W : Int) (H : Int) (.slice X2 N2 c2) l2 wx (P2.out.ext hx) hs2)
  obtain ⟨⟨ba, bb, bc, bd⟩, hbx⟩ : ∃ j, boundF (diffPre W l1 l2 N2) = j := ⟨_, rfl⟩
  have HBX := Lib.hid hbx
  rw [hbx] at DF
  simp only [boxV] at DF
  obtain ⟨p0r, p0g, p0u, p0a, hp0⟩ : ∃ r g u a, l1.getD 0 noP = (r, g, u, a) := ⟨_, _, _, _, rfl⟩
  have HP0 := Lib.hid hp0
  clear hbx hside hp0
  go_enter Try.func5, Try.ntmps5
  go_wp2_with fail
  refine (SM1.out _).mono ?_
  rintro e w1 ⟨rfl, g1, rfl⟩
  go_wp2_with fail
  refine (SM2.out _).mono ?_
  rintro e w2 ⟨rfl, g2, rfl⟩
  go_wp2_with fail
  refine (DF.out _ (by (repeat (first | exact Ext.refl _ | apply Ext.alloc | apply Ext.ext)))).mono ?_
  rintro e w3 ⟨rfl, g3, rfl⟩
  go_wp2_with fail
  refine (RF1.out _ (by (repeat (first | exact Ext.refl _ | apply Ext.alloc | apply Ext.ext)))).mono ?_
  rintro e w4 ⟨v4, rfl, hO4, g4, rfl⟩
  have P4 := Lib.hid hO4.pix
  obtain ⟨A4, c4, rfl⟩ := own_slice hO4.1
  clear hO4
  rw [HN1.out] at P4 ⊢
  have RI4 := refRightImg_any (W : Int) (H : Int) (.slice A4 N2 c4) l1 _ (by omega) (by omega) P4.out
  rw [h1] at RI4
  have RI4 := Lib.hid RI4
  go_wp2_with fail
  refine RI4.out.mono ?_
  rintro e w4' ⟨rfl, h4, rfl⟩
  go_wp2_with fail
  refine (RF2.out _ (by (repeat (first | exact Ext.refl _ | apply Ext.alloc | apply Ext.ext)))).mono ?_
  rintro e w5 ⟨v5, rfl, hO5, g5, rfl⟩
  have P5 := Lib.hid hO5.pix
  obtain ⟨A5, c5, rfl⟩ := own_slice hO5.1
  clear hO5
  rw [HN2.out] at P5 ⊢
  have RI5 := refRightImg_any (W : Int) (H : Int) (.slice A5 N2 c5) l2 _ (by omega) (by omega) P5.out
  rw [h2] at RI5
  have RI5 := Lib.hid RI5
  go_wp2_with fail
  refine RI5.out.mono ?_
  rintro e w5' ⟨rfl, h5, rfl⟩
  clear h1 h2
  go_wp2
  obtain ⟨wb, hwb⟩ : ∃ wb, ((((((((((w.alloc (.cells #[.int .i64 (W : Int), .int .i64 (H : Int), .slice X1 N2 c1] 24)).alloc (.cells #[.int .i64 (W : Int), .int .i64 (H : Int), .slice X2 N2 c2] 24)).ext g1).ext g2).ext g3).alloc (.cells #[.int .i64 ba, .int .i64 bb, .int .i64 bc, .int .i64 bd] 26)).ext g4).ext h4).ext g5).ext h5) = wb := ⟨_, rfl⟩
  obtain ⟨q, hq⟩ : ∃ q, w.heap.size = q := ⟨_, rfl⟩
  obtain ⟨B5, hB5⟩ : ∃ B5, w.heap.size + (2 + (g1.blocks.size + (g2.blocks.size + g3.blocks.size))) = B5 := ⟨_, rfl⟩
  have EB : Hid (Ext w wb) := Lib.hid (by rw [← hwb]; (repeat (first | exact Ext.refl _ | apply Ext.alloc | apply Ext.ext)))
  have i0 : wb.cell? ⟨q, 0, none⟩ = some (.int .i64 (W : Int)) := by rw [← hwb, ← hq]; simp [go_sem]
  have i1 : wb.cell? ⟨q, 1, none⟩ = some (.int .i64 (H : Int)) := by rw [← hwb, ← hq]; simp [go_sem]
  have i2 : wb.cell? ⟨q, 2, none⟩ = some (.slice X1 N2 c1) := by rw [← hwb, ← hq]; simp [go_sem]
  have j0 : wb.cell? ⟨q + 1, 0, none⟩ = some (.int .i64 (W : Int)) := by rw [← hwb, ← hq]; simp [go_sem]
  have j1 : wb.cell? ⟨q + 1, 1, none⟩ = some (.int .i64 (H : Int)) := by rw [← hwb, ← hq]; simp [go_sem]
  have j2 : wb.cell? ⟨q + 1, 2, none⟩ = some (.slice X2 N2 c2) := by rw [← hwb, ← hq]; simp [go_sem]
  have b0 : wb.cell? ⟨B5, 0, none⟩ = some (.int .i64 ba) := by rw [← hwb, ← hB5]; simp [go_sem]
  have b1 : wb.cell? ⟨B5, 1, none⟩ = some (.int .i64 bb) := by rw [← hwb, ← hB5]; simp [go_sem]
  have b2 : wb.cell? ⟨B5, 2, none⟩ = some (.int .i64 bc) := by rw [← hwb, ← hB5]; simp [go_sem]
  have b3 : wb.cell? ⟨B5, 3, none⟩ = some (.int .i64 bd) := by rw [← hwb, ← hB5]; simp [go_sem]
  have hz : B5 < wb.heap.size ∧ q + 1 < wb.heap.size := by rw [← hwb, ← hB5, ← hq]; simp only [World.size_alloc, ext_size]; omega
  rw [hwb, hB5, hq]
  clear hwb hB5 hq
  have FC : Hid (∀ wr, Ext wb wr → (wr.cell? ⟨q, 0, none⟩ = some (.int .i64 (W : Int)) ∧ wr.cell? ⟨q, 1, none⟩ = some (.int .i64 (H : Int)) ∧ wr.cell? ⟨q, 2, none⟩ = some (.slice X1 N2 c1)) ∧ (wr.cell? ⟨q + 1, 0, none⟩ = some (.int .i64 (W : Int)) ∧ wr.cell? ⟨q + 1, 1, none⟩ = some (.int .i64 (H : Int)) ∧ wr.cell? ⟨q + 1, 2, none⟩ = some (.slice X2 N2 c2)) ∧ (wr.cell? ⟨B5, 0, none⟩ = some (.int .i64 ba) ∧ wr.cell? ⟨B5, 1, none⟩ = some (.int .i64 bb) ∧ wr.cell? ⟨B5, 2, none⟩ = some (.int .i64 bc) ∧ wr.cell? ⟨B5, 3, none⟩ = some (.int .i64 bd))) := Lib.hid (fun wr hk =>
    ⟨⟨(hk.cell (by omega)).trans i0, (hk.cell (by omega)).trans i1, (hk.cell (by omega)).trans i2⟩, ⟨(hk.cell (by omega)).trans j0, (hk.cell (by omega)).trans j1, (hk.cell (by omega)).trans j2⟩, ⟨(hk.cell hz.1).trans b0, (hk.cell hz.1).trans b1, (hk.cell hz.1).trans b2, (hk.cell hz.1).trans b3⟩⟩)
  clear i0 i1 i2 j0 j1 j2 b0 b1 b2 b3
  go_loopw [7, 64] (fun t7 t64 wr => ∃ (i : Nat) (A : Option Addr) (n cc : Nat), i ≤ N2 ∧ t7 = .slice A n cc ∧ t64 = .int .i64 (i : Int) ∧ Hid (Ext wb wr ∧ OwnQ wb.heap.size wr (.slice A n cc) (diffPre W l1 l2 i))) (fun _ t64 _ => N2 - (intOf t64).toNat)
  case atStart => exact ⟨0, none, 0, 0, by omega, rfl, rfl, Lib.hid ⟨Ext.refl _, OwnQ.nil _ _⟩⟩
  case round =>
    obtain ⟨i, A, n, cc, hi, rfl, rfl, ST⟩ := hrel
    obtain ⟨⟨i0, i1, i2⟩, ⟨j0, j1, j2⟩, ⟨b0, b1, b2, b3⟩⟩ := FC.out _ ST.out.1
    have hzr : B5 < wr.heap.size ∧ q + 1 < wr.heap.size := ⟨Nat.lt_of_lt_of_le hz.1 ST.out.1.size, Nat.lt_of_lt_of_le hz.2 ST.out.1.size⟩
    by_cases hlt : i < N2
    · have hlt' : (i : Int) < (N2 : Int) := by omega
      obtain ⟨b, off, r, g, u, a, rfl, hbs, hp, hpb, c0, c1, c2, c3⟩ := (P1.out.ext (EB.out.trans ST.out.1)).at hlt
      obtain ⟨b', off', r', g', u', a', rfl, hbs', hp', hpb', d0, d1, d2, d3⟩ := (P2.out.ext (EB.out.trans ST.out.1)).at hlt
      have HP := Lib.hid (And.intro hp hp')
      clear hp hp' hpb hpb' b0 b1 b2 b3 i1 j0 j1
      have hy : ∀ g, Ext wr (wr.ext g) := fun g => ⟨g, rfl⟩
      replace i2 := fun g => ((hy g).cell (by omega)).trans i2
      replace j2 := fun g => ((hy g).cell (by omega)).trans j2
      replace c0 := fun g => ((hy g).cell hbs).trans c0
      replace c1 := fun g => ((hy g).cell hbs).trans c1
      replace c2 := fun g => ((hy g).cell hbs).trans c2
      replace c3 := fun g => ((hy g).cell hbs).trans c3
      replace d0 := fun g => ((hy g).cell hbs').trans d0
      replace d1 := fun g => ((hy g).cell hbs').trans d1
      replace d2 := fun g => ((hy g).cell hbs').trans d2
      replace d3 := fun g => ((hy g).cell hbs').trans d3
      have HS := Lib.hid (diffPre_succ W l1 l2 i)
      rw [HP.out.1, HP.out.2] at HS
      clear hy
      by_cases heq : (r, g, u, a) = (r', g', u', a')
      · have HD : Hid (diffPre W l1 l2 (i + 1) = diffPre W l1 l2 i) := Lib.hid (by rw [HS.out, if_pos heq]; simp)
        simp only [Prod.mk.injEq] at heq
        obtain ⟨rfl, rfl, rfl, rfl⟩ := heq
        go_wp2
        refine region_flow 11 [] (fun t v => False) (fun t v w' => True) (by kernel_rfl) (by kernel_rfl) (fun t v h => h.elim) (fun t h => h) (fun _ _ _ _ h => h.elim) ?_
        dsimp only [List.take, List.drop]
        repeat (first | (refine Flow.skip rfl ?_; simp only [Act.put, List.setIfInBounds_toArray, List.set_cons_zero, List.set_cons_succ]) | (refine Flow.plain rfl rfl ?_; go_big_quiet_step (fail); refine wpQuiet_nil ?_))
        refine Flow.nil fun w7 hx7 hf => ?_
        have E7 := Lib.hid hx7
        clear hf hx7 i2 j2 c0 c1 c2 c3 d0 d1 d2 d3
        dsimp only [wpList, Exit.then]
        go_wp2
        go_roundw
        case rel => exact ⟨i + 1, A, n, cc, by omega, rfl, by go_num, Lib.hid ⟨ST.out.1.trans E7.out, by rw [HD.out]; exact ST.out.2.ext E7.out⟩⟩
        case measure => simp [intOf]; omega
      · have hcmp : ((r : Int) == (r' : Int) && ((g : Int) == (g' : Int) && ((u : Int) == (u' : Int) && (a : Int) == (a' : Int)))) = false := by
          simp only [Prod.mk.injEq] at heq
          simp
          omega
        have hneq : ∀ wx, (binOp .neq 40 (.agg #[.int .u8 (r : Int), .int .u8 (g : Int), .int .u8 (u : Int), .int .u8 (a : Int)]) (.agg #[.int .u8 (r' : Int), .int .u8 (g' : Int), .int .u8 (u' : Int), .int .u8 (a' : Int)])).run Try.prog wx = .ok (.bool true) wx := fun wx => by
          simp [go_sem, hcmp]
        have HD : Hid (diffPre W l1 l2 (i + 1) = diffPre W l1 l2 i ++ [(i % W, i / W)]) := Lib.hid (by rw [HS.out, if_neg heq])
        clear heq hcmp
        go_wp2
        refine region_flow 11 [] (fun t v => False) (fun t v w' => True) (by kernel_rfl) (by kernel_rfl) (fun t v h => h.elim) (fun t h => h) (fun _ _ _ _ h => h.elim) ?_
        dsimp only [List.take, List.drop]
        repeat (first | (refine Flow.skip rfl ?_; simp only [Act.put, List.setIfInBounds_toArray, List.set_cons_zero, List.set_cons_succ]) | (refine Flow.plain rfl rfl ?_; go_big_quiet_step (fail); refine wpQuiet_nil ?_))
        refine Flow.nil fun w7 hx7 hf => ?_
        have E7 := Lib.hid hx7
        clear hf hx7 i2 j2 c0 c1 c2 c3 d0 d1 d2 d3 hneq
        obtain ⟨x, hx⟩ : ∃ x, i % W = x := ⟨_, rfl⟩
        obtain ⟨y, hy⟩ : ∃ y, i / W = y := ⟨_, rfl⟩
        have hx' : (i : Int).tmod (W : Int) = (x : Int) := by rw [← hx]; exact (Int.ofNat_tmod i W).symm
        have hy' : (i : Int).tdiv (W : Int) = (y : Int) := by rw [← hy]; exact (Int.ofNat_tdiv i W).symm
        have hxb : x ≤ 65536 := by rw [← hx]; have := Nat.mod_le i W; omega
        have hyb : y ≤ 65536 := by rw [← hy]; have := Nat.div_le_self i W; omega
        rw [hx, hy] at HD
        clear hx hy
        replace i0 := fun g => (((E7.out.trans ⟨g, rfl⟩).cell (w' := w7.ext g) (by omega))).trans i0
        dsimp only [wpList, Exit.then]
        go_wp2
        refine region_flow 11 [88] (fun t v => match t with | 88 => ∃ g, v = .slice (some ⟨g, 0, none⟩) 1 1 | _ => False) (fun t v w' => match t with | 88 => ∃ g, v = .slice (some ⟨g, 0, none⟩) 1 1 ∧ g < w'.heap.size ∧ w'.cell? ⟨g, 0, none⟩ = some (.int .i64 (x : Int)) ∧ w'.cell? ⟨g, 1, none⟩ = some (.int .i64 (y : Int)) | _ => True) (by kernel_rfl) (by kernel_rfl) ?hq2 ?hu2 ?hR2 ?h2
        case hq2 => intro t v h; split at h <;> simp_all
        case hu2 => intro t h; split at h <;> simp_all [undef]
        case hR2 => intro t v w w' h1 h2 h3; split at h1 <;> first | exact (by obtain ⟨g, e, hg, ha, hb⟩ := h2; exact ⟨g, e, Nat.lt_of_lt_of_le hg h3.size, (h3.cell hg).trans ha, (h3.cell hg).trans hb⟩) | trivial
        case h2 =>
          dsimp only [List.take, List.drop]
          repeat (first | (refine Flow.skip rfl ?_; simp only [Act.put, List.setIfInBounds_toArray, List.set_cons_zero, List.set_cons_succ]) | (refine Flow.plain rfl rfl ?_; go_big_quiet_step (fail); refine wpQuiet_nil ?_))
          refine Flow.make 88 rfl rfl rfl ⟨.slice (some ⟨0, 0, none⟩) 1 1, 0, rfl⟩ (fun wx hx hf => ⟨.slice (some ⟨wx.heap.size, 0, none⟩) 1 1, wx.alloc (.cells #[.int .i64 (x : Int), .int .i64 (y : Int)] 28), by kernel_rfl, (Ext.refl wx).alloc _, ⟨_, rfl⟩, ⟨_, rfl, by simp, by simp [go_sem], by simp [go_sem]⟩⟩) ?_
          rintro _ ⟨g9, rfl⟩
          simp only [Act.put, List.setIfInBounds_toArray, List.set_cons_zero, List.set_cons_succ]
          refine Flow.nil fun w8 hx8 hf => ?_
          obtain ⟨g6, e6, hg6, ha6, hb6⟩ := hf 88 (by simp) ⟨g9, rfl⟩
          have e7 : (Value.slice (some ⟨g9, 0, none⟩) 1 1) = .slice (some ⟨g6, 0, none⟩) 1 1 := e6
          simp only [Value.slice.injEq, Option.some.injEq, Addr.mk.injEq, and_true] at e7
          subst e7
          have E8 := Lib.hid (E7.out.trans hx8)
          have O8 := Lib.hid (ST.out.2.ext E8.out)
          have Z8 : Hid ((diffPre W l1 l2 i).length ≤ 1000000) := Lib.hid (by have := diffPre_len W l1 l2 i; omega)
          have B8 : Hid (wb.heap.size ≤ w8.heap.size) := Lib.hid (ST.out.1.trans E8.out).size
          have HA := Lib.hid (And.intro ha6 hb6)
          clear hf e6 ha6 hb6 hx8 i0 hx' hy'
          refine wpList_pt (q := (x, y)) rfl (.tmp 78) (.tmp 88) rfl rfl rfl O8.out HA.out.1 HA.out.2 Z8.out B8.out ?_
          intro v9 w9 hO9 hgr9
          have E9 := Lib.hid ((ST.out.1.trans E8.out).grown hgr9 (fun k hk => ST.out.2.row k hk))
          rw [← HD.out] at hO9
          obtain ⟨A9, c9, rfl⟩ := own_slice hO9
          have O9 := Lib.hid hO9
          obtain ⟨L9, hL9⟩ : ∃ L, (diffPre W l1 l2 (i + 1)).length = L := ⟨_, rfl⟩
          rw [hL9] at O9
          rw [hL9]
          clear hO9 hgr9 hL9
          go_wp2
          go_roundw
          case rel => exact ⟨i + 1, A9, L9, c9, by omega, rfl, by go_num, Lib.hid ⟨E9.out, O9.out⟩⟩
          case measure => simp [intOf]; omega
    · have hlt' : ¬ (i : Int) < (N2 : Int) := by omega
      have hiN : N2 = i := by omega
      subst hiN
      have LS : Hid (n = (diffPre W l1 l2 N2).length) := Lib.hid (by obtain ⟨_, _, e, _⟩ := ST.out.2.pts; simp only [Value.slice.injEq] at e; exact e.2.1)
      clear i1 j0 j1 hlt
      go_wp2
      go_loopw [9, 94] (fun t9 t94 wx => ∃ (i k : Nat), i ≤ N2 ∧ k ≤ i ∧ t9 = .int .i64 (k : Int) ∧ t94 = .int .i64 (i : Int) ∧ Hid (Ext wr wx ∧ k = countP (p0r, p0g, p0u, p0a) (l1.take i))) (fun _ t94 _ => N2 - (intOf t94).toNat)
      case atStart => exact ⟨0, 0, by omega, by omega, rfl, rfl, Lib.hid ⟨Ext.refl _, by simp [countP]⟩⟩
      case round =>
        clear i0 i2 j2 b0 b1 b2 b3 hzr
        obtain ⟨i, k, hi2, hk, rfl, rfl, S2⟩ := hrel
        obtain ⟨⟨i0, i1, i2⟩, ⟨j0, j1, j2⟩, ⟨b0, b1, b2, b3⟩⟩ := FC.out _ (ST.out.1.trans S2.out.1)
        have hzr : B5 < wr.heap.size ∧ q + 1 < wr.heap.size := ⟨Nat.lt_of_lt_of_le hz.1 (ST.out.1.trans S2.out.1).size, Nat.lt_of_lt_of_le hz.2 (ST.out.1.trans S2.out.1).size⟩
        obtain ⟨b', off', r', g', u', a', rfl, hbs', hp', hpb', d0, d1, d2, d3⟩ := (P1.out.ext (EB.out.trans (ST.out.1.trans S2.out.1))).at hN0
        rw [HP0.out] at hp'
        simp only [Prod.mk.injEq] at hp'
        obtain ⟨rfl, rfl, rfl, rfl⟩ := hp'
        simp only [Nat.zero_mul, Nat.add_zero, Nat.zero_add] at d0 d1 d2 d3
        have HPB := Lib.hid hpb'
        clear hpb'
        by_cases hlt : i < N2
        · have hlt' : (i : Int) < (N2 : Int) := by omega
          obtain ⟨b, off, r, g, u, a, e, hbs, hp, hpb, c0, c1, c2, c3⟩ := (P1.out.ext (EB.out.trans (ST.out.1.trans S2.out.1))).at hlt
          simp only [Option.some.injEq, Addr.mk.injEq, and_true] at e
          obtain ⟨rfl, rfl⟩ := e
          have HS := Lib.hid (countP_snoc (p0r, p0g, p0u, p0a) l1 i (by have := HN1.out; omega))
          rw [hp] at HS
          clear hp hpb b0 b1 b2 b3 i0 i1 j0 j1 j2
          go_wp2
          obtain ⟨w6, hw6⟩ : ∃ w6, wr.alloc (.cells #[.int .u8 (r : Int), .int .u8 (g : Int), .int .u8 (u : Int), .int .u8 (a : Int)] 40) = w6 := ⟨_, rfl⟩
          have E6 : Ext wr w6 := hw6 ▸ (Ext.refl wr).alloc _
          have e0 : w6.cell? ⟨wr.heap.size, 0, none⟩ = some (.int .u8 (r : Int)) := by rw [← hw6]; simp [go_sem]
          have e1 : w6.cell? ⟨wr.heap.size, 1, none⟩ = some (.int .u8 (g : Int)) := by rw [← hw6]; simp [go_sem]
          have e2 : w6.cell? ⟨wr.heap.size, 2, none⟩ = some (.int .u8 (u : Int)) := by rw [← hw6]; simp [go_sem]
          have e3 : w6.cell? ⟨wr.heap.size, 3, none⟩ = some (.int .u8 (a : Int)) := by rw [← hw6]; simp [go_sem]
          have hz6 : wr.heap.size < w6.heap.size := by rw [← hw6]; simp
          rw [hw6]
          clear hw6
          obtain ⟨gb, hgb⟩ : ∃ gb, wr.heap.size = gb := ⟨_, rfl⟩
          rw [hgb] at e0 e1 e2 e3 hz6
          rw [hgb]
          clear hgb
          have hx : ∀ g, Ext w6 (w6.ext g) := fun g => ⟨g, rfl⟩
          have hy : ∀ g, Ext wr (w6.ext g) := fun g => E6.trans ⟨g, rfl⟩
          replace e0 := fun g => ((hx g).cell hz6).trans e0
          replace e1 := fun g => ((hx g).cell hz6).trans e1
          replace e2 := fun g => ((hx g).cell hz6).trans e2
          replace e3 := fun g => ((hx g).cell hz6).trans e3
          replace i2 := fun g => ((hy g).cell (by omega)).trans i2
          replace d0 := fun g => ((hy g).cell hbs').trans d0
          replace d1 := fun g => ((hy g).cell hbs').trans d1
          replace d2 := fun g => ((hy g).cell hbs').trans d2
          replace d3 := fun g => ((hy g).cell hbs').trans d3
          have E6 := Lib.hid E6
          clear c0 c1 c2 c3 hx hy
          by_cases heq : (r, g, u, a) = (p0r, p0g, p0u, p0a)
          · have HS2 : Hid (k + 1 = countP (p0r, p0g, p0u, p0a) (l1.take (i + 1))) := Lib.hid (by rw [HS.out, if_pos heq, ← S2.out.2])
            simp only [Prod.mk.injEq] at heq
            obtain ⟨rfl, rfl, rfl, rfl⟩ := heq
            refine region_flow 6 [] (fun t v => False) (fun t v w' => True) (by kernel_rfl) (by kernel_rfl) (fun t v h => h.elim) (fun t h => h) (fun _ _ _ _ h => h.elim) ?_
            dsimp only [List.take, List.drop]
            repeat (first | (refine Flow.skip rfl ?_; simp only [Act.put, List.setIfInBounds_toArray, List.set_cons_zero, List.set_cons_succ]) | (refine Flow.plain rfl rfl ?_; go_big_quiet_step (fail); refine wpQuiet_nil ?_))
            refine Flow.nil fun w7 hx7 hf => ?_
            have E7 := Lib.hid (E6.out.trans hx7)
            clear hf hx7 e0 e1 e2 e3 i2 d0 d1 d2 d3
            dsimp only [wpList, Exit.then]
            go_wp2
            go_roundw
            case rel => exact ⟨i + 1, k + 1, by omega, by omega, by go_num, by go_num, Lib.hid ⟨S2.out.1.trans E7.out, HS2.out⟩⟩
            case measure => simp [intOf]; omega
          · have HS2 : Hid (k = countP (p0r, p0g, p0u, p0a) (l1.take (i + 1))) := Lib.hid (by rw [HS.out, if_neg heq, ← S2.out.2]; rfl)
            have hcmp : ((r : Int) == (p0r : Int) && ((g : Int) == (p0g : Int) && ((u : Int) == (p0u : Int) && (a : Int) == (p0a : Int)))) = false := by
              simp only [Prod.mk.injEq] at heq
              simp
              omega
            have hneq : ∀ wx, (binOp .eql 40 (.agg #[.int .u8 (r : Int), .int .u8 (g : Int), .int .u8 (u : Int), .int .u8 (a : Int)]) (.agg #[.int .u8 (p0r : Int), .int .u8 (p0g : Int), .int .u8 (p0u : Int), .int .u8 (p0a : Int)])).run Try.prog wx = .ok (.bool false) wx := fun wx => by
              simp [go_sem, hcmp]
            clear heq hcmp
            refine region_flow 6 [] (fun t v => False) (fun t v w' => True) (by kernel_rfl) (by kernel_rfl) (fun t v h => h.elim) (fun t h => h) (fun _ _ _ _ h => h.elim) ?_
            dsimp only [List.take, List.drop]
            repeat (first | (refine Flow.skip rfl ?_; simp only [Act.put, List.setIfInBounds_toArray, List.set_cons_zero, List.set_cons_succ]) | (refine Flow.plain rfl rfl ?_; go_big_quiet_step (fail); refine wpQuiet_nil ?_))
            refine Flow.nil fun w7 hx7 hf => ?_
            have E7 := Lib.hid (E6.out.trans hx7)
            clear hf hx7 e0 e1 e2 e3 i2 d0 d1 d2 d3 hneq
            dsimp only [wpList, Exit.then]
            go_wp2
            go_roundw
            case rel => exact ⟨i + 1, k, by omega, by omega, rfl, by go_num, Lib.hid ⟨S2.out.1.trans E7.out, HS2.out⟩⟩
            case measure => simp [intOf]; omega
        · have hlt' : ¬ (i : Int) < (N2 : Int) := by omega
          have hiN : N2 = i := by omega
          subst hiN
          have EW := Lib.hid (EB.out.trans (ST.out.1.trans S2.out.1))
          have BD := Lib.hid (fun wx hx => bound_any (.slice A n cc) _ wx ((ST.out.2.ext S2.out.1).pts.ext hx) (diffPre_bd W l1 l2 N2 (by omega)))
          rw [HBX.out] at BD
          simp only [boxV] at BD
          have EQ := Lib.hid (fun wx (hx : Ext w wx) => equal_any (W : Int) (H : Int) (W : Int) (H : Int) (.slice (some ⟨b', off', none⟩) N2 c1) (.slice X2 N2 c2) l1 l2 wx (P1.out.ext hx) (P2.out.ext hx))
          have CT := Lib.hid (fun wx (hx : Ext w wx) => count_any (W : Int) (H : Int) (.slice (some ⟨b', off', none⟩) N2 c1) l1 p0r p0g p0u p0a wx (P1.out.ext hx) (by have := HN1.out; omega))
          have hkk : countP (p0r, p0g, p0u, p0a) l1 = k := by rw [S2.out.2, List.take_of_length_le (by have := HN1.out; omega)]
          rw [hkk] at CT
          have HE : Hid (eqI (W : Int) (H : Int) (W : Int) (H : Int) l1 l2 = decide (n = 0)) := Lib.hid (by
            have h := diffPre_nil W l1 l2 (by rw [HN1.out, HN2.out])
            rw [HN1.out, ← LS.out] at h
            unfold eqI
            simp only [decide_true, Bool.true_and]
            rw [decide_eq_decide]
            exact h.symm)
          rw [HE.out] at EQ
          clear hkk i1 j1
          have hy : ∀ g, Ext wr (wr.ext g) := fun g => ⟨g, rfl⟩
          obtain ⟨h5a, h5b⟩ := hzr
          have i1 := (FC.out _ (ST.out.1.trans S2.out.1)).1.2.1
          have j1 := (FC.out _ (ST.out.1.trans S2.out.1)).2.1.2.1
          replace i0 := fun g => ((hy g).cell (by omega)).trans i0
          replace i1 := fun g => ((hy g).cell (by omega)).trans i1
          replace i2 := fun g => ((hy g).cell (by omega)).trans i2
          replace j0 := fun g => ((hy g).cell h5b).trans j0
          replace j1 := fun g => ((hy g).cell h5b).trans j1
          replace j2 := fun g => ((hy g).cell h5b).trans j2
          replace b0 := fun g => ((hy g).cell h5a).trans b0
          replace b1 := fun g => ((hy g).cell h5a).trans b1
          replace b2 := fun g => ((hy g).cell h5a).trans b2
          replace b3 := fun g => ((hy g).cell h5a).trans b3
          replace d0 := fun g => ((hy g).cell hbs').trans d0
          replace d1 := fun g => ((hy g).cell hbs').trans d1
          replace d2 := fun g => ((hy g).cell hbs').trans d2
          replace d3 := fun g => ((hy g).cell hbs').trans d3
          clear hy
          rcases Nat.eq_zero_or_pos n with hn0 | hn0
          · subst hn0
            rw [show decide ((0 : Nat) = 0) = true from rfl] at EQ
            go_wp2
            refine region_flow 31 [112, 118, 130, 135] (fun t v => match t with | 112 => v = .agg #[.int .i64 ba, .int .i64 bb, .int .i64 bc, .int .i64 bd] | 118 => v = .bool true | 130 => v = .int .i64 (k : Int) | 135 => v = .bool true | _ => False) (fun t v w' => True) (by kernel_rfl) (by kernel_rfl) ?hq ?hu ?hR ?h
            case hq => intro t v h; split at h <;> simp_all
            case hu => intro t h; split at h <;> simp_all [undef]
            case hR => intros; trivial
            case h =>
              dsimp only [List.take, List.drop]
              repeat (first | (refine Flow.skip rfl ?_; simp only [Act.put, List.setIfInBounds_toArray, List.set_cons_zero, List.set_cons_succ]) | (refine Flow.plain rfl rfl ?_; go_big_quiet_step (fail); refine wpQuiet_nil ?_))
              refine Flow.call Try.call24 [.slice A 0 cc] rfl rfl rfl ?_ (fun wx hx hf => (BD.out wx hx).mono ?_) ?_
              · exact ⟨_, rfl⟩
              · exact fun e w' ⟨h1, h2⟩ => ⟨_, h1, h2, rfl, trivial⟩
              rintro v rfl
              simp only [Act.put, List.setIfInBounds_toArray, List.set_cons_zero, List.set_cons_succ]
              repeat (first | (refine Flow.skip rfl ?_; simp only [Act.put, List.setIfInBounds_toArray, List.set_cons_zero, List.set_cons_succ]) | (refine Flow.plain rfl rfl ?_; go_big_quiet_step (fail); refine wpQuiet_nil ?_))
              refine Flow.call Try.call25 [.agg #[.int .i64 (W : Int), .int .i64 (H : Int), .slice (some ⟨b', off', none⟩) N2 c1], .agg #[.int .i64 (W : Int), .int .i64 (H : Int), .slice X2 N2 c2]] rfl rfl rfl ?_ (fun wx hx hf => (EQ.out wx (EW.out.trans hx)).mono ?_) ?_
              · exact ⟨_, rfl⟩
              · exact fun e w' ⟨h1, h2⟩ => ⟨_, h1, h2, rfl, trivial⟩
              rintro v rfl
              simp only [Act.put, List.setIfInBounds_toArray, List.set_cons_zero, List.set_cons_succ]
              repeat (first | (refine Flow.skip rfl ?_; simp only [Act.put, List.setIfInBounds_toArray, List.set_cons_zero, List.set_cons_succ]) | (refine Flow.plain rfl rfl ?_; go_big_quiet_step (fail); refine wpQuiet_nil ?_))
              refine Flow.call Try.call26 [.agg #[.int .i64 (W : Int), .int .i64 (H : Int), .slice (some ⟨b', off', none⟩) N2 c1], .agg #[.int .u8 (p0r : Int), .int .u8 (p0g : Int), .int .u8 (p0u : Int), .int .u8 (p0a : Int)]] rfl rfl rfl ?_ (fun wx hx hf => (CT.out wx (EW.out.trans hx)).mono ?_) ?_
              · exact ⟨_, rfl⟩
              · exact fun e w' ⟨h1, h2⟩ => ⟨_, h1, h2, rfl, trivial⟩
              rintro v rfl
              simp only [Act.put, List.setIfInBounds_toArray, List.set_cons_zero, List.set_cons_succ]
              repeat (first | (refine Flow.skip rfl ?_; simp only [Act.put, List.setIfInBounds_toArray, List.set_cons_zero, List.set_cons_succ]) | (refine Flow.plain rfl rfl ?_; go_big_quiet_step (fail); refine wpQuiet_nil ?_))
              refine Flow.call Try.call10 [] rfl rfl rfl ?_ (fun wx hx hf => (awake_any wx).mono ?_) ?_
              · exact ⟨_, rfl⟩
              · exact fun e w' ⟨h1, h2⟩ => ⟨_, h1, h2, rfl, trivial⟩
              rintro v rfl
              simp only [Act.put, List.setIfInBounds_toArray, List.set_cons_zero, List.set_cons_succ]
              repeat (first | (refine Flow.skip rfl ?_; simp only [Act.put, List.setIfInBounds_toArray, List.set_cons_zero, List.set_cons_succ]) | (refine Flow.plain rfl rfl ?_; go_big_quiet_step (fail); refine wpQuiet_nil ?_))
              refine Flow.nil fun w5 hx5 hf => ?_
              have E5 := Lib.hid (EW.out.trans hx5)
              clear hf hx5
              dsimp only [wpList, Exit.then]
              go_wp2
              go_ret
              exact ⟨rfl, E5.out⟩
          · have hn1 : ¬ (n : Int) = 0 := by omega
            have hn3 : ((n : Int) == 0) = false := by simpa using hn1
            rw [show decide (n = 0) = false by simp; omega] at EQ
            go_wp2
            refine region_flow 31 [112, 118, 130, 135] (fun t v => match t with | 112 => v = .agg #[.int .i64 ba, .int .i64 bb, .int .i64 bc, .int .i64 bd] | 118 => v = .bool false | 130 => v = .int .i64 (k : Int) | 135 => v = .bool true | _ => False) (fun t v w' => True) (by kernel_rfl) (by kernel_rfl) ?hq ?hu ?hR ?h
            case hq => intro t v h; split at h <;> simp_all
            case hu => intro t h; split at h <;> simp_all [undef]
            case hR => intros; trivial
            case h =>
              dsimp only [List.take, List.drop]
              repeat (first | (refine Flow.skip rfl ?_; simp only [Act.put, List.setIfInBounds_toArray, List.set_cons_zero, List.set_cons_succ]) | (refine Flow.plain rfl rfl ?_; go_big_quiet_step (fail); refine wpQuiet_nil ?_))
              refine Flow.call Try.call24 [.slice A n cc] rfl rfl rfl ?_ (fun wx hx hf => (BD.out wx hx).mono ?_) ?_
              · exact ⟨_, rfl⟩
              · exact fun e w' ⟨h1, h2⟩ => ⟨_, h1, h2, rfl, trivial⟩
              rintro v rfl
              simp only [Act.put, List.setIfInBounds_toArray, List.set_cons_zero, List.set_cons_succ]
              repeat (first | (refine Flow.skip rfl ?_; simp only [Act.put, List.setIfInBounds_toArray, List.set_cons_zero, List.set_cons_succ]) | (refine Flow.plain rfl rfl ?_; go_big_quiet_step (fail); refine wpQuiet_nil ?_))
              refine Flow.call Try.call25 [.agg #[.int .i64 (W : Int), .int .i64 (H : Int), .slice (some ⟨b', off', none⟩) N2 c1], .agg #[.int .i64 (W : Int), .int .i64 (H : Int), .slice X2 N2 c2]] rfl rfl rfl ?_ (fun wx hx hf => (EQ.out wx (EW.out.trans hx)).mono ?_) ?_
              · exact ⟨_, rfl⟩
              · exact fun e w' ⟨h1, h2⟩ => ⟨_, h1, h2, rfl, trivial⟩
              rintro v rfl
              simp only [Act.put, List.setIfInBounds_toArray, List.set_cons_zero, List.set_cons_succ]
              repeat (first | (refine Flow.skip rfl ?_; simp only [Act.put, List.setIfInBounds_toArray, List.set_cons_zero, List.set_cons_succ]) | (refine Flow.plain rfl rfl ?_; go_big_quiet_step (fail); refine wpQuiet_nil ?_))
              refine Flow.call Try.call26 [.agg #[.int .i64 (W : Int), .int .i64 (H : Int), .slice (some ⟨b', off', none⟩) N2 c1], .agg #[.int .u8 (p0r : Int), .int .u8 (p0g : Int), .int .u8 (p0u : Int), .int .u8 (p0a : Int)]] rfl rfl rfl ?_ (fun wx hx hf => (CT.out wx (EW.out.trans hx)).mono ?_) ?_
              · exact ⟨_, rfl⟩
              · exact fun e w' ⟨h1, h2⟩ => ⟨_, h1, h2, rfl, trivial⟩
              rintro v rfl
              simp only [Act.put, List.setIfInBounds_toArray, List.set_cons_zero, List.set_cons_succ]
              repeat (first | (refine Flow.skip rfl ?_; simp only [Act.put, List.setIfInBounds_toArray, List.set_cons_zero, List.set_cons_succ]) | (refine Flow.plain rfl rfl ?_; go_big_quiet_step (fail); refine wpQuiet_nil ?_))
              refine Flow.call Try.call10 [] rfl rfl rfl ?_ (fun wx hx hf => (awake_any wx).mono ?_) ?_
              · exact ⟨_, rfl⟩
              · exact fun e w' ⟨h1, h2⟩ => ⟨_, h1, h2, rfl, trivial⟩
              rintro v rfl
              simp only [Act.put, List.setIfInBounds_toArray, List.set_cons_zero, List.set_cons_succ]
              repeat (first | (refine Flow.skip rfl ?_; simp only [Act.put, List.setIfInBounds_toArray, List.set_cons_zero, List.set_cons_succ]) | (refine Flow.plain rfl rfl ?_; go_big_quiet_step (fail); refine wpQuiet_nil ?_))
              refine Flow.nil fun w5 hx5 hf => ?_
              have E5 := Lib.hid (EW.out.trans hx5)
              clear hf hx5
              dsimp only [wpList, Exit.then]
              go_wp2
              go_ret
              exact ⟨rfl, E5.out⟩

end Go.Proofs.Ytncphiphgkjflaa
