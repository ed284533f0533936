import Derived.Test.YtncphiphgkjflaaIDiff
namespace Go.Proofs.Ytncphiphgkjflaa
open Go.RowKit Go.Shelf
set_option linter.unusedVariables false
set_option linter.unusedSimpArgs false

/-- where two images differ, of the first i pixels -/
def diffPre (W : Nat) (l1 l2 : List Px) (i : Nat) : List (Nat × Nat) := (List.range i).filterMap fun k => if l1.getD k noP = l2.getD k noP then none else some (k % W, k / W)
theorem diffPre_succ (W : Nat) (l1 l2 : List Px) (i : Nat) : diffPre W l1 l2 (i + 1) = diffPre W l1 l2 i ++ (if l1.getD i noP = l2.getD i noP then [] else [(i % W, i / W)]) := by
  unfold diffPre
  rw [List.range_succ, List.filterMap_append]
  congr 1
  simp only [List.filterMap_cons, List.filterMap_nil]
  split <;> split <;> simp_all
theorem diffPre_len (W : Nat) (l1 l2 : List Px) (i : Nat) : (diffPre W l1 l2 i).length ≤ i := by
  unfold diffPre
  have := List.length_filterMap_le (fun k => if l1.getD k noP = l2.getD k noP then none else some (k % W, k / W)) (List.range i)
  simpa using this
theorem diffPre_bd (W : Nat) (l1 l2 : List Px) (i : Nat) (hi : i ≤ 65536) (j : Nat) : ((diffPre W l1 l2 i).getD j (0, 0)).1 ≤ 1000000 ∧ ((diffPre W l1 l2 i).getD j (0, 0)).2 ≤ 1000000 := by
  have hm : ∀ x ∈ diffPre W l1 l2 i, x.1 ≤ 1000000 ∧ x.2 ≤ 1000000 := by
    intro x hx
    unfold diffPre at hx
    rw [List.mem_filterMap] at hx
    obtain ⟨k, hk, e⟩ := hx
    have hk' := List.mem_range.1 hk
    split at e
    · cases e
    · simp only [Option.some.injEq] at e
      subst e
      have a := Nat.mod_le k W
      have b := Nat.div_le_self k W
      exact ⟨by simp only; omega, by simp only; omega⟩
  rw [List.getD_eq_getElem?_getD]
  cases h : (diffPre W l1 l2 i)[j]? with
  | none => simp
  | some x => exact hm x (List.mem_of_getElem? h)

set_option maxRecDepth 100000 in
set_option maxHeartbeats 6400000 in
theorem diff_yes (W H : Nat) (v1 v2 : Value) (l1 l2 : List Px) (w : World) (hl1 : Pix .u8 w v1 l1) (hl2 : Pix .u8 w v2 l2) (h1 : rightI (W : Int) (H : Int) l1 = true) (h2 : rightI (W : Int) (H : Int) l2 = true) :
    Calls Try.prog 23 #[.agg #[.int .i64 (W : Int), .int .i64 (H : Int), v1], .agg #[.int .i64 (W : Int), .int .i64 (H : Int), v2]] w fun e w' => e = .returned (.tuple #[boxV (boundF (diffPre W l1 l2 l1.length)), .int .i64 0]) ∧ Ext w w' := by
  have hside : sideB (W : Int) = true ∧ sideB (H : Int) = true ∧ l1.length = W * H ∧ l2.length = W * H := by
    have a := h1
    have b := h2
    unfold rightI at a b
    simp only [Bool.and_eq_true, decide_eq_true_eq] at a b
    exact ⟨a.1.1.1, a.1.1.2, by have := a.1.2; exact_mod_cast this, by have := b.1.2; exact_mod_cast this⟩
  have hWb : 1 ≤ W ∧ W ≤ 256 := by have := hside.1; simp [sideB] at this; omega
  have hHb : 1 ≤ H ∧ H ≤ 256 := by have := hside.2.1; simp [sideB] at this; omega
  have P1 := Lib.hid hl1
  have P2 := Lib.hid hl2
  obtain ⟨X1, c1, rfl, hc1, hc1', _⟩ := hl1
  obtain ⟨X2, c2, rfl, hc2, hc2', _⟩ := hl2
  obtain ⟨N1, hN1⟩ : ∃ N, l1.length = N := ⟨_, rfl⟩
  obtain ⟨N2, hN2⟩ : ∃ N, l2.length = N := ⟨_, rfl⟩
  rw [hN1] at P1 hc1
  rw [hN2] at P2 hc2
  rw [hN1, hN2]
  have HN1 := Lib.hid hN1
  have HN2 := Lib.hid hN2
  clear hN1 hN2
  have CK1 := Lib.hid (fun wx (hx : Ext w wx) => check_any (W : Int) (H : Int) (.slice X1 N1 c1) l1 wx (by omega) (by omega) (P1.out.ext hx))
  have CK2 := Lib.hid (fun wx (hx : Ext w wx) => check_any (W : Int) (H : Int) (.slice X2 N2 c2) l2 wx (by omega) (by omega) (P2.out.ext hx))
  have e12 : N2 = N1 := by rw [← HN1.out, ← HN2.out, hside.2.2.1, hside.2.2.2]
  subst e12
  have hN0 : N2 ≤ 65536 := by rw [← HN2.out, hside.2.2.2]; exact Nat.mul_le_mul hWb.2 hHb.2
  rw [h1, show errB true = 0 from rfl] at CK1
  rw [h2, show errB true = 0 from rfl] at CK2
  clear hside h1 h2
  go_enter Try.func23, Try.ntmps23
  go_wp2
  obtain ⟨wq, hwq⟩ : ∃ wq, ((w.alloc (.cells #[.int .i64 (W : Int), .int .i64 (H : Int), .slice X1 N2 c1] 24)).alloc (.cells #[.int .i64 (W : Int), .int .i64 (H : Int), .slice X2 N2 c2] 24)).alloc (.cells #[.int .i64 0, .int .i64 0, .int .i64 0, .int .i64 0] 26) = wq := ⟨_, rfl⟩
  obtain ⟨q, hq⟩ : ∃ q, w.heap.size = q := ⟨_, rfl⟩
  have EQ : Hid (Ext w wq) := Lib.hid (by rw [← hwq]; (repeat (first | exact Ext.refl _ | apply Ext.alloc | apply Ext.ext)))
  have i0 : wq.cell? ⟨q, 0, none⟩ = some (.int .i64 (W : Int)) := by rw [← hwq, ← hq]; simp [go_sem]
  have i1 : wq.cell? ⟨q, 1, none⟩ = some (.int .i64 (H : Int)) := by rw [← hwq, ← hq]; simp [go_sem]
  have i2 : wq.cell? ⟨q, 2, none⟩ = some (.slice X1 N2 c1) := by rw [← hwq, ← hq]; simp [go_sem]
  have j0 : wq.cell? ⟨q + 1, 0, none⟩ = some (.int .i64 (W : Int)) := by rw [← hwq, ← hq]; simp [go_sem]
  have j1 : wq.cell? ⟨q + 1, 1, none⟩ = some (.int .i64 (H : Int)) := by rw [← hwq, ← hq]; simp [go_sem]
  have j2 : wq.cell? ⟨q + 1, 2, none⟩ = some (.slice X2 N2 c2) := by rw [← hwq, ← hq]; simp [go_sem]
  have r0 : wq.cell? ⟨q + 2, 0, none⟩ = some (.int .i64 0) := by rw [← hwq, ← hq]; simp [go_sem]
  have r1 : wq.cell? ⟨q + 2, 1, none⟩ = some (.int .i64 0) := by rw [← hwq, ← hq]; simp [go_sem]
  have r2 : wq.cell? ⟨q + 2, 2, none⟩ = some (.int .i64 0) := by rw [← hwq, ← hq]; simp [go_sem]
  have r3 : wq.cell? ⟨q + 2, 3, none⟩ = some (.int .i64 0) := by rw [← hwq, ← hq]; simp [go_sem]
  have rf : ∀ j, wq.frozen? ⟨q + 2, j, none⟩ = false := fun j => by rw [← hwq, ← hq]; simp [go_sem]
  have hz : wq.heap.size = q + 3 := by rw [← hwq, ← hq]; simp
  rw [hwq, hq]
  have HQ := Lib.hid hq
  clear hwq hq
  have FC : Hid (∀ wr, Ext wq wr → (wr.cell? ⟨q, 0, none⟩ = some (.int .i64 (W : Int)) ∧ wr.cell? ⟨q, 1, none⟩ = some (.int .i64 (H : Int)) ∧ wr.cell? ⟨q, 2, none⟩ = some (.slice X1 N2 c1)) ∧ (wr.cell? ⟨q + 1, 0, none⟩ = some (.int .i64 (W : Int)) ∧ wr.cell? ⟨q + 1, 1, none⟩ = some (.int .i64 (H : Int)) ∧ wr.cell? ⟨q + 1, 2, none⟩ = some (.slice X2 N2 c2)) ∧ (wr.cell? ⟨q + 2, 0, none⟩ = some (.int .i64 0) ∧ wr.cell? ⟨q + 2, 1, none⟩ = some (.int .i64 0) ∧ wr.cell? ⟨q + 2, 2, none⟩ = some (.int .i64 0) ∧ wr.cell? ⟨q + 2, 3, none⟩ = some (.int .i64 0) ∧ ∀ j, wr.frozen? ⟨q + 2, j, none⟩ = false)) := Lib.hid (fun wr hk =>
    ⟨⟨(hk.cell (by omega)).trans i0, (hk.cell (by omega)).trans i1, (hk.cell (by omega)).trans i2⟩, ⟨(hk.cell (by omega)).trans j0, (hk.cell (by omega)).trans j1, (hk.cell (by omega)).trans j2⟩, ⟨(hk.cell (by omega)).trans r0, (hk.cell (by omega)).trans r1, (hk.cell (by omega)).trans r2, (hk.cell (by omega)).trans r3, fun j => (hk.frozen (by omega)).trans (rf j)⟩⟩)
  clear i0 i1 i2 j0 j1 j2 r0 r1 r2 r3 rf
  have k0 : ∀ g, (wq.ext g).cell? ⟨q, 0, none⟩ = some (.int .i64 (W : Int)) := fun g => (FC.out _ ⟨g, rfl⟩).1.1
  have k1 : ∀ g, (wq.ext g).cell? ⟨q, 1, none⟩ = some (.int .i64 (H : Int)) := fun g => (FC.out _ ⟨g, rfl⟩).1.2.1
  have k2 : ∀ g, (wq.ext g).cell? ⟨q, 2, none⟩ = some (.slice X1 N2 c1) := fun g => (FC.out _ ⟨g, rfl⟩).1.2.2
  have k3 : ∀ g, (wq.ext g).cell? ⟨q + 1, 0, none⟩ = some (.int .i64 (W : Int)) := fun g => (FC.out _ ⟨g, rfl⟩).2.1.1
  have k4 : ∀ g, (wq.ext g).cell? ⟨q + 1, 1, none⟩ = some (.int .i64 (H : Int)) := fun g => (FC.out _ ⟨g, rfl⟩).2.1.2.1
  have k5 : ∀ g, (wq.ext g).cell? ⟨q + 1, 2, none⟩ = some (.slice X2 N2 c2) := fun g => (FC.out _ ⟨g, rfl⟩).2.1.2.2
  refine region_flow 15 [10, 14, 19, 21] (fun t v => match t with | 10 => v = .int .i64 0 | 14 => v = .int .i64 0 | 19 => v = .agg #[.int .i64 0, .int .i64 0, .int .i64 (W : Int), .int .i64 (H : Int)] | 21 => v = .agg #[.int .i64 0, .int .i64 0, .int .i64 (W : Int), .int .i64 (H : Int)] | _ => False) (fun t v w' => True) (by kernel_rfl) (by kernel_rfl) ?hq ?hu ?hR ?h
  case hq => intro t v h; split at h <;> simp_all
  case hu => intro t h; split at h <;> simp_all [undef]
  case hR => intros; trivial
  case h =>
    dsimp only [List.take, List.drop]
    repeat (first | (refine Flow.skip rfl ?_; simp only [Act.put, List.setIfInBounds_toArray, List.set_cons_zero, List.set_cons_succ]) | (refine Flow.plain rfl rfl ?_; go_big_quiet_step (fail); refine wpQuiet_nil ?_))
    refine Flow.call Try.call17 [.agg #[.int .i64 (W : Int), .int .i64 (H : Int), .slice X1 N2 c1]] rfl rfl rfl ?_ (fun wx hx hf => (CK1.out wx (EQ.out.trans hx)).mono ?_) ?_
    · exact ⟨_, rfl⟩
    · exact fun e w' ⟨h1, h2⟩ => ⟨_, h1, h2, rfl, trivial⟩
    rintro v rfl
    simp only [Act.put, List.setIfInBounds_toArray, List.set_cons_zero, List.set_cons_succ]
    repeat (first | (refine Flow.skip rfl ?_; simp only [Act.put, List.setIfInBounds_toArray, List.set_cons_zero, List.set_cons_succ]) | (refine Flow.plain rfl rfl ?_; go_big_quiet_step (fail); refine wpQuiet_nil ?_))
    refine Flow.call Try.call17 [.agg #[.int .i64 (W : Int), .int .i64 (H : Int), .slice X2 N2 c2]] rfl rfl rfl ?_ (fun wx hx hf => (CK2.out wx (EQ.out.trans hx)).mono ?_) ?_
    · exact ⟨_, rfl⟩
    · exact fun e w' ⟨h1, h2⟩ => ⟨_, h1, h2, rfl, trivial⟩
    rintro v rfl
    simp only [Act.put, List.setIfInBounds_toArray, List.set_cons_zero, List.set_cons_succ]
    repeat (first | (refine Flow.skip rfl ?_; simp only [Act.put, List.setIfInBounds_toArray, List.set_cons_zero, List.set_cons_succ]) | (refine Flow.plain rfl rfl ?_; go_big_quiet_step (fail); refine wpQuiet_nil ?_))
    refine Flow.call Try.call15 [.agg #[.int .i64 (W : Int), .int .i64 (H : Int), .slice X1 N2 c1]] rfl rfl rfl ?_ (fun wx hx hf => (box_any (W : Int) (H : Int) (.slice X1 N2 c1) wx).mono ?_) ?_
    · exact ⟨_, rfl⟩
    · exact fun e w' ⟨h1, h2⟩ => ⟨_, h1, h2, rfl, trivial⟩
    rintro v rfl
    simp only [Act.put, List.setIfInBounds_toArray, List.set_cons_zero, List.set_cons_succ]
    repeat (first | (refine Flow.skip rfl ?_; simp only [Act.put, List.setIfInBounds_toArray, List.set_cons_zero, List.set_cons_succ]) | (refine Flow.plain rfl rfl ?_; go_big_quiet_step (fail); refine wpQuiet_nil ?_))
    refine Flow.call Try.call15 [.agg #[.int .i64 (W : Int), .int .i64 (H : Int), .slice X2 N2 c2]] rfl rfl rfl ?_ (fun wx hx hf => (box_any (W : Int) (H : Int) (.slice X2 N2 c2) wx).mono ?_) ?_
    · exact ⟨_, rfl⟩
    · exact fun e w' ⟨h1, h2⟩ => ⟨_, h1, h2, rfl, trivial⟩
    rintro v rfl
    simp only [Act.put, List.setIfInBounds_toArray, List.set_cons_zero, List.set_cons_succ]
    repeat (first | (refine Flow.skip rfl ?_; simp only [Act.put, List.setIfInBounds_toArray, List.set_cons_zero, List.set_cons_succ]) | (refine Flow.plain rfl rfl ?_; go_big_quiet_step (fail); refine wpQuiet_nil ?_))
    refine Flow.nil fun w5 hx5 hf => ?_
    clear hf k0 k1 k2 k3 k4 k5
    have E5 := Lib.hid (EQ.out.trans hx5)
    have HX5 := Lib.hid hx5
    have hz5 : q + 2 < w5.heap.size := by have := hx5.size; omega
    obtain ⟨⟨k0, k1, k2⟩, ⟨k3, k4, k5⟩, _⟩ := FC.out _ hx5
    clear hx5
    dsimp only [wpList, Exit.then]
    go_wp2
    go_loopw [6, 28] (fun t6 t28 wr => ∃ (i : Nat) (A : Option Addr) (n cc : Nat), i ≤ N2 ∧ t6 = .slice A n cc ∧ t28 = .int .i64 (i : Int) ∧ Hid (Ext w5 wr ∧ OwnQ w5.heap.size wr (.slice A n cc) (diffPre W l1 l2 i))) (fun _ t28 _ => N2 - (intOf t28).toNat)
    case atStart => exact ⟨0, none, 0, 0, by omega, rfl, rfl, Lib.hid ⟨Ext.refl _, OwnQ.nil _ _⟩⟩
    case round =>
      clear k0 k1 k2 k3 k4 k5
      obtain ⟨i, A, n, cc, hi, rfl, rfl, ST⟩ := hrel
      obtain ⟨⟨i0, i1, i2⟩, ⟨j0, j1, j2⟩, ⟨r0, r1, r2, r3, rf⟩⟩ := FC.out _ (HX5.out.trans ST.out.1)
      have hzr : q + 2 < wr.heap.size := Nat.lt_of_lt_of_le hz5 ST.out.1.size
      by_cases hlt : i < N2
      · have hlt' : (i : Int) < (N2 : Int) := by omega
        obtain ⟨b, off, r, g, u, a, rfl, hbs, hp, hpb, c0, c1, c2, c3⟩ := (P1.out.ext (E5.out.trans ST.out.1)).at hlt
        obtain ⟨b', off', r', g', u', a', rfl, hbs', hp', hpb', d0, d1, d2, d3⟩ := (P2.out.ext (E5.out.trans ST.out.1)).at hlt
        have HP := Lib.hid (And.intro hp hp')
        clear hp hp' hpb hpb' r0 r1 r2 r3 rf
        go_wp2
        obtain ⟨w6, hw6⟩ : ∃ w6, wr.alloc (.cells #[.int .u8 (r : Int), .int .u8 (g : Int), .int .u8 (u : Int), .int .u8 (a : Int)] 40) = w6 := ⟨_, rfl⟩
        have E6 : Ext wr w6 := hw6 ▸ (Ext.refl wr).alloc _
        have e0 : w6.cell? ⟨wr.heap.size, 0, none⟩ = some (.int .u8 (r : Int)) := by rw [← hw6]; simp [go_sem]
        have e1 : w6.cell? ⟨wr.heap.size, 1, none⟩ = some (.int .u8 (g : Int)) := by rw [← hw6]; simp [go_sem]
        have e2 : w6.cell? ⟨wr.heap.size, 2, none⟩ = some (.int .u8 (u : Int)) := by rw [← hw6]; simp [go_sem]
        have e3 : w6.cell? ⟨wr.heap.size, 3, none⟩ = some (.int .u8 (a : Int)) := by rw [← hw6]; simp [go_sem]
        have hz6 : wr.heap.size < w6.heap.size := by rw [← hw6]; simp
        rw [hw6]
        clear hw6
        obtain ⟨gb, hgb⟩ : ∃ gb, wr.heap.size = gb := ⟨_, rfl⟩
        rw [hgb] at e0 e1 e2 e3 hz6
        rw [hgb]
        clear hgb
        have hx : ∀ g, Ext w6 (w6.ext g) := fun g => ⟨g, rfl⟩
        have hy : ∀ g, Ext wr (w6.ext g) := fun g => E6.trans ⟨g, rfl⟩
        replace e0 := fun g => ((hx g).cell hz6).trans e0
        replace e1 := fun g => ((hx g).cell hz6).trans e1
        replace e2 := fun g => ((hx g).cell hz6).trans e2
        replace e3 := fun g => ((hx g).cell hz6).trans e3
        replace j2 := fun g => ((hy g).cell (by omega)).trans j2
        replace d0 := fun g => ((hy g).cell hbs').trans d0
        replace d1 := fun g => ((hy g).cell hbs').trans d1
        replace d2 := fun g => ((hy g).cell hbs').trans d2
        replace d3 := fun g => ((hy g).cell hbs').trans d3
        have HS := Lib.hid (diffPre_succ W l1 l2 i)
        rw [HP.out.1, HP.out.2] at HS
        have E6 := Lib.hid E6
        clear c0 c1 c2 c3 i1 i2 j0 j1 hx hy
        by_cases heq : (r, g, u, a) = (r', g', u', a')
        · have HD : Hid (diffPre W l1 l2 (i + 1) = diffPre W l1 l2 i) := Lib.hid (by rw [HS.out, if_pos heq]; simp)
          simp only [Prod.mk.injEq] at heq
          obtain ⟨rfl, rfl, rfl, rfl⟩ := heq
          refine region_flow 7 [] (fun t v => False) (fun t v w' => True) (by kernel_rfl) (by kernel_rfl) (fun t v h => h.elim) (fun t h => h) (fun _ _ _ _ h => h.elim) ?_
          dsimp only [List.take, List.drop]
          repeat (first | (refine Flow.skip rfl ?_; simp only [Act.put, List.setIfInBounds_toArray, List.set_cons_zero, List.set_cons_succ]) | (refine Flow.plain rfl rfl ?_; go_big_quiet_step (fail); refine wpQuiet_nil ?_))
          refine Flow.nil fun w7 hx7 hf => ?_
          have E7 := Lib.hid (E6.out.trans hx7)
          clear hf hx7 e0 e1 e2 e3 j2 d0 d1 d2 d3
          dsimp only [wpList, Exit.then]
          go_wp2
          go_roundw
          case rel => exact ⟨i + 1, A, n, cc, by omega, rfl, by go_num, Lib.hid ⟨ST.out.1.trans E7.out, by rw [HD.out]; exact ST.out.2.ext E7.out⟩⟩
          case measure => simp [intOf]; omega
        · have hcmp : ((r : Int) == (r' : Int) && ((g : Int) == (g' : Int) && ((u : Int) == (u' : Int) && (a : Int) == (a' : Int)))) = false := by
            simp only [Prod.mk.injEq] at heq
            simp
            omega
          have hneq : ∀ wx, (binOp .neq 40 (.agg #[.int .u8 (r : Int), .int .u8 (g : Int), .int .u8 (u : Int), .int .u8 (a : Int)]) (.agg #[.int .u8 (r' : Int), .int .u8 (g' : Int), .int .u8 (u' : Int), .int .u8 (a' : Int)])).run Try.prog wx = .ok (.bool true) wx := fun wx => by
            simp [go_sem, hcmp]
          have HD : Hid (diffPre W l1 l2 (i + 1) = diffPre W l1 l2 i ++ [(i % W, i / W)]) := Lib.hid (by rw [HS.out, if_neg heq])
          clear heq hcmp
          refine region_flow 7 [] (fun t v => False) (fun t v w' => True) (by kernel_rfl) (by kernel_rfl) (fun t v h => h.elim) (fun t h => h) (fun _ _ _ _ h => h.elim) ?_
          dsimp only [List.take, List.drop]
          repeat (first | (refine Flow.skip rfl ?_; simp only [Act.put, List.setIfInBounds_toArray, List.set_cons_zero, List.set_cons_succ]) | (refine Flow.plain rfl rfl ?_; go_big_quiet_step (fail); refine wpQuiet_nil ?_))
          refine Flow.nil fun w7 hx7 hf => ?_
          have E7 := Lib.hid (E6.out.trans hx7)
          clear hf hx7 e0 e1 e2 e3 j2 d0 d1 d2 d3 hneq
          obtain ⟨x, hx⟩ : ∃ x, i % W = x := ⟨_, rfl⟩
          obtain ⟨y, hy⟩ : ∃ y, i / W = y := ⟨_, rfl⟩
          have hx' : (i : Int).tmod (W : Int) = (x : Int) := by rw [← hx]; exact (Int.ofNat_tmod i W).symm
          have hy' : (i : Int).tdiv (W : Int) = (y : Int) := by rw [← hy]; exact (Int.ofNat_tdiv i W).symm
          have hxb : x ≤ 65536 := by rw [← hx]; have := Nat.mod_le i W; omega
          have hyb : y ≤ 65536 := by rw [← hy]; have := Nat.div_le_self i W; omega
          rw [hx, hy] at HD
          clear hx hy
          replace i0 := fun g => (((E7.out.trans ⟨g, rfl⟩).cell (w' := w7.ext g) (by omega))).trans i0
          dsimp only [wpList, Exit.then]
          go_wp2
          refine region_flow 11 [50] (fun t v => match t with | 50 => ∃ g, v = .slice (some ⟨g, 0, none⟩) 1 1 | _ => False) (fun t v w' => match t with | 50 => ∃ g, v = .slice (some ⟨g, 0, none⟩) 1 1 ∧ g < w'.heap.size ∧ w'.cell? ⟨g, 0, none⟩ = some (.int .i64 (x : Int)) ∧ w'.cell? ⟨g, 1, none⟩ = some (.int .i64 (y : Int)) | _ => True) (by kernel_rfl) (by kernel_rfl) ?hq2 ?hu2 ?hR2 ?h2
          case hq2 => intro t v h; split at h <;> simp_all
          case hu2 => intro t h; split at h <;> simp_all [undef]
          case hR2 => intro t v w w' h1 h2 h3; split at h1 <;> first | exact (by obtain ⟨g, e, hg, ha, hb⟩ := h2; exact ⟨g, e, Nat.lt_of_lt_of_le hg h3.size, (h3.cell hg).trans ha, (h3.cell hg).trans hb⟩) | trivial
          case h2 =>
            dsimp only [List.take, List.drop]
            repeat (first | (refine Flow.skip rfl ?_; simp only [Act.put, List.setIfInBounds_toArray, List.set_cons_zero, List.set_cons_succ]) | (refine Flow.plain rfl rfl ?_; go_big_quiet_step (fail); refine wpQuiet_nil ?_))
            refine Flow.make 50 rfl rfl rfl ⟨.slice (some ⟨0, 0, none⟩) 1 1, 0, rfl⟩ (fun wx hx hf => ⟨.slice (some ⟨wx.heap.size, 0, none⟩) 1 1, wx.alloc (.cells #[.int .i64 (x : Int), .int .i64 (y : Int)] 28), by kernel_rfl, (Ext.refl wx).alloc _, ⟨_, rfl⟩, ⟨_, rfl, by simp, by simp [go_sem], by simp [go_sem]⟩⟩) ?_
            rintro _ ⟨g5, rfl⟩
            simp only [Act.put, List.setIfInBounds_toArray, List.set_cons_zero, List.set_cons_succ]
            refine Flow.nil fun w8 hx8 hf => ?_
            obtain ⟨g6, e6, hg6, ha6, hb6⟩ := hf 50 (by simp) ⟨g5, rfl⟩
            have e7 : (Value.slice (some ⟨g5, 0, none⟩) 1 1) = .slice (some ⟨g6, 0, none⟩) 1 1 := e6
            simp only [Value.slice.injEq, Option.some.injEq, Addr.mk.injEq, and_true] at e7
            subst e7
            have E8 := Lib.hid (E7.out.trans hx8)
            have O8 := Lib.hid (ST.out.2.ext E8.out)
            have Z8 : Hid ((diffPre W l1 l2 i).length ≤ 1000000) := Lib.hid (by have := diffPre_len W l1 l2 i; omega)
            have B8 : Hid (w5.heap.size ≤ w8.heap.size) := Lib.hid (ST.out.1.trans E8.out).size
            have HA := Lib.hid (And.intro ha6 hb6)
            clear hf e6 ha6 hb6 hx8 i0 hx' hy'
            refine wpList_pt (q := (x, y)) rfl (.tmp 40) (.tmp 50) rfl rfl rfl O8.out HA.out.1 HA.out.2 Z8.out B8.out ?_
            intro v9 w9 hO9 hgr9
            have E9 := Lib.hid ((ST.out.1.trans E8.out).grown hgr9 (fun k hk => ST.out.2.row k hk))
            rw [← HD.out] at hO9
            obtain ⟨A9, c9, rfl⟩ := own_slice hO9
            have O9 := Lib.hid hO9
            obtain ⟨L9, hL9⟩ : ∃ L, (diffPre W l1 l2 (i + 1)).length = L := ⟨_, rfl⟩
            rw [hL9] at O9
            rw [hL9]
            clear hO9 hgr9 hL9
            go_wp2
            go_roundw
            case rel => exact ⟨i + 1, A9, L9, c9, by omega, rfl, by go_num, Lib.hid ⟨E9.out, O9.out⟩⟩
            case measure => simp [intOf]; omega
      · have hlt' : ¬ (i : Int) < (N2 : Int) := by omega
        obtain rfl : i = N2 := by omega
        have BD := Lib.hid (fun wx hx => bound_any (.slice A n cc) _ wx (ST.out.2.pts.ext hx) (diffPre_bd W l1 l2 i hN0))
        obtain ⟨⟨a2, b2, a3, b3⟩, hj⟩ : ∃ j, boundF (diffPre W l1 l2 i) = j := ⟨_, rfl⟩
        rw [hj] at BD
        have HJ := Lib.hid hj
        simp only [boxV] at BD
        clear hj
        have E := Lib.hid (E5.out.trans ST.out.1)
        go_wp2_with fail
        refine (BD.out _ (Ext.refl _)).mono ?_
        rintro e w9 ⟨rfl, hE9⟩
        have E9 := Lib.hid (E.out.trans hE9)
        replace r0 := (hE9.cell (by omega)).trans r0
        replace r1 := (hE9.cell (by omega)).trans r1
        replace r2 := (hE9.cell (by omega)).trans r2
        replace r3 := (hE9.cell (by omega)).trans r3
        replace rf := fun j => (hE9.frozen (i := j) (by omega)).trans (rf j)
        clear hE9
        go_wp2
        refine bodyPost_ret (v := .tuple #[.agg #[.int .i64 a2, .int .i64 b2, .int .i64 a3, .int .i64 b3], .int .i64 0]) (by simp [results, Try.results23, go_sem, r0, r1, r2, r3, rf]) rfl ⟨by rw [HJ.out]; rfl, ?_⟩
        have := HQ.out
        exact ((((E9.out.setCell (by simp; omega) _).setCell (by simp; omega) _).setCell (by simp; omega) _).setCell (by simp; omega) _)

end Go.Proofs.Ytncphiphgkjflaa
