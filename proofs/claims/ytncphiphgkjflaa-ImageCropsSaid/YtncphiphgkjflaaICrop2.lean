import Derived.Test.YtncphiphgkjflaaICrop1
namespace Go.Proofs.Ytncphiphgkjflaa
open Go.RowKit Go.Shelf
set_option linter.unusedVariables false
set_option linter.unusedSimpArgs false

set_option maxRecDepth 100000 in
set_option maxHeartbeats 6400000 in
theorem crop_yes (W H : Nat) (v : Value) (l : List Px) (x0 y0 x1 y1 d : Nat) (w : World) (hl : Pix .u8 w v l) (h1 : rightI (W : Int) (H : Int) l = true) (hn : l.length ≤ 400) (hx0 : x0 + d = x1) (hd0 : 1 ≤ d) (hx1 : x1 ≤ W) (hy0 : y0 < y1) (hy1 : y1 ≤ H) :
    Calls Try.prog 13 #[.agg #[.int .i64 (W : Int), .int .i64 (H : Int), v], .agg #[.int .i64 (x0 : Int), .int .i64 (y0 : Int), .int .i64 (x1 : Int), .int .i64 (y1 : Int)]] w fun e w' => ∃ v', e = .returned (.tuple #[.agg #[.int .i64 ((x1 : Int) - (x0 : Int)), .int .i64 ((y1 : Int) - (y0 : Int)), v'], .int .i64 0]) ∧ OwnP .u8 40 w.heap.size w' v' (cropPre W l x0 d y0 (y1 - y0)) ∧ Ext w w' := by
  have hside : sideB (W : Int) = true ∧ sideB (H : Int) = true ∧ l.length = W * H := by
    have a := h1
    unfold rightI at a
    simp only [Bool.and_eq_true, decide_eq_true_eq] at a
    exact ⟨a.1.1.1, a.1.1.2, by have := a.1.2; exact_mod_cast this⟩
  have hWb : 1 ≤ W ∧ W ≤ 256 := by have := hside.1; simp [sideB] at this; omega
  have hHb : 1 ≤ H ∧ H ≤ 256 := by have := hside.2.1; simp [sideB] at this; omega
  have HL := Lib.hid hside.2.2
  clear hside
  have P := Lib.hid hl
  obtain ⟨X, c, rfl, hc1, hc2, _⟩ := hl
  obtain ⟨N, hN⟩ : ∃ N, l.length = N := ⟨_, rfl⟩
  rw [hN] at P hc1
  rw [hN]
  have HN := Lib.hid hN
  clear hN
  have CK := Lib.hid (fun wx (hx : Ext w wx) => check_any (W : Int) (H : Int) (.slice X N c) l wx (by omega) (by omega) (P.out.ext hx))
  have EM := Lib.hid (fun wx => emptyBox_any (x0 : Int) (y0 : Int) (x1 : Int) (y1 : Int) wx)
  have MB := Lib.hid (fun wx => meet_any (x0 : Int) (y0 : Int) (x1 : Int) (y1 : Int) 0 0 (W : Int) (H : Int) wx)
  rw [h1, show errB true = 0 from rfl] at CK
  rw [show (decide ((x1 : Int) ≤ (x0 : Int)) || decide ((y1 : Int) ≤ (y0 : Int))) = false by simp; omega] at EM
  have hm : meetB ((x0 : Int), (y0 : Int), (x1 : Int), (y1 : Int)) (0, 0, (W : Int), (H : Int)) = ((x0 : Int), (y0 : Int), (x1 : Int), (y1 : Int)) := by
    unfold meetB
    simp only
    rw [if_neg (by omega)]
    simp only [Prod.mk.injEq]
    omega
  rw [hm] at MB
  simp only [boxV] at MB
  obtain ⟨e, hye⟩ : ∃ e, y0 + e = y1 := ⟨y1 - y0, by omega⟩
  have hd' : (x1 : Int) - (x0 : Int) = (d : Int) := by omega
  have he' : (y1 : Int) - (y0 : Int) = (e : Int) := by omega
  obtain ⟨M, hM⟩ : ∃ M, cropPre W l x0 d y0 (y1 - y0) = M := ⟨_, rfl⟩
  rw [hM]
  have HM := Lib.hid hM
  clear hm h1 hM
  go_enter Try.func13, Try.ntmps13
  go_wp2
  obtain ⟨wq, hwq⟩ : ∃ wq, ((w.alloc (.cells #[.int .i64 (W : Int), .int .i64 (H : Int), .slice X N c] 24)).alloc (.cells #[.int .i64 (x0 : Int), .int .i64 (y0 : Int), .int .i64 (x1 : Int), .int .i64 (y1 : Int)] 26)).alloc (.cells #[.int .i64 0, .int .i64 0, .slice none 0 0] 24) = wq := ⟨_, rfl⟩
  obtain ⟨q, hq⟩ : ∃ q, w.heap.size = q := ⟨_, rfl⟩
  have EQ : Hid (Ext w wq) := Lib.hid (by rw [← hwq]; (repeat (first | exact Ext.refl _ | apply Ext.alloc | apply Ext.ext)))
  have i0 : wq.cell? ⟨q, 0, none⟩ = some (.int .i64 (W : Int)) := by rw [← hwq, ← hq]; simp [go_sem]
  have i1 : wq.cell? ⟨q, 1, none⟩ = some (.int .i64 (H : Int)) := by rw [← hwq, ← hq]; simp [go_sem]
  have i2 : wq.cell? ⟨q, 2, none⟩ = some (.slice X N c) := by rw [← hwq, ← hq]; simp [go_sem]
  have j0 : wq.cell? ⟨q + 1, 0, none⟩ = some (.int .i64 (x0 : Int)) := by rw [← hwq, ← hq]; simp [go_sem]
  have j1 : wq.cell? ⟨q + 1, 1, none⟩ = some (.int .i64 (y0 : Int)) := by rw [← hwq, ← hq]; simp [go_sem]
  have j2 : wq.cell? ⟨q + 1, 2, none⟩ = some (.int .i64 (x1 : Int)) := by rw [← hwq, ← hq]; simp [go_sem]
  have j3 : wq.cell? ⟨q + 1, 3, none⟩ = some (.int .i64 (y1 : Int)) := by rw [← hwq, ← hq]; simp [go_sem]
  have r0 : wq.cell? ⟨q + 2, 0, none⟩ = some (.int .i64 0) := by rw [← hwq, ← hq]; simp [go_sem]
  have r1 : wq.cell? ⟨q + 2, 1, none⟩ = some (.int .i64 0) := by rw [← hwq, ← hq]; simp [go_sem]
  have r2 : wq.cell? ⟨q + 2, 2, none⟩ = some (.slice none 0 0) := by rw [← hwq, ← hq]; simp [go_sem]
  have rf : ∀ j, wq.frozen? ⟨q + 2, j, none⟩ = false := fun j => by rw [← hwq, ← hq]; simp [go_sem]
  have hz : wq.heap.size = q + 3 := by rw [← hwq, ← hq]; simp
  rw [hwq, hq]
  have HQ := Lib.hid hq
  clear hwq hq
  have FC : Hid (∀ wr, Ext wq wr → (wr.cell? ⟨q, 0, none⟩ = some (.int .i64 (W : Int)) ∧ wr.cell? ⟨q, 1, none⟩ = some (.int .i64 (H : Int)) ∧ wr.cell? ⟨q, 2, none⟩ = some (.slice X N c)) ∧ (wr.cell? ⟨q + 1, 0, none⟩ = some (.int .i64 (x0 : Int)) ∧ wr.cell? ⟨q + 1, 1, none⟩ = some (.int .i64 (y0 : Int)) ∧ wr.cell? ⟨q + 1, 2, none⟩ = some (.int .i64 (x1 : Int)) ∧ wr.cell? ⟨q + 1, 3, none⟩ = some (.int .i64 (y1 : Int))) ∧ (wr.cell? ⟨q + 2, 0, none⟩ = some (.int .i64 0) ∧ wr.cell? ⟨q + 2, 1, none⟩ = some (.int .i64 0) ∧ wr.cell? ⟨q + 2, 2, none⟩ = some (.slice none 0 0) ∧ ∀ j, wr.frozen? ⟨q + 2, j, none⟩ = false)) := Lib.hid (fun wr hk =>
    ⟨⟨(hk.cell (by omega)).trans i0, (hk.cell (by omega)).trans i1, (hk.cell (by omega)).trans i2⟩, ⟨(hk.cell (by omega)).trans j0, (hk.cell (by omega)).trans j1, (hk.cell (by omega)).trans j2, (hk.cell (by omega)).trans j3⟩, ⟨(hk.cell (by omega)).trans r0, (hk.cell (by omega)).trans r1, (hk.cell (by omega)).trans r2, fun j => (hk.frozen (by omega)).trans (rf j)⟩⟩)
  clear i0 i1 i2 j0 j1 j2 j3 r0 r1 r2 rf
  have k0 : ∀ g, (wq.ext g).cell? ⟨q, 0, none⟩ = some (.int .i64 (W : Int)) := fun g => (FC.out _ ⟨g, rfl⟩).1.1
  have k1 : ∀ g, (wq.ext g).cell? ⟨q, 1, none⟩ = some (.int .i64 (H : Int)) := fun g => (FC.out _ ⟨g, rfl⟩).1.2.1
  have k2 : ∀ g, (wq.ext g).cell? ⟨q, 2, none⟩ = some (.slice X N c) := fun g => (FC.out _ ⟨g, rfl⟩).1.2.2
  have k3 : ∀ g, (wq.ext g).cell? ⟨q + 1, 0, none⟩ = some (.int .i64 (x0 : Int)) := fun g => (FC.out _ ⟨g, rfl⟩).2.1.1
  have k4 : ∀ g, (wq.ext g).cell? ⟨q + 1, 1, none⟩ = some (.int .i64 (y0 : Int)) := fun g => (FC.out _ ⟨g, rfl⟩).2.1.2.1
  have k5 : ∀ g, (wq.ext g).cell? ⟨q + 1, 2, none⟩ = some (.int .i64 (x1 : Int)) := fun g => (FC.out _ ⟨g, rfl⟩).2.1.2.2.1
  have k6 : ∀ g, (wq.ext g).cell? ⟨q + 1, 3, none⟩ = some (.int .i64 (y1 : Int)) := fun g => (FC.out _ ⟨g, rfl⟩).2.1.2.2.2
  refine region_flow 15 [9, 13, 18, 19] (fun t v => match t with | 9 => v = .int .i64 0 | 13 => v = .bool false | 18 => v = .agg #[.int .i64 0, .int .i64 0, .int .i64 (W : Int), .int .i64 (H : Int)] | 19 => v = .agg #[.int .i64 (x0 : Int), .int .i64 (y0 : Int), .int .i64 (x1 : Int), .int .i64 (y1 : Int)] | _ => False) (fun t v w' => True) (by kernel_rfl) (by kernel_rfl) ?hq ?hu ?hR ?h
  case hq => intro t v h; split at h <;> simp_all
  case hu => intro t h; split at h <;> simp_all [undef]
  case hR => intros; trivial
  case h =>
    dsimp only [List.take, List.drop]
    repeat (first | (refine Flow.skip rfl ?_; simp only [Act.put, List.setIfInBounds_toArray, List.set_cons_zero, List.set_cons_succ]) | (refine Flow.plain rfl rfl ?_; go_big_quiet_step (fail); refine wpQuiet_nil ?_))
    refine Flow.call Try.call17 [.agg #[.int .i64 (W : Int), .int .i64 (H : Int), .slice X N c]] rfl rfl rfl ?_ (fun wx hx hf => (CK.out wx (EQ.out.trans hx)).mono ?_) ?_
    · exact ⟨_, rfl⟩
    · exact fun e w' ⟨h1, h2⟩ => ⟨_, h1, h2, rfl, trivial⟩
    rintro v rfl
    simp only [Act.put, List.setIfInBounds_toArray, List.set_cons_zero, List.set_cons_succ]
    repeat (first | (refine Flow.skip rfl ?_; simp only [Act.put, List.setIfInBounds_toArray, List.set_cons_zero, List.set_cons_succ]) | (refine Flow.plain rfl rfl ?_; go_big_quiet_step (fail); refine wpQuiet_nil ?_))
    refine Flow.call Try.call34 [.agg #[.int .i64 (x0 : Int), .int .i64 (y0 : Int), .int .i64 (x1 : Int), .int .i64 (y1 : Int)]] rfl rfl rfl ?_ (fun wx hx hf => (EM.out wx).mono ?_) ?_
    · exact ⟨_, rfl⟩
    · exact fun e w' ⟨h1, h2⟩ => ⟨_, h1, h2, rfl, trivial⟩
    rintro v rfl
    simp only [Act.put, List.setIfInBounds_toArray, List.set_cons_zero, List.set_cons_succ]
    repeat (first | (refine Flow.skip rfl ?_; simp only [Act.put, List.setIfInBounds_toArray, List.set_cons_zero, List.set_cons_succ]) | (refine Flow.plain rfl rfl ?_; go_big_quiet_step (fail); refine wpQuiet_nil ?_))
    refine Flow.call Try.call15 [.agg #[.int .i64 (W : Int), .int .i64 (H : Int), .slice X N c]] rfl rfl rfl ?_ (fun wx hx hf => (box_any (W : Int) (H : Int) (.slice X N c) wx).mono ?_) ?_
    · exact ⟨_, rfl⟩
    · exact fun e w' ⟨h1, h2⟩ => ⟨_, h1, h2, rfl, trivial⟩
    rintro v rfl
    simp only [Act.put, List.setIfInBounds_toArray, List.set_cons_zero, List.set_cons_succ]
    repeat (first | (refine Flow.skip rfl ?_; simp only [Act.put, List.setIfInBounds_toArray, List.set_cons_zero, List.set_cons_succ]) | (refine Flow.plain rfl rfl ?_; go_big_quiet_step (fail); refine wpQuiet_nil ?_))
    refine Flow.call Try.call35 [.agg #[.int .i64 (x0 : Int), .int .i64 (y0 : Int), .int .i64 (x1 : Int), .int .i64 (y1 : Int)], .agg #[.int .i64 0, .int .i64 0, .int .i64 (W : Int), .int .i64 (H : Int)]] rfl rfl rfl ?_ (fun wx hx hf => (MB.out wx).mono ?_) ?_
    · exact ⟨_, rfl⟩
    · exact fun e w' ⟨h1, h2⟩ => ⟨_, h1, h2, rfl, trivial⟩
    rintro v rfl
    simp only [Act.put, List.setIfInBounds_toArray, List.set_cons_zero, List.set_cons_succ]
    repeat (first | (refine Flow.skip rfl ?_; simp only [Act.put, List.setIfInBounds_toArray, List.set_cons_zero, List.set_cons_succ]) | (refine Flow.plain rfl rfl ?_; go_big_quiet_step (fail); refine wpQuiet_nil ?_))
    refine Flow.nil fun w5 hx5 hf => ?_
    clear hf k0 k1 k2 k3 k4 k5 k6
    obtain ⟨⟨i0, i1, i2⟩, ⟨j0, j1, j2, j3⟩, _⟩ := FC.out _ hx5
    have E5 := Lib.hid (EQ.out.trans hx5)
    have HX5 := Lib.hid hx5
    have hz5 : q + 3 ≤ w5.heap.size := by have := hx5.size; omega
    have hz6 : q + 1 < w5.heap.size := by omega
    have hz7 : q < w5.heap.size := by omega
    clear hx5
    dsimp only [wpList, Exit.then]
    go_wp2
    clear i0 i1 i2 j0 j1 j2 j3 hz6 hz7
    go_loopw [7] (fun t7 wr => ∃ (y k : Nat) (A : Option Addr) (n cc : Nat), y = y0 + k ∧ y ≤ y1 ∧ t7 = .int .i64 (y : Int) ∧ Hid (CropSt w5 wr w5.heap.size (d : Int) (e : Int) (.slice A n cc) (cropPre W l x0 d y0 k))) (fun t7 _ => y1 - (intOf t7).toNat)
    case atStart =>
      refine ⟨y0, 0, none, 0, 0, by omega, by omega, rfl, Lib.hid ⟨(Ext.refl _).alloc _, by simp, OwnP.nil _ _ _ _, ?_, ?_, ?_, ?_⟩⟩
      all_goals simp [go_sem]
    case round =>
      obtain ⟨y, k, A, n, cc, hyk, hy1', rfl, ST⟩ := hrel
      obtain ⟨⟨i0, i1, i2⟩, ⟨j0, j1, j2, j3⟩, ⟨r0, r1, r2, rf⟩⟩ := FC.out _ (HX5.out.trans ST.out.1)
      have hzr : w5.heap.size < wr.heap.size := ST.out.2.1
      have s4 := ST.out.2.2.2.1
      have s5 := ST.out.2.2.2.2.1
      have s6 := ST.out.2.2.2.2.2.1
      have s7 := ST.out.2.2.2.2.2.2
      by_cases hlt : y < y1
      · have hlt' : (y : Int) < (y1 : Int) := by omega
        have hend : y * W + x1 ≤ N := by
          have := row_end (W := W) (H := H) (x0 := x0) (d := d) (y := y) (by omega) (by omega)
          rw [← HL.out, HN.out] at this
          omega
        have hNp : 0 < N := by omega
        obtain ⟨b, off, r, g, u, a, rfl, hbs, _⟩ := (P.out.ext (E5.out.trans ST.out.1)).at hNp
        have PS := Lib.hid (P.out.sub (y * W + x0) d (by omega))
        have RW := Lib.hid (fun wx => row_any W y x0 x1 b off N c (H : Int) wx (by omega) hend hc1 hc2 (by omega) (by omega))
        rw [show x1 - x0 = d by omega] at RW
        obtain ⟨qf, hqf⟩ : ∃ qf, off + (y * W + x0) * 4 = qf := ⟨_, rfl⟩
        rw [hqf] at PS RW
        have HQF := Lib.hid (And.intro hqf hend)
        have hg5 : Hid (w5.heap.size < wr.heap.size) := Lib.hid hzr
        have hy : ∀ g, Ext wr (wr.ext g) := fun g => ⟨g, rfl⟩
        replace i0 := fun g => ((hy g).cell (by omega)).trans i0
        replace i1 := fun g => ((hy g).cell (by omega)).trans i1
        replace i2 := fun g => ((hy g).cell (by omega)).trans i2
        have j0' := j0
        have j2' := j2
        replace j0' := fun g => ((hy g).cell (by omega)).trans j0
        replace j2' := fun g => ((hy g).cell (by omega)).trans j2
        have s6' := fun g => ((hy g).cell hzr).trans s6
        obtain ⟨G, hG⟩ : ∃ G, w5.heap.size = G := ⟨_, rfl⟩
        rw [hG] at ST s6' hg5
        rw [hG]
        have HG := Lib.hid hG
        clear hqf hend r0 r1 r2 rf s4 s5 s6 s7 hy hG hzr j0 j1 j2
        go_wp2
        refine region_flow 9 [51] (fun t v => match t with | 51 => v = .slice (some ⟨b, qf, none⟩) d d | _ => False) (fun t v w' => True) (by kernel_rfl) (by kernel_rfl) ?hq2 ?hu2 ?hR2 ?h2
        case hq2 => intro t v h; split at h <;> simp_all
        case hu2 => intro t h; split at h <;> simp_all [undef]
        case hR2 => intros; trivial
        case h2 =>
          dsimp only [List.take, List.drop]
          repeat (first | (refine Flow.skip rfl ?_; simp only [Act.put, List.setIfInBounds_toArray, List.set_cons_zero, List.set_cons_succ]) | (refine Flow.plain rfl rfl ?_; go_big_quiet_step (fail); refine wpQuiet_nil ?_))
          refine Flow.call Try.call36 [.agg #[.int .i64 (W : Int), .int .i64 (H : Int), .slice (some ⟨b, off, none⟩) N c], .int .i64 (y : Int), .int .i64 (x0 : Int), .int .i64 (x1 : Int)] rfl rfl rfl ?_ (fun wx hx hf => (RW.out wx).mono ?_) ?_
          · exact ⟨_, rfl⟩
          · exact fun e w' ⟨h1, h2⟩ => ⟨_, h1, h2, rfl, trivial⟩
          rintro v rfl
          simp only [Act.put, List.setIfInBounds_toArray, List.set_cons_zero, List.set_cons_succ]
          refine Flow.nil fun w8 hx8 hf => ?_
          have S8 := Lib.hid (ST.out.ext hx8)
          have Y8 := Lib.hid (PS.out.ext ((E5.out.trans ST.out.1).trans hx8))
          have Z8 : Hid ((cropPre W l x0 d y0 k).length + ((l.drop (y * W + x0)).take d).length ≤ 1000000) := Lib.hid (by
            have h1 := cropPre_len (W := W) (H := H) (y0 := y0) HL.out (show x0 + d ≤ W by omega) k (by omega)
            have h2 : k * d ≤ 256 * 256 := Nat.mul_le_mul (by omega) (by omega)
            have h3 : ((l.drop (y * W + x0)).take d).length ≤ d := by rw [List.length_take]; omega
            omega)
          have B8 : Hid (G + 1 ≤ w8.heap.size) := Lib.hid S8.out.2.1
          have O8 := Lib.hid S8.out.2.2.1
          have HX8 := Lib.hid hx8
          have hs6 := (S8.out.2.2.2.2.2.1)
          clear hf hx8 i0 i1 i2 j0' j2' s6'
          refine wpList_pxs pxC rfl (.tmp 44) (.tmp 51) rfl rfl rfl O8.out Y8.out Z8.out B8.out ?_
          intro v9 w9 hO9 hgr9 _
          rw [hyk, ← cropPre_succ] at hO9
          obtain ⟨A9, c9, rfl⟩ := own_slice hO9.1
          obtain ⟨L9, hL9⟩ : ∃ L, (cropPre W l x0 d y0 (k + 1)).length = L := ⟨_, rfl⟩
          rw [hL9] at hO9
          rw [hL9]
          clear hL9
          obtain ⟨g2, f2, ST9⟩ := S8.out.push (by have := HG.out; omega) hO9 hgr9
          have ST9 := Lib.hid ST9
          clear hO9 hgr9 hs6
          go_wp2
          go_roundw
          case rel => exact ⟨y + 1, k + 1, A9, L9, c9, by omega, by omega, by go_num, ST9⟩
          case measure => simp [intOf]; omega
      · have hlt' : ¬ (y : Int) < (y1 : Int) := by omega
        have hk : y1 - y0 = k := by omega
        have hM9 : cropPre W l x0 d y0 k = M := by rw [← HM.out, hk]
        rw [hM9] at ST
        have ML : Hid (M.length = n) := Lib.hid ST.out.2.2.1.pix.len.symm
        have E9 := Lib.hid (E5.out.trans ST.out.1)
        have O9 := Lib.hid ST.out.2.2.1
        have HQ5 := Lib.hid hz5
        clear hM9 hk
        go_wp2
        refine bodyPost_ret (v := .tuple #[.agg #[.int .i64 (d : Int), .int .i64 (e : Int), .slice A n cc], .int .i64 0]) (by simp [results, Try.results13, go_sem, r0, r1, r2, rf]) rfl ⟨_, rfl, ?_, ?_⟩
        · have := HQ.out
          exact (((O9.out.set (by omega)).set (by omega)).set (by omega)).mono (by omega)
        · have := HQ.out
          exact (((E9.out.setCell (by simp; omega) _).setCell (by simp; omega) _).setCell (by simp; omega) _)

end Go.Proofs.Ytncphiphgkjflaa
