import Derived.Test.YtncphiphgkjflaaIFill2
namespace Go.Proofs.Ytncphiphgkjflaa
open Go.RowKit Go.Shelf
set_option linter.unusedVariables false
set_option linter.unusedSimpArgs false

set_option maxRecDepth 100000 in
set_option maxHeartbeats 1600000 in
theorem fill_no (W H : Int) (v : Value) (l : List Px) (a0 b0 a1 b1 : Int) (r g u a : Nat) (w : World) (hW : -9223372036854775808 ≤ W ∧ W ≤ 9223372036854775807) (hH : -9223372036854775808 ≤ H ∧ H ≤ 9223372036854775807) (hl : Pix .u8 w v l) (hpb : r ≤ 255 ∧ g ≤ 255 ∧ u ≤ 255 ∧ a ≤ 255) (hr : rightI W H l = false ∨ rightP (r, g, u, a) = false) :
    Calls Try.prog 18 #[.agg #[.int .i64 W, .int .i64 H, v], .agg #[.int .i64 a0, .int .i64 b0, .int .i64 a1, .int .i64 b1], .agg #[.int .u8 (r : Int), .int .u8 (g : Int), .int .u8 (u : Int), .int .u8 (a : Int)]] w fun e w' =>
      e = .returned (.tuple #[.agg #[.int .i64 0, .int .i64 0, .slice none 0 0], .int .i64 30]) ∧ Ext w w' := by
  have CK := Lib.hid (fun wx (hx : Ext w wx) => check_any W H v l wx hW hH (hl.ext hx))
  have CR := Lib.hid (fun wx => colorRight_any r g u a wx hpb)
  obtain ⟨X, c, rfl, hc1, hc2, _⟩ := hl
  cases hi : rightI W H l with
  | false =>
    rw [hi] at CK
    clear hi hr
    go_enter Try.func18, Try.ntmps18
    go_wp2_with fail
    refine (CK.out _ (by ((repeat (first | exact Ext.refl _ | apply Ext.alloc | apply Ext.ext))))).mono ?_
    rintro e w1 ⟨rfl, g1, rfl⟩
    rw [show errB false = 30 from rfl]
    go_wp2
    refine bodyPost_ret (v := .tuple #[.agg #[.int .i64 0, .int .i64 0, .slice none 0 0], .int .i64 30]) (by simp [results, Try.results18, go_sem]) rfl ⟨rfl, ?_⟩
    (repeat (first | exact Ext.refl _ | apply Ext.alloc | apply Ext.ext | (refine Ext.setCell ?_ (by simp) _)))
  | true =>
    rw [hi] at CK
    have hp : rightP (r, g, u, a) = false := by rcases hr with h | h; (· rw [hi] at h; cases h); exact h
    rw [hp] at CR
    clear hi hr hp
    go_enter Try.func18, Try.ntmps18
    go_wp2_with fail
    refine (CK.out _ (by ((repeat (first | exact Ext.refl _ | apply Ext.alloc | apply Ext.ext))))).mono ?_
    rintro e w1 ⟨rfl, g1, rfl⟩
    rw [show errB true = 0 from rfl]
    go_wp2_with fail
    refine (CR.out _).mono ?_
    rintro e w1 ⟨rfl, g2, rfl⟩
    go_wp2
    refine bodyPost_ret (v := .tuple #[.agg #[.int .i64 0, .int .i64 0, .slice none 0 0], .int .i64 30]) (by simp [results, Try.results18, go_sem]) rfl ⟨rfl, ?_⟩
    (repeat (first | exact Ext.refl _ | apply Ext.alloc | apply Ext.ext | (refine Ext.setCell ?_ (by simp) _)))

theorem RefSt.ext {w wr w5 : World} {g : Nat} {W H : Int} {v : Value} {l : List Px} (h : RefSt w wr g W H v l) (he : Ext wr w5) : RefSt w w5 g W H v l := by
  obtain ⟨s1, s2, s3, s4, s5, s6, s7⟩ := h
  exact ⟨s1.trans he, Nat.lt_of_lt_of_le s2 he.size, s3.ext he, (he.cell s2).trans s4, (he.cell s2).trans s5, (he.cell s2).trans s6, (he.frozen s2).trans s7⟩

/-- one pixel put behind -/
theorem RefSt.push {w wr w6 : World} {g n c : Nat} {A : Option Addr} {W H : Int} {v' : Value} {l l' : List Px} (h : RefSt w wr g W H (.slice A n c) l) (hg : w.heap.size ≤ g) (hO : OwnP .i64 50 (g + 1) w6 v' l') (hgr : wr.grownBy w6 (Value.ownBlock (.slice A n c))) :
    w6.cell? ⟨g, 2, none⟩ = some (.slice A n c) ∧ w6.frozen? ⟨g, 2, none⟩ = false ∧ RefSt w (w6.setCell ⟨g, 2, none⟩ v') g W H v' l' := by
  obtain ⟨s1, s2, s3, s4, s5, s6, s7⟩ := h
  have hrow : ∀ k, Value.ownBlock (.slice A n c) = some k → g + 1 ≤ k := s3.row
  have hne : Value.ownBlock (.slice A n c) ≠ some g := fun e => by have := hrow _ e; omega
  have E6 := s1.grown hgr (fun k hk => by have := hrow k hk; omega)
  have d2 : ∀ j, w6.cell? ⟨g, j, none⟩ = wr.cell? ⟨g, j, none⟩ := fun j => cell_grown hgr s2 hne
  have f2 : w6.frozen? ⟨g, 2, none⟩ = false := (frozen_grown hgr s2 hne).trans s7
  have g2 := (d2 2).trans s6
  refine ⟨g2, f2, E6.setCell (by simpa using hg) _, by simp [World.setCell]; have := hgr.size; omega, hO.set (by simp), ?_, ?_, ?_, ?_⟩
  · have := d2 0; simp [go_sem, this, s4]
  · have := d2 1; simp [go_sem, this, s5]
  · simp [go_sem, g2]
  · simp [go_sem, f2]

set_option maxRecDepth 100000 in
set_option maxHeartbeats 6400000 in
theorem refFill_any (W : Nat) (H : Int) (v : Value) (l : List Px) (x0 y0 x1 y1 : Int) (pr pg pu pa : Nat) (w : World) (hl : Pix .i64 w v l) (hn : l.length ≤ 400) (hW : 1 ≤ W ∧ W ≤ 256) (hpb : okP (pr, pg, pu, pa)) :
    Calls Try.prog 21 #[.agg #[.int .i64 (W : Int), .int .i64 H, v], .int .i64 x0, .int .i64 y0, .int .i64 x1, .int .i64 y1, .agg #[.int .i64 (pr : Int), .int .i64 (pg : Int), .int .i64 (pu : Int), .int .i64 (pa : Int)]] w fun e w' => ∃ v', e = .returned (.agg #[.int .i64 (W : Int), .int .i64 H, v']) ∧ OwnP .i64 50 w.heap.size w' v' (fillL W l (x0, y0, x1, y1) (pr, pg, pu, pa)) ∧ Ext w w' := by
  have P := Lib.hid hl
  obtain ⟨X, c, rfl, hc1, hc2, _⟩ := hl
  obtain ⟨N, hN⟩ : ∃ N, l.length = N := ⟨_, rfl⟩
  rw [hN] at P hn hc1
  rw [hN]
  have HN := Lib.hid hN
  clear hN
  obtain ⟨m, hm⟩ : ∃ m, fillL W l (x0, y0, x1, y1) (pr, pg, pu, pa) = m := ⟨_, rfl⟩
  rw [hm]
  have HM := Lib.hid hm
  clear hm
  go_enter Try.func21, Try.ntmps21
  go_wp2
  obtain ⟨wb, hwb⟩ : ∃ wb, ((w.alloc (.cells #[.int .i64 (W : Int), .int .i64 H, .slice X N c] 34)).alloc (.cells #[.int .i64 (pr : Int), .int .i64 (pg : Int), .int .i64 (pu : Int), .int .i64 (pa : Int)] 50)).alloc (.cells #[.int .i64 0, .int .i64 0, .slice none 0 0] 34) = wb := ⟨_, rfl⟩
  obtain ⟨q, hq⟩ : ∃ q, w.heap.size = q := ⟨_, rfl⟩
  have i0 : wb.cell? ⟨q, 0, none⟩ = some (.int .i64 (W : Int)) := by rw [← hwb, ← hq]; simp [go_sem]
  have i1 : wb.cell? ⟨q, 1, none⟩ = some (.int .i64 H) := by rw [← hwb, ← hq]; simp [go_sem]
  have i2 : wb.cell? ⟨q, 2, none⟩ = some (.slice X N c) := by rw [← hwb, ← hq]; simp [go_sem]
  have p0 : wb.cell? ⟨q + 1, 0, none⟩ = some (.int .i64 (pr : Int)) := by rw [← hwb, ← hq]; simp [go_sem]
  have p1 : wb.cell? ⟨q + 1, 1, none⟩ = some (.int .i64 (pg : Int)) := by rw [← hwb, ← hq]; simp [go_sem]
  have p2 : wb.cell? ⟨q + 1, 2, none⟩ = some (.int .i64 (pu : Int)) := by rw [← hwb, ← hq]; simp [go_sem]
  have p3 : wb.cell? ⟨q + 1, 3, none⟩ = some (.int .i64 (pa : Int)) := by rw [← hwb, ← hq]; simp [go_sem]
  have r0 : wb.cell? ⟨q + 2, 0, none⟩ = some (.int .i64 0) := by rw [← hwb, ← hq]; simp [go_sem]
  have r1 : wb.cell? ⟨q + 2, 1, none⟩ = some (.int .i64 0) := by rw [← hwb, ← hq]; simp [go_sem]
  have r2 : wb.cell? ⟨q + 2, 2, none⟩ = some (.slice none 0 0) := by rw [← hwb, ← hq]; simp [go_sem]
  have rf : ∀ j, wb.frozen? ⟨q + 2, j, none⟩ = false := fun j => by rw [← hwb, ← hq]; simp [go_sem]
  have hzs : wb.heap.size = q + 3 := by rw [← hwb, ← hq]; simp
  have EB : Hid (Ext w wb) := Lib.hid (by rw [← hwb]; (repeat (first | exact Ext.refl _ | apply Ext.alloc | apply Ext.ext)))
  rw [hwb, hq]
  have HQ := Lib.hid hq
  clear hwb hq
  have FC : Hid (∀ wr, Ext wb wr → (wr.cell? ⟨q, 0, none⟩ = some (.int .i64 (W : Int)) ∧ wr.cell? ⟨q, 1, none⟩ = some (.int .i64 H) ∧ wr.cell? ⟨q, 2, none⟩ = some (.slice X N c)) ∧ (wr.cell? ⟨q + 1, 0, none⟩ = some (.int .i64 (pr : Int)) ∧ wr.cell? ⟨q + 1, 1, none⟩ = some (.int .i64 (pg : Int)) ∧ wr.cell? ⟨q + 1, 2, none⟩ = some (.int .i64 (pu : Int)) ∧ wr.cell? ⟨q + 1, 3, none⟩ = some (.int .i64 (pa : Int))) ∧ (wr.cell? ⟨q + 2, 0, none⟩ = some (.int .i64 0) ∧ wr.cell? ⟨q + 2, 1, none⟩ = some (.int .i64 0) ∧ wr.cell? ⟨q + 2, 2, none⟩ = some (.slice none 0 0) ∧ ∀ j, wr.frozen? ⟨q + 2, j, none⟩ = false)) := Lib.hid (fun wr hk =>
    ⟨⟨(hk.cell (by omega)).trans i0, (hk.cell (by omega)).trans i1, (hk.cell (by omega)).trans i2⟩, ⟨(hk.cell (by omega)).trans p0, (hk.cell (by omega)).trans p1, (hk.cell (by omega)).trans p2, (hk.cell (by omega)).trans p3⟩, ⟨(hk.cell (by omega)).trans r0, (hk.cell (by omega)).trans r1, (hk.cell (by omega)).trans r2, fun j => (hk.frozen (by omega)).trans (rf j)⟩⟩)
  clear i0 i1 i2 p0 p1 p2 p3 r0 r1 r2 rf
  go_loopw [14] (fun t14 wr => ∃ (i : Nat) (A : Option Addr) (n cc : Nat), i ≤ N ∧ t14 = .int .i64 (i : Int) ∧ Hid (RefSt wb wr (q + 3) (W : Int) H (.slice A n cc) (m.take i))) (fun t14 _ => N - (intOf t14).toNat)
  case atStart =>
    refine ⟨0, none, 0, 0, by omega, rfl, Lib.hid ⟨?_, by simp; omega, OwnP.nil _ _ _ _, ?_, ?_, ?_, ?_⟩⟩
    · exact (Ext.refl _).alloc _
    all_goals (rw [← hzs]; simp [go_sem])
  case round =>
    obtain ⟨i, A, n, c', hi, rfl, ST⟩ := hrel
    obtain ⟨⟨i0, i1, i2⟩, ⟨p0, p1, p2, p3⟩, ⟨r0, r1, r2, rf⟩⟩ := FC.out _ ST.out.1
    by_cases hlt : i < N
    · have hlt' : (i : Int) < (N : Int) := by omega
      have hML : Hid (m.length = N) := Lib.hid (by rw [← HM.out]; unfold fillL; rw [upd_len]; exact HN.out)
      have hMi : Hid (m.getD i noP = if inBox W (x0, y0, x1, y1) i then (pr, pg, pu, pa) else l.getD i noP) := Lib.hid (by
        rw [← HM.out, List.getD_eq_getElem?_getD]; unfold fillL; rw [upd_at _ _ _ i (by have := HN.out; omega)]; rfl)
      obtain ⟨b, off, r, g, u, a, rfl, hbs, hp, hpb', c0, c1, c2, c3⟩ := P.out.at hlt
      have hE := EB.out.trans ST.out.1
      have hbw : b < wr.heap.size := Nat.lt_of_lt_of_le hbs hE.size
      rw [← hE.cell hbs] at c0 c1 c2 c3
      rw [hp] at hMi
      have HP := Lib.hid hpb'
      clear hpb' hp hE
      obtain ⟨x, hx⟩ : ∃ x, i % W = x := ⟨_, rfl⟩
      obtain ⟨y, hy⟩ : ∃ y, i / W = y := ⟨_, rfl⟩
      have hx' : (i : Int).tmod (W : Int) = (x : Int) := by rw [← hx]; exact (Int.ofNat_tmod i W).symm
      have hy' : (i : Int).tdiv (W : Int) = (y : Int) := by rw [← hy]; exact (Int.ofNat_tdiv i W).symm
      have hxb : x ≤ 400 := by rw [← hx]; have := Nat.mod_le i W; omega
      have hyb : y ≤ 400 := by rw [← hy]; have := Nat.div_le_self i W; omega
      have i0' : ∀ g, (wr.ext g).cell? ⟨q, 0, none⟩ = some (.int .i64 (W : Int)) := fun g => ((show Ext wr (wr.ext g) from ⟨g, rfl⟩).cell (by have := ST.out.2.1; omega)).trans i0
      go_wp2
      refine region_flow 10 [] (fun t v => False) (fun t v w' => True) (by kernel_rfl) (by kernel_rfl) (fun t v h => h.elim) (fun t h => h) (fun _ _ _ _ h => h.elim) ?_
      dsimp only [List.take, List.drop]
      repeat (refine Flow.plain rfl rfl ?_; go_big_quiet_step (fail); refine wpQuiet_nil ?_)
      refine Flow.nil fun w5 hx5 hf => ?_
      have ST5 := Lib.hid (ST.out.ext hx5)
      have P5 := Lib.hid (P.out.ext ((EB.out.trans ST.out.1).trans hx5))
      have HZ := Lib.hid hbw
      have hb5 : b < w5.heap.size := Nat.lt_of_lt_of_le hbw hx5.size
      replace c0 := (hx5.cell hbw).trans c0
      replace c1 := (hx5.cell hbw).trans c1
      replace c2 := (hx5.cell hbw).trans c2
      replace c3 := (hx5.cell hbw).trans c3
      obtain ⟨⟨i0, i1, i2⟩, ⟨p0, p1, p2, p3⟩, ⟨r0, r1, r2, rf⟩⟩ := FC.out _ ST5.out.1
      have s6 := ST5.out.2.2.2.2.2.1
      have s7 := ST5.out.2.2.2.2.2.2
      have TS := Lib.hid (take_succ_getD m i noP (by have := hML.out; omega))
      rw [hMi.out] at TS
      have hT : Hid ((m.take i).length ≤ 400) := Lib.hid (by rw [List.length_take]; omega)
      have HB5 : Hid (q + 3 < w5.heap.size) := Lib.hid ST5.out.2.1
      have hin : inBox W (x0, y0, x1, y1) i = decide (x0 ≤ (x : Int) ∧ (x : Int) < x1 ∧ y0 ≤ (y : Int) ∧ (y : Int) < y1) := by
        unfold inBox; rw [hx, hy]
      clear i0' hx' hy' ST hMi hf hx hy hx5 hi
      have hc5 : (x0 ≤ (x : Int) ∧ (x : Int) < x1 ∧ y0 ≤ (y : Int) ∧ (y : Int) < y1) ∨ ¬ x0 ≤ (x : Int) ∨ (x0 ≤ (x : Int) ∧ ¬ (x : Int) < x1) ∨ (x0 ≤ (x : Int) ∧ (x : Int) < x1 ∧ ¬ y0 ≤ (y : Int)) ∨ (x0 ≤ (x : Int) ∧ (x : Int) < x1 ∧ y0 ≤ (y : Int) ∧ ¬ (y : Int) < y1) := by omega
      rcases hc5 with ⟨h1, h2, h3, h4⟩ | hout
      · have hin' : inBox W (x0, y0, x1, y1) i = true := by rw [hin]; simp; omega
        rw [hin', if_pos rfl] at TS
        have EP := Lib.hid ((Ext.refl w5).alloc (.cells #[.int .i64 (pr : Int), .int .i64 (pg : Int), .int .i64 (pu : Int), .int .i64 (pa : Int)] 50))
        have YP : Hid (Pix .i64 (w5.alloc (.cells #[.int .i64 (pr : Int), .int .i64 (pg : Int), .int .i64 (pu : Int), .int .i64 (pa : Int)] 50)) (.slice (some ⟨w5.heap.size, 0, none⟩) 1 1) [(pr, pg, pu, pa)]) := Lib.hid (pix_one (by simp) hpb (fun j hj => by simp [cellsP]))
        have O5 := Lib.hid ((ST5.out.ext EP.out).2.2.1)
        have Z5 : Hid ((m.take i).length + [(pr, pg, pu, pa)].length ≤ 1000000) := Lib.hid (by have := hT.out; simp only [List.length_cons, List.length_nil]; omega)
        have B5 : Hid (q + 3 + 1 ≤ (w5.alloc (.cells #[.int .i64 (pr : Int), .int .i64 (pg : Int), .int .i64 (pu : Int), .int .i64 (pa : Int)] 50)).heap.size) := Lib.hid (by have := HB5.out; simp; omega)
        clear hin hin' c0 c1 c2 c3 i0 i1 r0 r1 r2 rf
        dsimp only [wpList, Exit.then]
        go_wp2_with (at_builtin; refine wpList_pxs pxR rfl (.tmp 56) (.tmp 58) rfl rfl rfl O5.out YP.out Z5.out B5.out ?_)
        intro v6 w6 hO6 hgr6 _
        rw [← TS.out] at hO6
        obtain ⟨A6, c6, rfl⟩ := own_slice hO6.1
        obtain ⟨L6, hL6⟩ : ∃ L, (m.take (i + 1)).length = L := ⟨_, rfl⟩
        rw [hL6] at hO6 ⊢
        clear hL6
        obtain ⟨g2, f2, ST6⟩ := (ST5.out.ext EP.out).push (by omega) hO6 hgr6
        have ST6 := Lib.hid ST6
        clear hO6 hgr6
        go_wp2
        go_roundw
        case rel => exact ⟨i + 1, A6, _, c6, by omega, by go_num, ST6⟩
        case measure => simp [intOf]; omega
      · have hin' : inBox W (x0, y0, x1, y1) i = false := by rw [hin]; simp; omega
        rw [hin'] at TS
        replace TS := Lib.hid (TS.out.trans (show _ = m.take i ++ [(r, g, u, a)] from rfl))
        have k0 : ∀ g', (w5.ext g').cell? ⟨b, off + i * 4, none⟩ = some (.int .i64 (r : Int)) := fun g' => ((show Ext w5 (w5.ext g') from ⟨g', rfl⟩).cell hb5).trans c0
        have k1 : ∀ g', (w5.ext g').cell? ⟨b, off + (i * 4 + 1), none⟩ = some (.int .i64 (g : Int)) := fun g' => ((show Ext w5 (w5.ext g') from ⟨g', rfl⟩).cell hb5).trans c1
        have k2 : ∀ g', (w5.ext g').cell? ⟨b, off + (i * 4 + 2), none⟩ = some (.int .i64 (u : Int)) := fun g' => ((show Ext w5 (w5.ext g') from ⟨g', rfl⟩).cell hb5).trans c2
        have k3 : ∀ g', (w5.ext g').cell? ⟨b, off + (i * 4 + 3), none⟩ = some (.int .i64 (a : Int)) := fun g' => ((show Ext w5 (w5.ext g') from ⟨g', rfl⟩).cell hb5).trans c3
        have k4 : ∀ g', (w5.ext g').cell? ⟨q + 3, 2, none⟩ = some (.slice A n c') := fun g' => ((show Ext w5 (w5.ext g') from ⟨g', rfl⟩).cell HB5.out).trans s6
        have k5 : ∀ g', (w5.ext g').cell? ⟨q, 2, none⟩ = some (.slice (some ⟨b, off, none⟩) N c) := fun g' => ((show Ext w5 (w5.ext g') from ⟨g', rfl⟩).cell (by have := HB5.out; omega)).trans i2
        clear hin hin' c0 c1 c2 c3 i0 i1 i2 p0 p1 p2 p3 r0 r1 r2 rf s6 s7
        dsimp only [wpList, Exit.then]
        rcases hout with h1 | ⟨h1, h2⟩ | ⟨h1, h2, h3⟩ | ⟨h1, h2, h3, h4⟩
        all_goals (
          go_wp2
          refine region_flow 8 [68] (fun t v => match t with | 68 => ∃ g, v = .slice (some ⟨g, 0, none⟩) 1 1 | _ => False) (fun t v w' => match t with | 68 => Pix .i64 w' v [(r, g, u, a)] | _ => True) (by kernel_rfl) (by kernel_rfl) ?hq ?hu ?hR ?h
          case hq => intro t v h; split at h <;> simp_all
          case hu => intro t h; split at h <;> simp_all [undef]
          case hR => intro t v w w' h1 h2 h3; split at h1 <;> first | exact Pix.ext h2 h3 | trivial
          case h =>
            dsimp only [List.take, List.drop]
            repeat (refine Flow.plain rfl rfl ?_; go_big_quiet_step (fail); refine wpQuiet_nil ?_)
            refine Flow.make 68 rfl rfl rfl ⟨.slice (some ⟨0, 0, none⟩) 1 1, 0, rfl⟩ (fun wx hx hf => ⟨.slice (some ⟨wx.heap.size, 0, none⟩) 1 1, wx.alloc (.cells #[.int .i64 (r : Int), .int .i64 (g : Int), .int .i64 (u : Int), .int .i64 (a : Int)] 50), by kernel_rfl, (Ext.refl wx).alloc _, ⟨_, rfl⟩, ?_⟩) ?_
            · exact pix_one (by simp) HP.out (fun j hj => by simp [cellsP])
            rintro _ ⟨g5, rfl⟩
            simp only [Act.put, List.setIfInBounds_toArray, List.set_cons_zero, List.set_cons_succ]
            refine Flow.nil fun w7 hx7 hf => ?_
            have h22 := hf 68 (by simp) ⟨g5, rfl⟩
            have Y := Lib.hid (show Pix .i64 w7 (.slice (some ⟨g5, 0, none⟩) 1 1) [(r, g, u, a)] from h22)
            clear hf h22 k0 k1 k2 k3 k4 k5
            have ST7 := Lib.hid (ST5.out.ext hx7)
            have O5 := Lib.hid ST7.out.2.2.1
            have Z5 : Hid ((m.take i).length + [(r, g, u, a)].length ≤ 1000000) := Lib.hid (by have := hT.out; simp only [List.length_cons, List.length_nil]; omega)
            have B5 : Hid (q + 3 + 1 ≤ w7.heap.size) := Lib.hid (by have := ST7.out.2.1; omega)
            clear hx7
            refine wpList_pxs pxR rfl (.tmp 62) (.tmp 68) rfl rfl rfl O5.out Y.out Z5.out B5.out ?_
            intro v6 w6 hO6 hgr6 _
            rw [← TS.out] at hO6
            obtain ⟨A6, c6, rfl⟩ := own_slice hO6.1
            obtain ⟨L6, hL6⟩ : ∃ L, (m.take (i + 1)).length = L := ⟨_, rfl⟩
            rw [hL6] at hO6 ⊢
            clear hL6
            obtain ⟨g2, f2, ST6⟩ := ST7.out.push (by omega) hO6 hgr6
            have ST6 := Lib.hid ST6
            clear hO6 hgr6
            go_wp2
            go_roundw
            case rel => exact ⟨i + 1, A6, _, c6, by omega, by go_num, ST6⟩
            case measure => simp [intOf]; omega)
    · have hlt' : ¬ (i : Int) < (N : Int) := by omega
      have hML : m.length = N := by rw [← HM.out]; unfold fillL; rw [upd_len]; exact HN.out
      have hfull : m.take i = m := List.take_of_length_le (by omega)
      obtain ⟨s1, s2, s3, s4, s5, s6, s7⟩ := ST.out
      rw [hfull] at s3
      have hn : n = N := s3.pix.len.trans hML
      subst hn
      have S1 := Lib.hid s1
      have S3 := Lib.hid s3
      clear s1 s3 hfull
      go_wp2
      refine bodyPost_ret (v := .agg #[.int .i64 (W : Int), .int .i64 H, .slice A n c']) (by simp [results, Try.results21, go_sem, r0, r1, r2, rf]) rfl ⟨_, rfl, ?_, ?_⟩
      · exact (((S3.out.set (by omega)).set (by omega)).set (by omega)).mono (by have := HQ.out; omega)
      · have := HQ.out
        exact ((((EB.out.trans S1.out).setCell (by simp; omega) _).setCell (by simp; omega) _).setCell (by simp; omega) _)

end Go.Proofs.Ytncphiphgkjflaa
