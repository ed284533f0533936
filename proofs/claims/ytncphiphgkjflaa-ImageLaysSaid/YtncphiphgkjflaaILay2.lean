import Derived.Test.YtncphiphgkjflaaILay1
import Derived.Test.YtncphiphgkjflaaIPLaw
import Derived.Deep.RegionWith
namespace Go.Proofs.Ytncphiphgkjflaa
open Go.RowKit Go.Shelf
set_option linter.unusedVariables false
set_option linter.unusedSimpArgs false

theorem allRight_at {W H : Int} {l : List Px} (h : rightI W H l = true) {i : Nat} (hi : i < l.length) : rightP (l.getD i noP) = true := by
  unfold rightI at h
  simp only [Bool.and_eq_true] at h
  have h2 := h.2
  unfold allRight at h2
  rw [List.all_eq_true] at h2
  refine h2 _ ?_
  rw [List.getD_eq_getElem?_getD, List.getElem?_eq_getElem hi]
  exact List.getElem_mem hi

set_option maxRecDepth 100000 in
set_option maxHeartbeats 12800000 in
theorem lay_near (W H W2 H2 : Nat) (v v2 : Value) (l l2 : List Px) (x y : Int) (t : Nat) (m : Nat) (w : World) (hl : Pix .u8 w v l) (hl2 : Pix .u8 w v2 l2) (hn : l.length ≤ 400) (hn2 : l2.length ≤ 400) (hx : -9223372036854775808 ≤ x ∧ x ≤ 9223372036854775807) (hy : -9223372036854775808 ≤ y ∧ y ≤ 9223372036854775807) (ht : t ≤ 255) (hr : rightI (W : Int) (H : Int) l = true) (hr2 : rightI (W2 : Int) (H2 : Int) l2 = true) (hm : m ≤ 4)
    (hx1 : -(W2 : Int) < x) (hx2 : x < (W : Int)) (hy1 : -(H2 : Int) < y) (hy2 : y < (H : Int)) :
    Calls Try.prog 29 #[.agg #[.int .i64 (W : Int), .int .i64 (H : Int), v], .agg #[.int .i64 (W2 : Int), .int .i64 (H2 : Int), v2], .int .i64 x, .int .i64 y, .int .u8 (t : Int), .int .i64 (m : Int)] w fun e w' => ∃ v', e = .returned (.tuple #[.agg #[.int .i64 (W : Int), .int .i64 (H : Int), v'], .int .i64 0]) ∧ OwnP .u8 40 w.heap.size w' v' (layL W l W2 H2 l2 x y t m) ∧ Ext w w' := by
  have hside : sideB (W : Int) = true ∧ sideB (H : Int) = true ∧ l.length = W * H := by
    have a := hr
    unfold rightI at a
    simp only [Bool.and_eq_true, decide_eq_true_eq] at a
    exact ⟨a.1.1.1, a.1.1.2, by have := a.1.2; exact_mod_cast this⟩
  have hside2 : sideB (W2 : Int) = true ∧ sideB (H2 : Int) = true ∧ l2.length = W2 * H2 := by
    have a := hr2
    unfold rightI at a
    simp only [Bool.and_eq_true, decide_eq_true_eq] at a
    exact ⟨a.1.1.1, a.1.1.2, by have := a.1.2; exact_mod_cast this⟩
  have hWb : 1 ≤ W ∧ W ≤ 256 := by have := hside.1; simp [sideB] at this; omega
  have hHb : 1 ≤ H ∧ H ≤ 256 := by have := hside.2.1; simp [sideB] at this; omega
  have hWb2 : 1 ≤ W2 ∧ W2 ≤ 256 := by have := hside2.1; simp [sideB] at this; omega
  have hHb2 : 1 ≤ H2 ∧ H2 ≤ 256 := by have := hside2.2.1; simp [sideB] at this; omega
  have HL := Lib.hid hside.2.2
  have HL2 := Lib.hid hside2.2.2
  have HR := Lib.hid hr
  have HR2 := Lib.hid hr2
  have P := Lib.hid hl
  have P2 := Lib.hid hl2
  obtain ⟨X, c, rfl, hc1, hc2, _⟩ := hl
  obtain ⟨X2, d, rfl, hd1, hd2, _⟩ := hl2
  obtain ⟨N, hN⟩ : ∃ N, l.length = N := ⟨_, rfl⟩
  obtain ⟨N2, hN2⟩ : ∃ N, l2.length = N := ⟨_, rfl⟩
  rw [hN] at P hn hc1
  rw [hN2] at P2 hn2 hd1
  rw [hN, hN2]
  have HN := Lib.hid hN
  have HN2 := Lib.hid hN2
  clear hN hN2
  have CM := Lib.hid (fun wx (hx : Ext w wx) => check_any (W : Int) (H : Int) (.slice X N c) l wx (by omega) (by omega) (P.out.ext hx))
  have CO := Lib.hid (fun wx (hx : Ext w wx) => check_any (W2 : Int) (H2 : Int) (.slice X2 N2 d) l2 wx (by omega) (by omega) (P2.out.ext hx))
  rw [hr, show errB true = 0 from rfl] at CM
  rw [hr2, show errB true = 0 from rfl] at CO
  have CC := Lib.hid (fun wx (hx : Ext w wx) => copied_any (W : Int) (H : Int) (.slice X N c) l wx (P.out.ext hx) (by rw [HN.out]; omega))
  clear hside hside2 hr hr2
  have hm1 : ¬ (m : Int) < 0 := by omega
  have hm2 : ¬ (4 : Int) < (m : Int) := by omega
  have hf1 : ¬ x ≤ -(W2 : Int) := by omega
  have hf2 : ¬ y ≤ -(H2 : Int) := by omega
  have hf3 : ¬ (W : Int) ≤ x := by omega
  have hf4 : decide ((H : Int) ≤ y) = false := by simp; omega
  go_enter Try.func29, Try.ntmps29
  go_wp2_with fail
  refine (CM.out _ (by (repeat (first | exact Ext.refl _ | apply Ext.alloc | apply Ext.ext)))).mono ?_
  rintro e w1 ⟨rfl, g1, rfl⟩
  go_wp2_with fail
  refine (CO.out _ (by (repeat (first | exact Ext.refl _ | apply Ext.alloc | apply Ext.ext)))).mono ?_
  rintro e w2 ⟨rfl, g2, rfl⟩
  go_wp2_with fail
  refine (CC.out _ (by (repeat (first | exact Ext.refl _ | apply Ext.alloc | apply Ext.ext)))).mono ?_
  rintro e w3 ⟨v3, rfl, hO, g3, rfl⟩
  obtain ⟨gp, c0, e0, hgb, hgs, hc0, hc0', _, _⟩ := hO.form (by rw [HL.out]; exact Nat.mul_pos (by omega) (by omega))
  rw [HN.out] at e0 hc0
  subst e0
  have O1 := Lib.hid hO
  clear hO
  go_wp2
  obtain ⟨wq, hwq⟩ : ∃ wq, ((((((w.alloc (.cells #[.int .i64 (W : Int), .int .i64 (H : Int), .slice X N c] 24)).alloc (.cells #[.int .i64 (W2 : Int), .int .i64 (H2 : Int), .slice X2 N2 d] 24)).alloc (.cells #[.int .i64 0, .int .i64 0, .slice none 0 0] 24)).ext g1).ext g2).ext g3).alloc (.cells #[.int .i64 (W : Int), .int .i64 (H : Int), .slice (some ⟨gp, 0, none⟩) N c0] 24) = wq := ⟨_, rfl⟩
  obtain ⟨q, hq⟩ : ∃ q, w.heap.size = q := ⟨_, rfl⟩
  obtain ⟨G, hG⟩ : ∃ G, w.heap.size + (3 + (g1.blocks.size + (g2.blocks.size + g3.blocks.size))) = G := ⟨_, rfl⟩
  have EQ : Ext w wq := by rw [← hwq]; (repeat (first | exact Ext.refl _ | apply Ext.alloc | apply Ext.ext))
  have OQ := O1.out.ext ((Ext.refl _).alloc (.cells #[.int .i64 (W : Int), .int .i64 (H : Int), .slice (some ⟨gp, 0, none⟩) N c0] 24))
  rw [hwq] at OQ ⊢
  simp only [World.size_alloc, ext_size] at hgb hgs OQ
  have i0 : wq.cell? ⟨q, 0, none⟩ = some (.int .i64 (W : Int)) := by rw [← hwq, ← hq]; simp [go_sem]
  have i1 : wq.cell? ⟨q, 1, none⟩ = some (.int .i64 (H : Int)) := by rw [← hwq, ← hq]; simp [go_sem]
  have j0' : wq.cell? ⟨q + 1, 0, none⟩ = some (.int .i64 (W2 : Int)) := by rw [← hwq, ← hq]; simp [go_sem]
  have j1' : wq.cell? ⟨q + 1, 1, none⟩ = some (.int .i64 (H2 : Int)) := by rw [← hwq, ← hq]; simp [go_sem]
  have j2' : wq.cell? ⟨q + 1, 2, none⟩ = some (.slice X2 N2 d) := by rw [← hwq, ← hq]; simp [go_sem]
  have r0 : wq.cell? ⟨q + 2, 0, none⟩ = some (.int .i64 0) := by rw [← hwq, ← hq]; simp [go_sem]
  have r1 : wq.cell? ⟨q + 2, 1, none⟩ = some (.int .i64 0) := by rw [← hwq, ← hq]; simp [go_sem]
  have r2 : wq.cell? ⟨q + 2, 2, none⟩ = some (.slice none 0 0) := by rw [← hwq, ← hq]; simp [go_sem]
  have rf : ∀ j, wq.frozen? ⟨q + 2, j, none⟩ = false := fun j => by rw [← hwq, ← hq]; simp [go_sem]
  have o0 : wq.cell? ⟨G, 0, none⟩ = some (.int .i64 (W : Int)) := by rw [← hwq, ← hG]; simp [go_sem]
  have o1 : wq.cell? ⟨G, 1, none⟩ = some (.int .i64 (H : Int)) := by rw [← hwq, ← hG]; simp [go_sem]
  have o2 : wq.cell? ⟨G, 2, none⟩ = some (.slice (some ⟨gp, 0, none⟩) N c0) := by rw [← hwq, ← hG]; simp [go_sem]
  have hGs : G < wq.heap.size := by rw [← hwq, ← hG]; simp only [World.size_alloc, ext_size]; omega
  have hgp : q + 3 ≤ gp ∧ gp < G := by
    simp only [Nat.add_assoc] at hgb hgs
    omega
  rw [hG, hq]
  replace OQ := OQ.mono (b' := q + 3) (by omega)
  have OQ := Lib.hid OQ
  have EQ := Lib.hid EQ
  have HQ := Lib.hid hq
  have hqs : q ≤ w.heap.size := Nat.le_of_eq hq.symm
  clear hwq hgb hgs hG O1 hq
  have FC : Hid (∀ wr, Keep wq wr (fun k => k = gp) → (wr.cell? ⟨q, 0, none⟩ = some (.int .i64 (W : Int)) ∧ wr.cell? ⟨q, 1, none⟩ = some (.int .i64 (H : Int))) ∧ (wr.cell? ⟨q + 1, 0, none⟩ = some (.int .i64 (W2 : Int)) ∧ wr.cell? ⟨q + 1, 1, none⟩ = some (.int .i64 (H2 : Int)) ∧ wr.cell? ⟨q + 1, 2, none⟩ = some (.slice X2 N2 d)) ∧ (wr.cell? ⟨q + 2, 0, none⟩ = some (.int .i64 0) ∧ wr.cell? ⟨q + 2, 1, none⟩ = some (.int .i64 0) ∧ wr.cell? ⟨q + 2, 2, none⟩ = some (.slice none 0 0) ∧ ∀ j, wr.frozen? ⟨q + 2, j, none⟩ = false) ∧ (wr.cell? ⟨G, 0, none⟩ = some (.int .i64 (W : Int)) ∧ wr.cell? ⟨G, 1, none⟩ = some (.int .i64 (H : Int)) ∧ wr.cell? ⟨G, 2, none⟩ = some (.slice (some ⟨gp, 0, none⟩) N c0)) ∧ G < wr.heap.size) := Lib.hid (fun wr hk =>
    ⟨⟨(hk.cell (by omega) (by omega)).trans i0, (hk.cell (by omega) (by omega)).trans i1⟩, ⟨(hk.cell (by omega) (by omega)).trans j0', (hk.cell (by omega) (by omega)).trans j1', (hk.cell (by omega) (by omega)).trans j2'⟩, ⟨(hk.cell (by omega) (by omega)).trans r0, (hk.cell (by omega) (by omega)).trans r1, (hk.cell (by omega) (by omega)).trans r2, fun j => (hk.frozen (by omega) (by omega)).trans (rf j)⟩, ⟨(hk.cell hGs (by omega)).trans o0, (hk.cell hGs (by omega)).trans o1, (hk.cell hGs (by omega)).trans o2⟩, Nat.lt_of_lt_of_le hGs hk.size⟩)
  clear i0 i1 j0' j1' j2' r0 r1 r2 rf o0 o1 o2 hGs hf1 hf2 hf3 hf4 hm1 hm2
  obtain ⟨j0, hj0⟩ : ∃ n : Nat, max 0 (-y) = (n : Int) := ⟨(max 0 (-y)).toNat, by omega⟩
  obtain ⟨j1, hj1⟩ : ∃ n : Nat, min (H2 : Int) ((H : Int) - y) = (n : Int) := ⟨(min (H2 : Int) ((H : Int) - y)).toNat, by omega⟩
  obtain ⟨f, hff⟩ : ∃ n : Nat, max 0 (-x) = (n : Int) := ⟨(max 0 (-x)).toNat, by omega⟩
  obtain ⟨tt, htt⟩ : ∃ n : Nat, min (W2 : Int) ((W : Int) - x) = (n : Int) := ⟨(min (W2 : Int) ((W : Int) - x)).toNat, by omega⟩
  obtain ⟨x0, hx0⟩ : ∃ n : Nat, x + (f : Int) = (n : Int) := ⟨(x + (f : Int)).toNat, by omega⟩
  obtain ⟨x3, hx3⟩ : ∃ n : Nat, x + (tt : Int) = (n : Int) := ⟨(x + (tt : Int)).toNat, by omega⟩
  obtain ⟨y0, hy0⟩ : ∃ n : Nat, y + (j0 : Int) = (n : Int) := ⟨(y + (j0 : Int)).toNat, by omega⟩
  have hb1 : f < tt ∧ tt ≤ W2 ∧ x3 ≤ W ∧ j0 < j1 ∧ j1 ≤ H2 ∧ y0 + (j1 - j0) ≤ H := by omega
  have hx03 : x3 - x0 = tt - f ∧ x0 < x3 := by omega
  have hxs : -256 ≤ x ∧ x ≤ 256 := by omega
  have hys : -256 ≤ y ∧ y ≤ 256 := by omega
  obtain ⟨D, hD⟩ : ∃ D, tt - f = D := ⟨_, rfl⟩
  have hD1 : 1 ≤ D ∧ D ≤ 256 := by omega
  have HXD : Hid (x3 = x0 + D ∧ tt = f + D) := Lib.hid (by omega)
  have HIN : Hid (∀ k, k < W * H → inL W W2 H2 x y k = filled W x0 x3 y0 (y0 + (j1 - j0)) 0 k) := Lib.hid (fun k hk => by
    have h1 : k % W < W := Nat.mod_lt _ (by omega)
    have h2 : k / W < H := Nat.div_lt_of_lt_mul hk
    unfold inL filled
    rw [decide_eq_decide]
    generalize k % W = a at *
    generalize k / W = b at *
    omega)
  rw [hj0]
  have HBB := Lib.hid (And.intro hff (And.intro htt (And.intro hj0 hj1)))
  clear hj0 hx1 hx2 hy1 hy2
  go_loopw [15] (fun t15 wr => ∃ s : Nat, j0 + s ≤ j1 ∧ t15 = .int .i64 ((j0 + s : Nat) : Int) ∧ Hid (Keep wq wr (fun k => k = gp) ∧ OwnP .u8 40 (q + 3) wr (.slice (some ⟨gp, 0, none⟩) N c0) (updF l (filled W x0 x3 y0 (y0 + s) 0) (layF W W2 l l2 x y t m)))) (fun t15 _ => j1 - (intOf t15).toNat)
  case atStart =>
    refine ⟨0, by omega, rfl, Lib.hid ⟨Keep.refl _ _, ?_⟩⟩
    rw [updF_none (fun k hk => by unfold filled; simp)]
    exact OQ.out
  case round =>
    obtain ⟨s, hs, rfl, ST⟩ := hrel
    obtain ⟨j, hj⟩ : ∃ j, j0 + s = j := ⟨_, rfl⟩
    obtain ⟨Y, hY⟩ : ∃ Y, y0 + s = Y := ⟨_, rfl⟩
    rw [hj] at hs
    rw [hY] at ST
    rw [hj]
    obtain ⟨⟨i0, i1⟩, ⟨j0', j1', j2'⟩, ⟨r0, r1, r2, rf⟩, ⟨o0, o1, o2⟩, hGw⟩ := FC.out _ ST.out.1
    by_cases hlt : j < j1
    · have hlt' : (j : Int) < (j1 : Int) := by omega
      have hyj : y + (j : Int) = (Y : Int) := by omega
      have hYH : Y < H := by omega
      have hNW : Y * W + x3 ≤ N := by
        have h1 := HL.out
        rw [HN.out] at h1
        have := row_end (W := W) (H := H) (x0 := x3 - 1) (d := 1) (y := Y) hYH (by omega)
        omega
      have hNO : j * W2 + tt ≤ N2 := by
        have h1 := HL2.out
        rw [HN2.out] at h1
        have := row_end (W := W2) (H := H2) (x0 := tt - 1) (d := 1) (y := j) (by omega) (by omega)
        omega
      obtain ⟨b2, off2, _, _, _, _, rfl, hb2s, _⟩ := P2.out.at (show 0 < N2 by omega)
      have PS := Lib.hid (P2.out.sub (j * W2 + f) D (by omega))
      have RW := Lib.hid (fun wx => row_any W Y x0 x3 gp 0 N c0 (H : Int) wx (by omega) hNW hc0 hc0' (by omega) (by omega))
      have RO := Lib.hid (fun wx => row_any W2 j f tt b2 off2 N2 d (H2 : Int) wx (by omega) hNO hd1 hd2 (by omega) (by omega))
      obtain ⟨qf, hqf⟩ : ∃ qf, Y * W + x0 = qf := ⟨_, rfl⟩
      obtain ⟨qo, hqo⟩ : ∃ qo, off2 + (j * W2 + f) * 4 = qo := ⟨_, rfl⟩
      rw [Nat.zero_add, hx03.1, hD, hqf] at RW
      rw [hD, hqo] at RO
      rw [hqo] at PS
      have HQF := Lib.hid (And.intro hqf hNW)
      have HNO := Lib.hid hNO
      have hyy : ∀ g, Ext wr (wr.ext g) := fun g => ⟨g, rfl⟩
      have k0 : ∀ g', (wr.ext g').cell? ⟨q, 0, none⟩ = some (.int .i64 (W : Int)) := fun g' => ((hyy g').cell (by omega)).trans i0
      have k1 : ∀ g', (wr.ext g').cell? ⟨q + 1, 0, none⟩ = some (.int .i64 (W2 : Int)) := fun g' => ((hyy g').cell (by omega)).trans j0'
      clear hqf hqo hNW hNO hyy r0 r1 r2 rf hx03 hD
      go_wp2
      refine region_flow 12 [] (fun t v => False) (fun t v w' => True) (by kernel_rfl) (by kernel_rfl) (fun t v h => h.elim) (fun t h => h) (fun _ _ _ _ h => h.elim) ?_
      dsimp only [List.take, List.drop]
      repeat (first | (refine Flow.skip rfl ?_; simp only [Act.put, List.setIfInBounds_toArray, List.set_cons_zero, List.set_cons_succ]) | (refine Flow.plain rfl rfl ?_; go_big_quiet_step (fail); refine wpQuiet_nil ?_))
      refine Flow.nil fun w5 hx5 hf => ?_
      have K5 := Lib.hid (ST.out.1.trans (Keep.ofExt hx5 (fun _ => False)) (fun _ _ h => h.elim))
      have O5 := Lib.hid (ST.out.2.ext hx5)
      clear hf hx5 k0 k1 i0 i1 j0' j1' j2' o0 o1 o2 hGw
      obtain ⟨⟨i0, i1⟩, ⟨j0', j1', j2'⟩, _, ⟨o0, o1, o2⟩, hGw⟩ := FC.out _ K5.out
      have hq1 : q + 1 < w5.heap.size := by omega
      have hq0 : q < w5.heap.size := by omega
      dsimp only [wpList, Exit.then]
      go_wp2_with fail
      refine (RW.out _).mono ?_
      rintro e w6 ⟨rfl, g6, rfl⟩
      go_wp2_with fail
      refine (RO.out _).mono ?_
      rintro e w6 ⟨rfl, g7, rfl⟩
      go_wp2
      have E7 : Ext w5 ((w5.ext g6).ext g7) := ((Ext.refl w5).ext g6).ext g7
      have KI := Lib.hid (K5.out.trans (Keep.ofExt E7 (fun _ => False)) (fun _ _ h => h.elim))
      have OI := Lib.hid (O5.out.ext E7)
      obtain ⟨wi0, hwi0⟩ : ∃ wi0, (w5.ext g6).ext g7 = wi0 := ⟨_, rfl⟩
      rw [hwi0] at KI OI ⊢
      clear hwi0 E7 i0 i1 j0' j1' j2' o0 o1 o2 hGw hq1 hq0 ST K5 O5
      go_loopw [105] (fun t105 wi => ∃ i : Nat, i ≤ D ∧ t105 = .int .i64 (i : Int) ∧ Hid (Keep wq wi (fun k => k = gp) ∧ OwnP .u8 40 (q + 3) wi (.slice (some ⟨gp, 0, none⟩) N c0) (updF l (filled W x0 x3 y0 Y i) (layF W W2 l l2 x y t m)))) (fun t105 _ => D - (intOf t105).toNat)
      case atStart => exact ⟨0, by omega, rfl, Lib.hid ⟨KI.out, OI.out⟩⟩
      case round =>
        obtain ⟨i, hid', rfl, ST⟩ := hrel
        by_cases hli : i < D
        · have hli' : (i : Int) < (D : Int) := by omega
          obtain ⟨b3, off3, r2, g2, u2, a2, hsl, hb3, hp2, hpb2, e0, e1, e2, e3⟩ := PS.out.at hli
          simp only [Option.some.injEq, Addr.mk.injEq, and_true] at hsl
          obtain ⟨rfl, rfl⟩ := hsl
          have hb4 : b2 < wr.heap.size := Nat.lt_of_lt_of_le hb3 (Nat.le_trans EQ.out.size ST.out.1.size)
          replace e0 := (ST.out.1.cell (Nat.lt_of_lt_of_le hb3 EQ.out.size) (by have := HQ.out; omega)).trans ((EQ.out.cell hb3).trans e0)
          replace e1 := (ST.out.1.cell (Nat.lt_of_lt_of_le hb3 EQ.out.size) (by have := HQ.out; omega)).trans ((EQ.out.cell hb3).trans e1)
          replace e2 := (ST.out.1.cell (Nat.lt_of_lt_of_le hb3 EQ.out.size) (by have := HQ.out; omega)).trans ((EQ.out.cell hb3).trans e2)
          replace e3 := (ST.out.1.cell (Nat.lt_of_lt_of_le hb3 EQ.out.size) (by have := HQ.out; omega)).trans ((EQ.out.cell hb3).trans e3)
          rw [getD_sub, if_pos hli] at hp2
          have hxd := HXD.out
          have hidx : qf + i < l.length := by have := HN.out; have := HQF.out; omega
          have hidx2 : j * W2 + f + i < l2.length := by have := HN2.out; have := HNO.out; omega
          have hul : (updF l (filled W x0 x3 y0 Y i) (layF W W2 l l2 x y t m)).length = l.length := updF_len _ _ _
          have hmod : (qf + i) % W = x0 + i := by rw [← HQF.out.1, Nat.add_assoc, Nat.add_comm, Nat.add_mul_mod_self_right, Nat.mod_eq_of_lt (by omega)]
          have hdiv : (qf + i) / W = Y := by rw [← HQF.out.1, Nat.add_assoc, Nat.add_comm, Nat.add_mul_div_right _ _ (by omega), Nat.div_eq_of_lt (by omega)]; omega
          have hcur : (updF l (filled W x0 x3 y0 Y i) (layF W W2 l l2 x y t m)).getD (qf + i) noP = l.getD (qf + i) noP := by
            rw [List.getD_eq_getElem?_getD, updF_at _ _ _ _ hidx]
            have : filled W x0 x3 y0 Y i (qf + i) = false := by
              unfold filled
              rw [hmod, hdiv]
              simp
            rw [this]
            rfl
          have hlf : layF W W2 l l2 x y t m (qf + i) = mixP t m (r2, g2, u2, a2) (l.getD (qf + i) noP) := by
            unfold layF
            rw [hmod, hdiv, show (((Y : Nat) : Int) - y).toNat = j by omega, show (((x0 + i : Nat) : Int) - x).toNat = f + i by omega, ← Nat.add_assoc, hp2]
          obtain ⟨⟨r, g, u, a⟩, hp⟩ : ∃ p, l.getD (qf + i) noP = p := ⟨_, rfl⟩
          have hpb : okP (r, g, u, a) := by rw [← hp]; exact okP_all P.out _
          have hpr : rightP (r, g, u, a) = true := by rw [← hp]; exact allRight_at HR.out hidx
          have hpr2 : rightP (r2, g2, u2, a2) = true := by rw [← hp2]; exact allRight_at HR2.out hidx2
          obtain ⟨g', c', e', _, hgw, _, _, hcell, hfz⟩ := ST.out.2.form (by omega)
          simp only [Value.slice.injEq, Option.some.injEq, Addr.mk.injEq, and_true] at e'
          obtain ⟨rfl, -, -⟩ := e'
          obtain ⟨k0, k1, k2, k3⟩ := hcell (qf + i) (r, g, u, a) (hcur.trans hp) (by omega)
          rw [Nat.add_mul] at k0 k1 k2 k3
          simp only [Nat.add_assoc] at k0 k1 k2 k3
          rw [hp] at hlf
          have FP := Lib.hid (fun wx => fade_px (r2, g2, u2, a2) t wx hpb2 ht)
          have HF : Hid (okP (fadeP (r2, g2, u2, a2) t) ∧ rightP (fadeP (r2, g2, u2, a2) t) = true) := Lib.hid ⟨fade_ok hpb2 ht, fade_right hpb2 ht hpr2⟩
          have HM9 : Hid (okP (mixP t m (r2, g2, u2, a2) (r, g, u, a))) := Lib.hid (mix_ok hpb2 hpb ht)
          obtain ⟨⟨f0, f1, f2, f3⟩, hff⟩ : ∃ p, fadeP (r2, g2, u2, a2) t = p := ⟨_, rfl⟩
          rw [hff] at FP HF
          obtain ⟨⟨z0, z1, z2, z3⟩, hzz⟩ : ∃ p, mixP t m (r2, g2, u2, a2) (r, g, u, a) = p := ⟨_, rfl⟩
          rw [hzz] at HM9 hlf
          have BP := Lib.hid (fun wx => blend_px (f0, f1, f2, f3) (r, g, u, a) m wx HF.out.1 hpb hm HF.out.2 hpr)
          rw [show blendP m (f0, f1, f2, f3) (r, g, u, a) = (z0, z1, z2, z3) by rw [← hzz, ← hff]; rfl] at BP
          dsimp only [valP] at FP BP
          have HLF := Lib.hid hlf
          have HIDX := Lib.hid hidx
          clear hxd hp2 hpb2 hff hzz hcell hul hmod hdiv hcur hp hpb hpr hpr2 hidx2 hlf hidx hb3
          go_wp2
          obtain ⟨wy, hwy⟩ : ∃ wy, wr.alloc (.cells #[.int .u8 (r2 : Int), .int .u8 (g2 : Int), .int .u8 (u2 : Int), .int .u8 (a2 : Int)] 40) = wy := ⟨_, rfl⟩
          obtain ⟨C, hC⟩ : ∃ C, wr.heap.size = C := ⟨_, rfl⟩
          have EY : Ext wr wy := by rw [← hwy]; exact (Ext.refl wr).alloc _
          have n0 : wy.cell? ⟨C, 0, none⟩ = some (.int .u8 (r2 : Int)) := by rw [← hwy, ← hC]; simp [go_sem]
          have n1 : wy.cell? ⟨C, 1, none⟩ = some (.int .u8 (g2 : Int)) := by rw [← hwy, ← hC]; simp [go_sem]
          have n2 : wy.cell? ⟨C, 2, none⟩ = some (.int .u8 (u2 : Int)) := by rw [← hwy, ← hC]; simp [go_sem]
          have n3 : wy.cell? ⟨C, 3, none⟩ = some (.int .u8 (a2 : Int)) := by rw [← hwy, ← hC]; simp [go_sem]
          have hCy : C < wy.heap.size := by rw [← hwy, ← hC]; simp
          rw [hwy, hC]
          have hgy : gp < wy.heap.size := Nat.lt_of_lt_of_le hgw EY.size
          replace k0 := (EY.cell hgw).trans k0
          replace k1 := (EY.cell hgw).trans k1
          replace k2 := (EY.cell hgw).trans k2
          replace k3 := (EY.cell hgw).trans k3
          replace hfz := fun j => (EY.frozen (i := j) hgw).trans (hfz j)
          have SO : Hid (∀ w6, Ext wy w6 → Keep wq ((((w6.setCell ⟨gp, qf * 4 + i * 4, none⟩ (.int .u8 (z0 : Int))).setCell ⟨gp, qf * 4 + (i * 4 + 1), none⟩ (.int .u8 (z1 : Int))).setCell ⟨gp, qf * 4 + (i * 4 + 2), none⟩ (.int .u8 (z2 : Int))).setCell ⟨gp, qf * 4 + (i * 4 + 3), none⟩ (.int .u8 (z3 : Int))) (fun k => k = gp) ∧ OwnP .u8 40 (q + 3) ((((w6.setCell ⟨gp, qf * 4 + i * 4, none⟩ (.int .u8 (z0 : Int))).setCell ⟨gp, qf * 4 + (i * 4 + 1), none⟩ (.int .u8 (z1 : Int))).setCell ⟨gp, qf * 4 + (i * 4 + 2), none⟩ (.int .u8 (z2 : Int))).setCell ⟨gp, qf * 4 + (i * 4 + 3), none⟩ (.int .u8 (z3 : Int))) (.slice (some ⟨gp, 0, none⟩) N c0) (updF l (filled W x0 x3 y0 Y (i + 1)) (layF W W2 l l2 x y t m))) := Lib.hid (fun w6 hx6 => by
            have hx7 := EY.trans hx6
            refine ⟨((((ST.out.1.trans (Keep.ofExt hx7 (fun _ => False)) (fun _ _ h => h.elim)).set).set).set).set, ?_⟩
            have h := (ST.out.2.ext hx7).stored (qf + i) (z0, z1, z2, z3) (by rw [updF_len]; exact HIDX.out) HM9.out
            rw [Nat.add_mul] at h
            simp only [Nat.add_assoc] at h
            rw [← HLF.out, updF_set l _ _ (qf + i) HIDX.out] at h
            rwa [updF_congr (Q := filled W x0 x3 y0 Y (i + 1)) (fun k _ => by rw [← HQF.out.1]; exact filled_step (by have := HXD.out; omega) (by have := HXD.out; omega) k)] at h)
          clear hwy hC e0 e1 e2 e3 hb4 EY ST
          go_region_with (first
            | (go_at_call 46; refine (FP.out _).mono ?_; rintro e w' ⟨rfl, g9, rfl⟩)
            | (go_at_call 47; refine (BP.out _).mono ?_; rintro e w' ⟨rfl, g8, rfl⟩))
          all_goals (
            obtain ⟨wn, hwn⟩ : ∃ wn, ((((wy.setCell ⟨gp, qf * 4 + i * 4, none⟩ (.int .u8 (z0 : Int))).setCell ⟨gp, qf * 4 + (i * 4 + 1), none⟩ (.int .u8 (z1 : Int))).setCell ⟨gp, qf * 4 + (i * 4 + 2), none⟩ (.int .u8 (z2 : Int))).setCell ⟨gp, qf * 4 + (i * 4 + 3), none⟩ (.int .u8 (z3 : Int))) = wn := ⟨_, rfl⟩
            have SN := Lib.hid (SO.out wy (Ext.refl _))
            rw [hwn] at SN ⊢
            have EN : Ext wn ((wn.ext g9).ext g8) := ((Ext.refl wn).ext g9).ext g8
            have SM : Hid (Keep wq ((wn.ext g9).ext g8) (fun k => k = gp) ∧ OwnP .u8 40 (q + 3) ((wn.ext g9).ext g8) (.slice (some ⟨gp, 0, none⟩) N c0) (updF l (filled W x0 x3 y0 Y (i + 1)) (layF W W2 l l2 x y t m))) := Lib.hid ⟨SN.out.1.trans (Keep.ofExt EN (fun _ => False)) (fun _ _ h => h.elim), SN.out.2.ext EN⟩
            obtain ⟨wm, hwm⟩ : ∃ wm, (wn.ext g9).ext g8 = wm := ⟨_, rfl⟩
            rw [hwm] at SM ⊢
            clear hwn hwm EN SN SO k0 k1 k2 k3 hfz n0 n1 n2 n3
            go_wp2
            go_roundw
            case rel => exact ⟨i + 1, by omega, by go_num, SM⟩
            case measure => simp [intOf]; omega)
        · have hli' : ¬ (i : Int) < (D : Int) := by omega
          go_wp2
          go_roundw
          case rel => exact ⟨s + 1, by omega, by go_num, Lib.hid ⟨ST.out.1, by
            have := ST.out.2
            rwa [show i = x3 - x0 by have := HXD.out; omega, updF_congr (fun k _ => filled_row (by omega) (by have := HXD.out; omega) k), ← hY] at this⟩⟩
          case measure => simp [intOf]; omega
    · have hlt' : ¬ (j : Int) < (j1 : Int) := by omega
      have E := Lib.hid (ST.out.1.toExt EQ.out (fun k e => by have := HQ.out; omega))
      have O := Lib.hid (show OwnP .u8 40 (q + 3) wr (.slice (some ⟨gp, 0, none⟩) N c0) (layL W l W2 H2 l2 x y t m) by
        have := ST.out.2
        unfold layL
        rwa [updF_congr (Q := inL W W2 H2 x y) (fun k hk => by
          rw [HIN.out k (by have := HL.out; omega)]
          rw [show y0 + (j1 - j0) = Y by omega])] at this)
      clear ST
      go_wp2
      refine bodyPost_ret (v := .tuple #[.agg #[.int .i64 (W : Int), .int .i64 (H : Int), .slice (some ⟨gp, 0, none⟩) N c0], .int .i64 0]) (by simp [results, Try.results29, go_sem, r0, r1, r2, rf]) rfl ⟨_, rfl, ?_, ?_⟩
      · exact ((((O.out.set (by omega)).set (by omega)).set (by omega))).mono (by have := HQ.out; omega)
      · have := HQ.out
        exact (((E.out.setCell (by simp; omega) _).setCell (by simp; omega) _).setCell (by simp; omega) _)

end Go.Proofs.Ytncphiphgkjflaa
