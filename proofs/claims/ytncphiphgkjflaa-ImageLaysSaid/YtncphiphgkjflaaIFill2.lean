import Derived.Test.YtncphiphgkjflaaIFill
namespace Go.Proofs.Ytncphiphgkjflaa
open Go.RowKit Go.Shelf
set_option linter.unusedVariables false
set_option linter.unusedSimpArgs false

theorem OwnP.form {κ : IntKind} {T : TypeId} {base : Nat} {w : World} {v : Value} {l : List Px} (h : OwnP κ T base w v l) (hn : 0 < l.length) :
    ∃ g c, v = .slice (some ⟨g, 0, none⟩) l.length c ∧ base ≤ g ∧ g < w.heap.size ∧ l.length ≤ c ∧ c ≤ 9223372036854775807 ∧ (∀ i p, l.getD i noP = p → i < l.length → w.cell? ⟨g, i * 4, none⟩ = some (.int κ (p.1 : Int)) ∧ w.cell? ⟨g, i * 4 + 1, none⟩ = some (.int κ (p.2.1 : Int)) ∧ w.cell? ⟨g, i * 4 + 2, none⟩ = some (.int κ (p.2.2.1 : Int)) ∧ w.cell? ⟨g, i * 4 + 3, none⟩ = some (.int κ (p.2.2.2 : Int))) ∧ ∀ j, w.frozen? ⟨g, j, none⟩ = false := by
  obtain ⟨g, c, rfl⟩ := ownsRow_succ (k := l.length - 1) (by rw [show l.length - 1 + 1 = l.length by omega]; exact h.1)
  have hl : l.length - 1 + 1 = l.length := by omega
  rw [hl] at h ⊢
  have P := h.pix
  obtain ⟨A', c', e, h2, h3, _⟩ := P
  simp only [Value.slice.injEq] at e
  have hlt := h.1.lt g rfl
  refine ⟨g, c, rfl, hlt.1, hlt.2, by omega, by omega, fun i p hp hi => ?_, fun j => h.1.frozenAt j⟩
  have hc : ∀ j, j < 4 → w.cell? ⟨g, i * 4 + j, none⟩ = (cellsP κ p)[j]? := fun j hj => by
    rw [h.1.cellAt _ (by omega), flat4 κ l i j hi hj, hp]
  exact ⟨hc 0 (by omega), hc 1 (by omega), hc 2 (by omega), hc 3 (by omega)⟩

theorem Keep.set {a b : World} {g i : Nat} {u : Value} (h : Keep a b (fun k => k = g)) : Keep a (b.setCell ⟨g, i, none⟩ u) (fun k => k = g) := h.trans Keep.setCell (fun _ _ e => e)

/-- what Fill has filled: rows y0 .. y-1, and i pixels of row y -/
def filled (W x0 x1 y0 y i : Nat) (k : Nat) : Bool := decide ((x0 ≤ k % W ∧ k % W < x1 ∧ y0 ≤ k / W ∧ k / W < y) ∨ (k / W = y ∧ x0 ≤ k % W ∧ k % W < x0 + i))

theorem filled_step {W x0 x1 y0 y i : Nat} (hW : x0 + i < W) (hi : x0 + i < x1) (k : Nat) : (filled W x0 x1 y0 y i k || decide (k = y * W + x0 + i)) = filled W x0 x1 y0 y (i + 1) k := by
  have h1 : (y * W + x0 + i) % W = x0 + i := by rw [Nat.add_assoc, Nat.add_comm, Nat.add_mul_mod_self_right, Nat.mod_eq_of_lt hW]
  have h2 : (y * W + x0 + i) / W = y := by rw [Nat.add_assoc, Nat.add_comm, Nat.add_mul_div_right _ _ (by omega), Nat.div_eq_of_lt hW]; omega
  have h3 : k = y * W + x0 + i ↔ (k % W = x0 + i ∧ k / W = y) := by
    constructor
    · rintro rfl; exact ⟨h1, h2⟩
    · rintro ⟨e1, e2⟩
      have := Nat.div_add_mod k W
      rw [e1, e2, Nat.mul_comm] at this
      omega
  unfold filled
  rw [← Bool.decide_or, decide_eq_decide, h3]
  generalize k % W = a
  generalize k / W = b
  omega

theorem filled_row {W x0 x1 y0 y : Nat} (hy : y0 ≤ y) (hx : x0 ≤ x1) (k : Nat) : filled W x0 x1 y0 y (x1 - x0) k = filled W x0 x1 y0 (y + 1) 0 k := by
  unfold filled
  rw [decide_eq_decide]
  generalize k % W = a
  generalize k / W = b
  omega

set_option maxRecDepth 100000 in
set_option maxHeartbeats 6400000 in
theorem fill_yes (W H : Nat) (v : Value) (l : List Px) (a0 b0 a1 b1 : Int) (r g u a : Nat) (w : World) (hl : Pix .u8 w v l) (hr : rightI W H l = true) (hn : l.length ≤ 1000000) (hpb : r ≤ 255 ∧ g ≤ 255 ∧ u ≤ 255 ∧ a ≤ 255) (hp : rightP (r, g, u, a) = true) :
    Calls Try.prog 18 #[.agg #[.int .i64 (W : Int), .int .i64 (H : Int), v], .agg #[.int .i64 a0, .int .i64 b0, .int .i64 a1, .int .i64 b1], .agg #[.int .u8 (r : Int), .int .u8 (g : Int), .int .u8 (u : Int), .int .u8 (a : Int)]] w fun e w' =>
      ∃ v', e = .returned (.tuple #[.agg #[.int .i64 (W : Int), .int .i64 (H : Int), v'], .int .i64 0]) ∧ OwnP .u8 40 w.heap.size w' v' (fillL W l (a0, b0, a1, b1) (r, g, u, a)) ∧ Ext w w' := by
  have hside : sideB W = true ∧ sideB H = true ∧ l.length = W * H := by
    unfold rightI at hr
    simp only [Bool.and_eq_true, decide_eq_true_eq] at hr
    exact ⟨hr.1.1.1, hr.1.1.2, by have := hr.1.2; exact_mod_cast this⟩
  have hWb : 1 ≤ W ∧ W ≤ 256 := by have := hside.1; simp [sideB] at this; omega
  have hHb : 1 ≤ H ∧ H ≤ 256 := by have := hside.2.1; simp [sideB] at this; omega
  have CK := Lib.hid (fun wx (hx : Ext w wx) => check_any W H v l wx (by omega) (by omega) (hl.ext hx))
  rw [hr] at CK
  have CR := Lib.hid (fun wx => colorRight_any r g u a wx hpb)
  rw [hp] at CR
  have CC := Lib.hid (fun wx (hx : Ext w wx) => copied_any W H v l wx (hl.ext hx) hn)
  have P := Lib.hid hl
  obtain ⟨X, c, rfl, hc1, hc2, _⟩ := hl
  have HN := Lib.hid hside.2.2
  obtain ⟨N, hN⟩ : ∃ N, l.length = N := ⟨_, rfl⟩
  have HNN := Lib.hid hN
  rw [hN] at P hn hc1 CK CC
  rw [hN]
  clear hN hr hside hp
  have HPB := Lib.hid hpb
  clear hpb
  go_enter Try.func18, Try.ntmps18
  go_wp2_with fail
  refine (CK.out _ (by ((repeat (first | exact Ext.refl _ | apply Ext.alloc | apply Ext.ext))))).mono ?_
  rintro e w1 ⟨rfl, g1, rfl⟩
  rw [show errB true = 0 from rfl]
  go_wp2_with fail
  refine (CR.out _).mono ?_
  rintro e w1 ⟨rfl, g2, rfl⟩
  go_wp2_with fail
  refine (CC.out _ (by ((repeat (first | exact Ext.refl _ | apply Ext.alloc | apply Ext.ext))))).mono ?_
  rintro e w1 ⟨v', rfl, hO, g3, rfl⟩
  obtain ⟨gp, c0, e0, hgb, hgs, hc0, hc1', _, _⟩ := hO.form (by rw [HNN.out, HN.out.symm.trans HNN.out |>.symm]; exact Nat.mul_pos (by omega) (by omega))
  rw [HNN.out] at e0 hc0
  subst e0
  have O1 := Lib.hid hO
  clear hO
  obtain ⟨x0, y0, x1, y1, hm, hx1, hy1, hnz, hin⟩ := meet_nat W H (a0, b0, a1, b1) (by omega) (by omega)
  have MB := Lib.hid (fun wx => meet_any a0 b0 a1 b1 0 0 (W : Int) (H : Int) wx)
  rw [hm] at MB
  simp only [boxV] at MB
  have BX := Lib.hid (fun wx => box_any (W : Int) (H : Int) (.slice X N c) wx)
  have HIN := Lib.hid hin
  clear hm hin
  go_wp2
  obtain ⟨wq, hwq⟩ : ∃ wq, (((((((w.alloc (.cells #[.int .i64 (W : Int), .int .i64 (H : Int), .slice X N c] 24)).alloc (.cells #[.int .i64 a0, .int .i64 b0, .int .i64 a1, .int .i64 b1] 26)).alloc (.cells #[.int .u8 (r : Int), .int .u8 (g : Int), .int .u8 (u : Int), .int .u8 (a : Int)] 40)).alloc (.cells #[.int .i64 0, .int .i64 0, .slice none 0 0] 24)).ext g1).ext g2).ext g3).alloc (.cells #[.int .i64 (W : Int), .int .i64 (H : Int), .slice (some ⟨gp, 0, none⟩) N c0] 24) = wq := ⟨_, rfl⟩
  have EQ : Ext w wq := by rw [← hwq]; (repeat (first | exact Ext.refl _ | apply Ext.alloc | apply Ext.ext))
  have OQ := O1.out.ext ((Ext.refl _).alloc (.cells #[.int .i64 (W : Int), .int .i64 (H : Int), .slice (some ⟨gp, 0, none⟩) N c0] 24))
  rw [hwq] at OQ ⊢
  simp only [World.size_alloc, ext_size] at hgb hgs OQ
  obtain ⟨q, hq⟩ : ∃ q, w.heap.size = q := ⟨_, rfl⟩
  obtain ⟨G, hG⟩ : ∃ G, w.heap.size + (4 + (g1.blocks.size + (g2.blocks.size + g3.blocks.size))) = G := ⟨_, rfl⟩
  have i0 : wq.cell? ⟨q, 0, none⟩ = some (.int .i64 (W : Int)) := by rw [← hwq, ← hq]; simp [go_sem]
  have i1 : wq.cell? ⟨q, 1, none⟩ = some (.int .i64 (H : Int)) := by rw [← hwq, ← hq]; simp [go_sem]
  have i2 : wq.cell? ⟨q, 2, none⟩ = some (.slice X N c) := by rw [← hwq, ← hq]; simp [go_sem]
  have j0 : wq.cell? ⟨q + 1, 0, none⟩ = some (.int .i64 a0) := by rw [← hwq, ← hq]; simp [go_sem]
  have j1 : wq.cell? ⟨q + 1, 1, none⟩ = some (.int .i64 b0) := by rw [← hwq, ← hq]; simp [go_sem]
  have j2 : wq.cell? ⟨q + 1, 2, none⟩ = some (.int .i64 a1) := by rw [← hwq, ← hq]; simp [go_sem]
  have j3 : wq.cell? ⟨q + 1, 3, none⟩ = some (.int .i64 b1) := by rw [← hwq, ← hq]; simp [go_sem]
  have jf : ∀ j, wq.frozen? ⟨q + 1, j, none⟩ = false := fun j => by rw [← hwq, ← hq]; simp [go_sem]
  have p0 : wq.cell? ⟨q + 2, 0, none⟩ = some (.int .u8 (r : Int)) := by rw [← hwq, ← hq]; simp [go_sem]
  have p1 : wq.cell? ⟨q + 2, 1, none⟩ = some (.int .u8 (g : Int)) := by rw [← hwq, ← hq]; simp [go_sem]
  have p2 : wq.cell? ⟨q + 2, 2, none⟩ = some (.int .u8 (u : Int)) := by rw [← hwq, ← hq]; simp [go_sem]
  have p3 : wq.cell? ⟨q + 2, 3, none⟩ = some (.int .u8 (a : Int)) := by rw [← hwq, ← hq]; simp [go_sem]
  have r0 : wq.cell? ⟨q + 3, 0, none⟩ = some (.int .i64 0) := by rw [← hwq, ← hq]; simp [go_sem]
  have r1 : wq.cell? ⟨q + 3, 1, none⟩ = some (.int .i64 0) := by rw [← hwq, ← hq]; simp [go_sem]
  have r2 : wq.cell? ⟨q + 3, 2, none⟩ = some (.slice none 0 0) := by rw [← hwq, ← hq]; simp [go_sem]
  have rf : ∀ j, wq.frozen? ⟨q + 3, j, none⟩ = false := fun j => by rw [← hwq, ← hq]; simp [go_sem]
  have o0 : wq.cell? ⟨G, 0, none⟩ = some (.int .i64 (W : Int)) := by rw [← hwq, ← hG]; simp [go_sem]
  have o1 : wq.cell? ⟨G, 1, none⟩ = some (.int .i64 (H : Int)) := by rw [← hwq, ← hG]; simp [go_sem]
  have o2 : wq.cell? ⟨G, 2, none⟩ = some (.slice (some ⟨gp, 0, none⟩) N c0) := by rw [← hwq, ← hG]; simp [go_sem]
  have hGs : G < wq.heap.size := by rw [← hwq, ← hG]; simp only [World.size_alloc, ext_size]; omega
  have hgp : q + 4 ≤ gp ∧ gp < G := by
    simp only [Nat.add_assoc] at hgb hgs
    omega
  have hqG : q + 4 ≤ G := by omega
  rw [hG, hq]
  replace OQ := OQ.mono (b' := q + 4) (by omega)
  have EQ' : q ≤ w.heap.size := by omega
  have OQ := Lib.hid OQ
  have EQ := Lib.hid EQ
  have HQ := Lib.hid hq
  have HXY := Lib.hid hnz
  clear hwq hgb hgs hG O1 hq hnz
  have hx : ∀ g, Ext wq (wq.ext g) := fun g => ⟨g, rfl⟩
  have i0' : ∀ g, (wq.ext g).cell? ⟨q, 0, none⟩ = some (.int .i64 (W : Int)) := fun g => ((hx g).cell (by omega)).trans i0
  have i1' : ∀ g, (wq.ext g).cell? ⟨q, 1, none⟩ = some (.int .i64 (H : Int)) := fun g => ((hx g).cell (by omega)).trans i1
  have i2' : ∀ g, (wq.ext g).cell? ⟨q, 2, none⟩ = some (.slice X N c) := fun g => ((hx g).cell (by omega)).trans i2
  have j0' : ∀ g, (wq.ext g).cell? ⟨q + 1, 0, none⟩ = some (.int .i64 a0) := fun g => ((hx g).cell (by omega)).trans j0
  have j1' : ∀ g, (wq.ext g).cell? ⟨q + 1, 1, none⟩ = some (.int .i64 b0) := fun g => ((hx g).cell (by omega)).trans j1
  have j2' : ∀ g, (wq.ext g).cell? ⟨q + 1, 2, none⟩ = some (.int .i64 a1) := fun g => ((hx g).cell (by omega)).trans j2
  have j3' : ∀ g, (wq.ext g).cell? ⟨q + 1, 3, none⟩ = some (.int .i64 b1) := fun g => ((hx g).cell (by omega)).trans j3
  clear hx i0 i1 i2
  refine region_flow 4 [25, 26] (fun t v => match t with | 25 => v = .agg #[.int .i64 0, .int .i64 0, .int .i64 (W : Int), .int .i64 (H : Int)] | 26 => v = .agg #[.int .i64 (x0 : Int), .int .i64 (y0 : Int), .int .i64 (x1 : Int), .int .i64 (y1 : Int)] | _ => False) (fun t v w' => True) (by kernel_rfl) (by kernel_rfl) ?hq ?hu ?hR ?h
  case hq => intro t v h; split at h <;> simp_all
  case hu => intro t h; split at h <;> simp_all [undef]
  case hR => intros; trivial
  case h =>
    dsimp only [List.take, List.drop]
    repeat (refine Flow.plain rfl rfl ?_; go_big_quiet_step (fail); refine wpQuiet_nil ?_)
    refine Flow.call Try.call15 [.agg #[.int .i64 (W : Int), .int .i64 (H : Int), .slice X N c]] rfl rfl rfl ?_ (fun wx hx hf => (BX.out wx).mono ?_) ?_
    · exact ⟨_, rfl⟩
    · exact fun e w' ⟨h1, h2⟩ => ⟨_, h1, h2, rfl, trivial⟩
    rintro v rfl
    simp only [Act.put, List.setIfInBounds_toArray, List.set_cons_zero, List.set_cons_succ]
    refine Flow.call Try.call35 [.agg #[.int .i64 a0, .int .i64 b0, .int .i64 a1, .int .i64 b1], .agg #[.int .i64 0, .int .i64 0, .int .i64 (W : Int), .int .i64 (H : Int)]] rfl rfl rfl ?_ (fun wx hx hf => (MB.out wx).mono ?_) ?_
    · exact ⟨_, rfl⟩
    · exact fun e w' ⟨h1, h2⟩ => ⟨_, h1, h2, rfl, trivial⟩
    rintro v rfl
    simp only [Act.put, List.setIfInBounds_toArray, List.set_cons_zero, List.set_cons_succ]
    refine Flow.nil fun w5 hx5 hf => ?_
    clear hf i0' i1' i2' j0' j1' j2' j3'
    have J0 := (hx5.cell (by omega)).trans j0
    have J1 := (hx5.cell (by omega)).trans j1
    have J2 := (hx5.cell (by omega)).trans j2
    have J3 := (hx5.cell (by omega)).trans j3
    have JF := fun j => (hx5.frozen (i := j) (by omega)).trans (jf j)
    have O5 := Lib.hid ((OQ.out.ext hx5))
    have E5 := Lib.hid (EQ.out.trans hx5)
    have X5 := Lib.hid hx5
    have hz5 : wq.heap.size ≤ w5.heap.size := hx5.size
    clear hx5 j0 j1 j2 j3 jf
    go_wp2
    obtain ⟨Wb, hWb'⟩ : ∃ Wb, (((w5.setCell ⟨q + 1, 0, none⟩ (.int .i64 (x0 : Int))).setCell ⟨q + 1, 1, none⟩ (.int .i64 (y0 : Int))).setCell ⟨q + 1, 2, none⟩ (.int .i64 (x1 : Int))).setCell ⟨q + 1, 3, none⟩ (.int .i64 (y1 : Int)) = Wb := ⟨_, rfl⟩
    rw [hWb']
    have KB : Keep w5 Wb (fun k => k = q + 1) := by rw [← hWb']; exact (((Keep.refl _ _).set.set).set).set
    have m0 : Wb.cell? ⟨q + 1, 0, none⟩ = some (.int .i64 (x0 : Int)) := by rw [← hWb']; simp [go_sem, J0]
    have m1 : Wb.cell? ⟨q + 1, 1, none⟩ = some (.int .i64 (y0 : Int)) := by rw [← hWb']; simp [go_sem, J1]
    have m2 : Wb.cell? ⟨q + 1, 2, none⟩ = some (.int .i64 (x1 : Int)) := by rw [← hWb']; simp [go_sem, J2]
    have m3 : Wb.cell? ⟨q + 1, 3, none⟩ = some (.int .i64 (y1 : Int)) := by rw [← hWb']; simp [go_sem, J3]
    have cw : ∀ k j, k < wq.heap.size → k ≠ q + 1 → Wb.cell? ⟨k, j, none⟩ = wq.cell? ⟨k, j, none⟩ := fun k j h1 h2 => (KB.cell (by omega) h2).trans (X5.out.cell h1)
    have fw : ∀ k j, k < wq.heap.size → k ≠ q + 1 → Wb.frozen? ⟨k, j, none⟩ = wq.frozen? ⟨k, j, none⟩ := fun k j h1 h2 => (KB.frozen (by omega) h2).trans (X5.out.frozen h1)
    replace p0 := (cw _ 0 (by omega) (by omega)).trans p0
    replace p1 := (cw _ 1 (by omega) (by omega)).trans p1
    replace p2 := (cw _ 2 (by omega) (by omega)).trans p2
    replace p3 := (cw _ 3 (by omega) (by omega)).trans p3
    replace r0 := (cw _ 0 (by omega) (by omega)).trans r0
    replace r1 := (cw _ 1 (by omega) (by omega)).trans r1
    replace r2 := (cw _ 2 (by omega) (by omega)).trans r2
    replace rf := fun j => (fw _ j (by omega) (by omega)).trans (rf j)
    replace o0 := (cw _ 0 hGs (by omega)).trans o0
    replace o1 := (cw _ 1 hGs (by omega)).trans o1
    replace o2 := (cw _ 2 hGs (by omega)).trans o2
    have hzb : G < Wb.heap.size := by have := KB.size; omega
    have EB := Lib.hid (KB.toExt E5.out (fun k e => by have := HQ.out; omega))
    have OB : Hid (OwnP .u8 40 (q + 4) Wb (.slice (some ⟨gp, 0, none⟩) N c0) l) := Lib.hid (by rw [← hWb']; exact (((O5.out.set (by omega)).set (by omega)).set (by omega)).set (by omega))
    clear cw fw KB hWb' J0 J1 J2 J3 JF O5 E5 X5 hz5 OQ EQ hGs
    have FC : Hid (∀ wr, Keep Wb wr (fun k => k = gp) → (wr.cell? ⟨q + 1, 0, none⟩ = some (.int .i64 (x0 : Int)) ∧ wr.cell? ⟨q + 1, 2, none⟩ = some (.int .i64 (x1 : Int)) ∧ wr.cell? ⟨q + 1, 3, none⟩ = some (.int .i64 (y1 : Int))) ∧ (wr.cell? ⟨q + 2, 0, none⟩ = some (.int .u8 (r : Int)) ∧ wr.cell? ⟨q + 2, 1, none⟩ = some (.int .u8 (g : Int)) ∧ wr.cell? ⟨q + 2, 2, none⟩ = some (.int .u8 (u : Int)) ∧ wr.cell? ⟨q + 2, 3, none⟩ = some (.int .u8 (a : Int))) ∧ (wr.cell? ⟨q + 3, 0, none⟩ = some (.int .i64 0) ∧ wr.cell? ⟨q + 3, 1, none⟩ = some (.int .i64 0) ∧ wr.cell? ⟨q + 3, 2, none⟩ = some (.slice none 0 0) ∧ ∀ j, wr.frozen? ⟨q + 3, j, none⟩ = false) ∧ (wr.cell? ⟨G, 0, none⟩ = some (.int .i64 (W : Int)) ∧ wr.cell? ⟨G, 1, none⟩ = some (.int .i64 (H : Int)) ∧ wr.cell? ⟨G, 2, none⟩ = some (.slice (some ⟨gp, 0, none⟩) N c0))) := Lib.hid (fun wr hk =>
      ⟨⟨(hk.cell (by omega) (by omega)).trans m0, (hk.cell (by omega) (by omega)).trans m2, (hk.cell (by omega) (by omega)).trans m3⟩, ⟨(hk.cell (by omega) (by omega)).trans p0, (hk.cell (by omega) (by omega)).trans p1, (hk.cell (by omega) (by omega)).trans p2, (hk.cell (by omega) (by omega)).trans p3⟩, ⟨(hk.cell (by omega) (by omega)).trans r0, (hk.cell (by omega) (by omega)).trans r1, (hk.cell (by omega) (by omega)).trans r2, fun j => (hk.frozen (by omega) (by omega)).trans (rf j)⟩, ⟨(hk.cell (by omega) (by omega)).trans o0, (hk.cell (by omega) (by omega)).trans o1, (hk.cell (by omega) (by omega)).trans o2⟩⟩)
    clear m0 m1 m2 m3 p0 p1 p2 p3 r0 r1 r2 rf o0 o1 o2
    go_loopw [9] (fun t9 wr => ∃ y : Nat, y0 ≤ y ∧ y ≤ y1 ∧ t9 = .int .i64 (y : Int) ∧ Hid (Keep Wb wr (fun k => k = gp) ∧ OwnP .u8 40 (q + 4) wr (.slice (some ⟨gp, 0, none⟩) N c0) (upd l (filled W x0 x1 y0 y 0) (r, g, u, a)))) (fun t9 _ => y1 - (intOf t9).toNat)
    case atStart =>
      have hyy : y0 ≤ y1 := by have := HXY.out; omega
      refine ⟨y0, Nat.le_refl _, hyy, rfl, Lib.hid ⟨Keep.refl _ _, ?_⟩⟩
      rw [upd_none (fun k hk => by unfold filled; simp)]
      exact OB.out
    case round =>
      obtain ⟨y, hy0, hy1', rfl, ST⟩ := hrel
      obtain ⟨⟨m0, m2, m3⟩, ⟨p0, p1, p2, p3⟩, ⟨r0, r1, r2, rf⟩, ⟨o0, o1, o2⟩⟩ := FC.out _ ST.out.1
      by_cases hlt : y < y1
      · have hlt' : (y : Int) < (y1 : Int) := by omega
        have hxx : x0 < x1 := by have := HXY.out; omega
        have hNW : y * W + x1 ≤ N := by
          have h1 := HN.out
          rw [HNN.out] at h1
          rw [h1, Nat.mul_comm W H]
          have : (y + 1) * W ≤ H * W := Nat.mul_le_mul_right _ (by omega)
          rw [Nat.add_mul] at this
          omega
        have RW := Lib.hid (fun wx => row_any W y x0 x1 gp 0 N c0 (H : Int) wx (by omega) hNW hc0 hc1' (by omega) (by omega))
        obtain ⟨d, hd⟩ : ∃ d, x1 - x0 = d := ⟨_, rfl⟩
        obtain ⟨qf, hqf⟩ : ∃ qf, y * W + x0 = qf := ⟨_, rfl⟩
        rw [Nat.zero_add] at RW
        simp only [hd, hqf] at RW
        have hdb : d ≤ 256 := by omega
        have HD := Lib.hid hd
        have HQF := Lib.hid hqf
        have HNW := Lib.hid hNW
        clear hd hqf hNW r0 r1 r2 rf
        go_wp2_with fail
        refine (RW.out _).mono ?_
        rintro e w6 ⟨rfl, g6, rfl⟩
        go_wp2
        have KI := Lib.hid (ST.out.1.trans (Keep.ofExt (show Ext wr (wr.ext g6) from ⟨g6, rfl⟩) (fun _ => False)) (fun _ _ h => h.elim))
        have OI := Lib.hid (ST.out.2.ext (show Ext wr (wr.ext g6) from ⟨g6, rfl⟩))
        obtain ⟨wi0, hwi0⟩ : ∃ wi0, wr.ext g6 = wi0 := ⟨_, rfl⟩
        rw [hwi0] at KI OI ⊢
        clear hwi0 m0 m2 m3 p0 p1 p2 p3 o0 o1 o2 ST
        go_loopw [44] (fun t44 wi => ∃ i : Nat, i ≤ d ∧ t44 = .int .i64 (i : Int) ∧ Hid (Keep Wb wi (fun k => k = gp) ∧ OwnP .u8 40 (q + 4) wi (.slice (some ⟨gp, 0, none⟩) N c0) (upd l (filled W x0 x1 y0 y i) (r, g, u, a)))) (fun t44 _ => d - (intOf t44).toNat)
        case atStart => exact ⟨0, by omega, rfl, Lib.hid ⟨KI.out, OI.out⟩⟩
        case round =>
          obtain ⟨i, hid', rfl, ST⟩ := hrel
          obtain ⟨⟨m0, m2, m3⟩, ⟨p0, p1, p2, p3⟩, _, ⟨o0, o1, o2⟩⟩ := FC.out _ ST.out.1
          by_cases hli : i < d
          · have hli' : (i : Int) < (d : Int) := by omega
            have hidx : qf + i < l.length := by have := HNN.out; have := HNW.out; have := HD.out; have := HQF.out; omega
            have hul : (upd l (filled W x0 x1 y0 y i) (r, g, u, a)).length = l.length := upd_len _ _ _
            obtain ⟨g', c', e', _, hgw, _, _, hcell, hfz⟩ := ST.out.2.form (by omega)
            simp only [Value.slice.injEq, Option.some.injEq, Addr.mk.injEq, and_true] at e'
            obtain ⟨rfl, _, _⟩ := e'
            obtain ⟨k0, k1, k2, k3⟩ := hcell (qf + i) _ rfl (by omega)
            rw [Nat.add_mul] at k0 k1 k2 k3
            simp only [Nat.add_assoc] at k0 k1 k2 k3
            have SO : Hid (Keep Wb ((((wr.setCell ⟨gp, qf * 4 + i * 4, none⟩ (.int .u8 (r : Int))).setCell ⟨gp, qf * 4 + (i * 4 + 1), none⟩ (.int .u8 (g : Int))).setCell ⟨gp, qf * 4 + (i * 4 + 2), none⟩ (.int .u8 (u : Int))).setCell ⟨gp, qf * 4 + (i * 4 + 3), none⟩ (.int .u8 (a : Int))) (fun k => k = gp) ∧
                OwnP .u8 40 (q + 4) ((((wr.setCell ⟨gp, qf * 4 + i * 4, none⟩ (.int .u8 (r : Int))).setCell ⟨gp, qf * 4 + (i * 4 + 1), none⟩ (.int .u8 (g : Int))).setCell ⟨gp, qf * 4 + (i * 4 + 2), none⟩ (.int .u8 (u : Int))).setCell ⟨gp, qf * 4 + (i * 4 + 3), none⟩ (.int .u8 (a : Int))) (.slice (some ⟨gp, 0, none⟩) N c0) (upd l (filled W x0 x1 y0 y (i + 1)) (r, g, u, a))) := Lib.hid (by
              refine ⟨(((ST.out.1.set).set).set).set, ?_⟩
              have h := ST.out.2.stored (qf + i) (r, g, u, a) (by omega) HPB.out
              rw [Nat.add_mul] at h
              simp only [Nat.add_assoc] at h
              rw [upd_set l _ _ (qf + i) hidx] at h
              rwa [upd_congr (Q := filled W x0 x1 y0 y (i + 1)) (fun k _ => by rw [← HQF.out]; exact filled_step (by have := HD.out; omega) (by have := HD.out; omega) k)] at h)
            clear hcell hul hidx ST
            go_wp2
            go_roundw
            case rel => exact ⟨i + 1, by omega, by go_num, SO⟩
            case measure => simp [intOf]; omega
          · have hli' : ¬ (i : Int) < (d : Int) := by omega
            go_wp2
            go_roundw
            case rel => exact ⟨y + 1, by omega, by omega, by go_num, Lib.hid ⟨ST.out.1, by
              have := ST.out.2
              rwa [show i = d by omega, ← HD.out, upd_congr (fun k _ => filled_row hy0 (by omega) k)] at this⟩⟩
            case measure => simp [intOf]; omega
      · have hlt' : ¬ (y : Int) < (y1 : Int) := by omega
        have E := Lib.hid (ST.out.1.toExt EB.out (fun k e => by have := HQ.out; omega))
        have O := Lib.hid (show OwnP .u8 40 (q + 4) wr (.slice (some ⟨gp, 0, none⟩) N c0) (fillL W l (a0, b0, a1, b1) (r, g, u, a)) by
          have := ST.out.2
          unfold fillL
          rwa [upd_congr (Q := inBox W (a0, b0, a1, b1)) (fun k hk => by
            rw [HIN.out k (by have := HN.out; omega)]
            unfold filled
            rw [← Bool.decide_and, decide_eq_decide]
            have : y = y1 := by omega
            subst this
            generalize k % W = x
            generalize k / W = z
            omega)] at this)
        clear ST
        go_wp2
        refine bodyPost_ret (v := .tuple #[.agg #[.int .i64 (W : Int), .int .i64 (H : Int), .slice (some ⟨gp, 0, none⟩) N c0], .int .i64 0]) (by simp [results, Try.results18, go_sem, r0, r1, r2, rf]) rfl ⟨_, rfl, ?_, ?_⟩
        · exact ((((O.out.set (by omega)).set (by omega)).set (by omega))).mono (by have := HQ.out; omega)
        · have := HQ.out
          exact (((E.out.setCell (by simp; omega) _).setCell (by simp; omega) _).setCell (by simp; omega) _)
end Go.Proofs.Ytncphiphgkjflaa
