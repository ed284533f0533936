import Derived.Test.YtncphiphgkjflaaIPts
namespace Go.Proofs.Ytncphiphgkjflaa
open Go.RowKit Go.Shelf
set_option linter.unusedVariables false
set_option linter.unusedSimpArgs false

/-- may two images be told apart pixel by pixel? -/
def diffOk (W H W' H' : Int) (l1 l2 : List Px) : Bool := rightI W H l1 && rightI W' H' l2 && decide (W = W' ∧ H = H')

set_option maxRecDepth 100000 in
set_option maxHeartbeats 6400000 in
theorem diff_no (W H W' H' : Int) (v1 v2 : Value) (l1 l2 : List Px) (w : World) (hW : -9223372036854775808 ≤ W ∧ W ≤ 9223372036854775807) (hH : -9223372036854775808 ≤ H ∧ H ≤ 9223372036854775807) (hW' : -9223372036854775808 ≤ W' ∧ W' ≤ 9223372036854775807) (hH' : -9223372036854775808 ≤ H' ∧ H' ≤ 9223372036854775807) (hl1 : Pix .u8 w v1 l1) (hl2 : Pix .u8 w v2 l2) (hno : diffOk W H W' H' l1 l2 = false) :
    Calls Try.prog 23 #[.agg #[.int .i64 W, .int .i64 H, v1], .agg #[.int .i64 W', .int .i64 H', v2]] w fun e w' => e = .returned (.tuple #[.agg #[.int .i64 0, .int .i64 0, .int .i64 0, .int .i64 0], .int .i64 30]) ∧ Ext w w' := by
  have P1 := Lib.hid hl1
  have P2 := Lib.hid hl2
  obtain ⟨X1, c1, rfl, hc1, hc1', _⟩ := hl1
  obtain ⟨X2, c2, rfl, hc2, hc2', _⟩ := hl2
  obtain ⟨N1, hN1⟩ : ∃ N, l1.length = N := ⟨_, rfl⟩
  obtain ⟨N2, hN2⟩ : ∃ N, l2.length = N := ⟨_, rfl⟩
  rw [hN1] at P1 hc1
  rw [hN2] at P2 hc2
  rw [hN1, hN2]
  have HN1 := Lib.hid hN1
  have HN2 := Lib.hid hN2
  clear hN1 hN2
  have CK1 := Lib.hid (fun wx (hx : Ext w wx) => check_any W H (.slice X1 N1 c1) l1 wx hW hH (P1.out.ext hx))
  have CK2 := Lib.hid (fun wx (hx : Ext w wx) => check_any W' H' (.slice X2 N2 c2) l2 wx hW' hH' (P2.out.ext hx))
  cases h1 : rightI W H l1 with
  | false =>
    rw [h1, show errB false = 30 from rfl] at CK1
    clear h1 hno
    go_enter Try.func23, Try.ntmps23
    go_wp2
    obtain ⟨wq, hwq⟩ : ∃ wq, ((w.alloc (.cells #[.int .i64 W, .int .i64 H, .slice X1 N1 c1] 24)).alloc (.cells #[.int .i64 W', .int .i64 H', .slice X2 N2 c2] 24)).alloc (.cells #[.int .i64 0, .int .i64 0, .int .i64 0, .int .i64 0] 26) = wq := ⟨_, rfl⟩
    obtain ⟨q, hq⟩ : ∃ q, w.heap.size = q := ⟨_, rfl⟩
    have EQ : Hid (Ext w wq) := Lib.hid (by rw [← hwq]; (repeat (first | exact Ext.refl _ | apply Ext.alloc | apply Ext.ext)))
    have i0 : wq.cell? ⟨q, 0, none⟩ = some (.int .i64 W) := by rw [← hwq, ← hq]; simp [go_sem]
    have i1 : wq.cell? ⟨q, 1, none⟩ = some (.int .i64 H) := by rw [← hwq, ← hq]; simp [go_sem]
    have i2 : wq.cell? ⟨q, 2, none⟩ = some (.slice X1 N1 c1) := by rw [← hwq, ← hq]; simp [go_sem]
    have j0 : wq.cell? ⟨q + 1, 0, none⟩ = some (.int .i64 W') := by rw [← hwq, ← hq]; simp [go_sem]
    have j1 : wq.cell? ⟨q + 1, 1, none⟩ = some (.int .i64 H') := by rw [← hwq, ← hq]; simp [go_sem]
    have j2 : wq.cell? ⟨q + 1, 2, none⟩ = some (.slice X2 N2 c2) := by rw [← hwq, ← hq]; simp [go_sem]
    have r0 : wq.cell? ⟨q + 2, 0, none⟩ = some (.int .i64 0) := by rw [← hwq, ← hq]; simp [go_sem]
    have r1 : wq.cell? ⟨q + 2, 1, none⟩ = some (.int .i64 0) := by rw [← hwq, ← hq]; simp [go_sem]
    have r2 : wq.cell? ⟨q + 2, 2, none⟩ = some (.int .i64 0) := by rw [← hwq, ← hq]; simp [go_sem]
    have r3 : wq.cell? ⟨q + 2, 3, none⟩ = some (.int .i64 0) := by rw [← hwq, ← hq]; simp [go_sem]
    have rf : ∀ j, wq.frozen? ⟨q + 2, j, none⟩ = false := fun j => by rw [← hwq, ← hq]; simp [go_sem]
    have hz : wq.heap.size = q + 3 := by rw [← hwq, ← hq]; simp
    rw [hwq, hq]
    have HQ := Lib.hid hq
    clear hwq hq
    have FC : Hid (∀ wr, Ext wq wr → (wr.cell? ⟨q, 0, none⟩ = some (.int .i64 W) ∧ wr.cell? ⟨q, 1, none⟩ = some (.int .i64 H) ∧ wr.cell? ⟨q, 2, none⟩ = some (.slice X1 N1 c1)) ∧ (wr.cell? ⟨q + 1, 0, none⟩ = some (.int .i64 W') ∧ wr.cell? ⟨q + 1, 1, none⟩ = some (.int .i64 H') ∧ wr.cell? ⟨q + 1, 2, none⟩ = some (.slice X2 N2 c2)) ∧ (wr.cell? ⟨q + 2, 0, none⟩ = some (.int .i64 0) ∧ wr.cell? ⟨q + 2, 1, none⟩ = some (.int .i64 0) ∧ wr.cell? ⟨q + 2, 2, none⟩ = some (.int .i64 0) ∧ wr.cell? ⟨q + 2, 3, none⟩ = some (.int .i64 0) ∧ ∀ j, wr.frozen? ⟨q + 2, j, none⟩ = false)) := Lib.hid (fun wr hk =>
      ⟨⟨(hk.cell (by omega)).trans i0, (hk.cell (by omega)).trans i1, (hk.cell (by omega)).trans i2⟩, ⟨(hk.cell (by omega)).trans j0, (hk.cell (by omega)).trans j1, (hk.cell (by omega)).trans j2⟩, ⟨(hk.cell (by omega)).trans r0, (hk.cell (by omega)).trans r1, (hk.cell (by omega)).trans r2, (hk.cell (by omega)).trans r3, fun j => (hk.frozen (by omega)).trans (rf j)⟩⟩)
    clear i0 i1 i2 j0 j1 j2 r0 r1 r2 r3 rf
    have k0 : ∀ g, (wq.ext g).cell? ⟨q, 0, none⟩ = some (.int .i64 W) := fun g => (FC.out _ ⟨g, rfl⟩).1.1
    have k1 : ∀ g, (wq.ext g).cell? ⟨q, 1, none⟩ = some (.int .i64 H) := fun g => (FC.out _ ⟨g, rfl⟩).1.2.1
    have k2 : ∀ g, (wq.ext g).cell? ⟨q, 2, none⟩ = some (.slice X1 N1 c1) := fun g => (FC.out _ ⟨g, rfl⟩).1.2.2
    have k3 : ∀ g, (wq.ext g).cell? ⟨q + 1, 0, none⟩ = some (.int .i64 W') := fun g => (FC.out _ ⟨g, rfl⟩).2.1.1
    have k4 : ∀ g, (wq.ext g).cell? ⟨q + 1, 1, none⟩ = some (.int .i64 H') := fun g => (FC.out _ ⟨g, rfl⟩).2.1.2.1
    have k5 : ∀ g, (wq.ext g).cell? ⟨q + 1, 2, none⟩ = some (.slice X2 N2 c2) := fun g => (FC.out _ ⟨g, rfl⟩).2.1.2.2
    refine region_flow 15 [10, 14, 19, 21] (fun t v => match t with | 10 => v = .int .i64 30 | 14 => v = .int .i64 30 | 19 => v = .agg #[.int .i64 0, .int .i64 0, .int .i64 W, .int .i64 H] | 21 => v = .agg #[.int .i64 0, .int .i64 0, .int .i64 W', .int .i64 H'] | _ => False) (fun t v w' => True) (by kernel_rfl) (by kernel_rfl) ?hq ?hu ?hR ?h
    case hq => intro t v h; split at h <;> simp_all
    case hu => intro t h; split at h <;> simp_all [undef]
    case hR => intros; trivial
    case h =>
      dsimp only [List.take, List.drop]
      repeat (first | (refine Flow.skip rfl ?_; simp only [Act.put, List.setIfInBounds_toArray, List.set_cons_zero, List.set_cons_succ]) | (refine Flow.plain rfl rfl ?_; go_big_quiet_step (fail); refine wpQuiet_nil ?_))
      refine Flow.call Try.call17 [.agg #[.int .i64 W, .int .i64 H, .slice X1 N1 c1]] rfl rfl rfl ?_ (fun wx hx hf => (CK1.out wx (EQ.out.trans hx)).mono ?_) ?_
      · exact ⟨_, rfl⟩
      · exact fun e w' ⟨h1, h2⟩ => ⟨_, h1, h2, rfl, trivial⟩
      rintro v rfl
      simp only [Act.put, List.setIfInBounds_toArray, List.set_cons_zero, List.set_cons_succ]
      repeat (first | (refine Flow.skip rfl ?_; simp only [Act.put, List.setIfInBounds_toArray, List.set_cons_zero, List.set_cons_succ]) | (refine Flow.plain rfl rfl ?_; go_big_quiet_step (fail); refine wpQuiet_nil ?_))
      refine Flow.nil fun w5 hx5 hf => ?_
      clear hf k0 k1 k2 k3 k4 k5
      obtain ⟨_, _, ⟨r0, r1, r2, r3, rf⟩⟩ := FC.out _ hx5
      have E5 := Lib.hid (EQ.out.trans hx5)
      clear hx5
      dsimp only [wpList, Exit.then]
      go_wp2
      refine bodyPost_ret (v := .tuple #[.agg #[.int .i64 0, .int .i64 0, .int .i64 0, .int .i64 0], .int .i64 30]) (by simp [results, Try.results23, go_sem, r0, r1, r2, r3, rf]) rfl ⟨rfl, ?_⟩
      have := HQ.out
      exact ((((E5.out.setCell (by simp; omega) _).setCell (by simp; omega) _).setCell (by simp; omega) _).setCell (by simp; omega) _)
  | true =>
    rw [h1, show errB true = 0 from rfl] at CK1
    cases h2 : rightI W' H' l2 with
    | false =>
      rw [h2, show errB false = 30 from rfl] at CK2
      clear h1 h2 hno
      go_enter Try.func23, Try.ntmps23
      go_wp2
      obtain ⟨wq, hwq⟩ : ∃ wq, ((w.alloc (.cells #[.int .i64 W, .int .i64 H, .slice X1 N1 c1] 24)).alloc (.cells #[.int .i64 W', .int .i64 H', .slice X2 N2 c2] 24)).alloc (.cells #[.int .i64 0, .int .i64 0, .int .i64 0, .int .i64 0] 26) = wq := ⟨_, rfl⟩
      obtain ⟨q, hq⟩ : ∃ q, w.heap.size = q := ⟨_, rfl⟩
      have EQ : Hid (Ext w wq) := Lib.hid (by rw [← hwq]; (repeat (first | exact Ext.refl _ | apply Ext.alloc | apply Ext.ext)))
      have i0 : wq.cell? ⟨q, 0, none⟩ = some (.int .i64 W) := by rw [← hwq, ← hq]; simp [go_sem]
      have i1 : wq.cell? ⟨q, 1, none⟩ = some (.int .i64 H) := by rw [← hwq, ← hq]; simp [go_sem]
      have i2 : wq.cell? ⟨q, 2, none⟩ = some (.slice X1 N1 c1) := by rw [← hwq, ← hq]; simp [go_sem]
      have j0 : wq.cell? ⟨q + 1, 0, none⟩ = some (.int .i64 W') := by rw [← hwq, ← hq]; simp [go_sem]
      have j1 : wq.cell? ⟨q + 1, 1, none⟩ = some (.int .i64 H') := by rw [← hwq, ← hq]; simp [go_sem]
      have j2 : wq.cell? ⟨q + 1, 2, none⟩ = some (.slice X2 N2 c2) := by rw [← hwq, ← hq]; simp [go_sem]
      have r0 : wq.cell? ⟨q + 2, 0, none⟩ = some (.int .i64 0) := by rw [← hwq, ← hq]; simp [go_sem]
      have r1 : wq.cell? ⟨q + 2, 1, none⟩ = some (.int .i64 0) := by rw [← hwq, ← hq]; simp [go_sem]
      have r2 : wq.cell? ⟨q + 2, 2, none⟩ = some (.int .i64 0) := by rw [← hwq, ← hq]; simp [go_sem]
      have r3 : wq.cell? ⟨q + 2, 3, none⟩ = some (.int .i64 0) := by rw [← hwq, ← hq]; simp [go_sem]
      have rf : ∀ j, wq.frozen? ⟨q + 2, j, none⟩ = false := fun j => by rw [← hwq, ← hq]; simp [go_sem]
      have hz : wq.heap.size = q + 3 := by rw [← hwq, ← hq]; simp
      rw [hwq, hq]
      have HQ := Lib.hid hq
      clear hwq hq
      have FC : Hid (∀ wr, Ext wq wr → (wr.cell? ⟨q, 0, none⟩ = some (.int .i64 W) ∧ wr.cell? ⟨q, 1, none⟩ = some (.int .i64 H) ∧ wr.cell? ⟨q, 2, none⟩ = some (.slice X1 N1 c1)) ∧ (wr.cell? ⟨q + 1, 0, none⟩ = some (.int .i64 W') ∧ wr.cell? ⟨q + 1, 1, none⟩ = some (.int .i64 H') ∧ wr.cell? ⟨q + 1, 2, none⟩ = some (.slice X2 N2 c2)) ∧ (wr.cell? ⟨q + 2, 0, none⟩ = some (.int .i64 0) ∧ wr.cell? ⟨q + 2, 1, none⟩ = some (.int .i64 0) ∧ wr.cell? ⟨q + 2, 2, none⟩ = some (.int .i64 0) ∧ wr.cell? ⟨q + 2, 3, none⟩ = some (.int .i64 0) ∧ ∀ j, wr.frozen? ⟨q + 2, j, none⟩ = false)) := Lib.hid (fun wr hk =>
        ⟨⟨(hk.cell (by omega)).trans i0, (hk.cell (by omega)).trans i1, (hk.cell (by omega)).trans i2⟩, ⟨(hk.cell (by omega)).trans j0, (hk.cell (by omega)).trans j1, (hk.cell (by omega)).trans j2⟩, ⟨(hk.cell (by omega)).trans r0, (hk.cell (by omega)).trans r1, (hk.cell (by omega)).trans r2, (hk.cell (by omega)).trans r3, fun j => (hk.frozen (by omega)).trans (rf j)⟩⟩)
      clear i0 i1 i2 j0 j1 j2 r0 r1 r2 r3 rf
      have k0 : ∀ g, (wq.ext g).cell? ⟨q, 0, none⟩ = some (.int .i64 W) := fun g => (FC.out _ ⟨g, rfl⟩).1.1
      have k1 : ∀ g, (wq.ext g).cell? ⟨q, 1, none⟩ = some (.int .i64 H) := fun g => (FC.out _ ⟨g, rfl⟩).1.2.1
      have k2 : ∀ g, (wq.ext g).cell? ⟨q, 2, none⟩ = some (.slice X1 N1 c1) := fun g => (FC.out _ ⟨g, rfl⟩).1.2.2
      have k3 : ∀ g, (wq.ext g).cell? ⟨q + 1, 0, none⟩ = some (.int .i64 W') := fun g => (FC.out _ ⟨g, rfl⟩).2.1.1
      have k4 : ∀ g, (wq.ext g).cell? ⟨q + 1, 1, none⟩ = some (.int .i64 H') := fun g => (FC.out _ ⟨g, rfl⟩).2.1.2.1
      have k5 : ∀ g, (wq.ext g).cell? ⟨q + 1, 2, none⟩ = some (.slice X2 N2 c2) := fun g => (FC.out _ ⟨g, rfl⟩).2.1.2.2
      refine region_flow 15 [10, 14, 19, 21] (fun t v => match t with | 10 => v = .int .i64 0 | 14 => v = .int .i64 30 | 19 => v = .agg #[.int .i64 0, .int .i64 0, .int .i64 W, .int .i64 H] | 21 => v = .agg #[.int .i64 0, .int .i64 0, .int .i64 W', .int .i64 H'] | _ => False) (fun t v w' => True) (by kernel_rfl) (by kernel_rfl) ?hq ?hu ?hR ?h
      case hq => intro t v h; split at h <;> simp_all
      case hu => intro t h; split at h <;> simp_all [undef]
      case hR => intros; trivial
      case h =>
        dsimp only [List.take, List.drop]
        repeat (first | (refine Flow.skip rfl ?_; simp only [Act.put, List.setIfInBounds_toArray, List.set_cons_zero, List.set_cons_succ]) | (refine Flow.plain rfl rfl ?_; go_big_quiet_step (fail); refine wpQuiet_nil ?_))
        refine Flow.call Try.call17 [.agg #[.int .i64 W, .int .i64 H, .slice X1 N1 c1]] rfl rfl rfl ?_ (fun wx hx hf => (CK1.out wx (EQ.out.trans hx)).mono ?_) ?_
        · exact ⟨_, rfl⟩
        · exact fun e w' ⟨h1, h2⟩ => ⟨_, h1, h2, rfl, trivial⟩
        rintro v rfl
        simp only [Act.put, List.setIfInBounds_toArray, List.set_cons_zero, List.set_cons_succ]
        repeat (first | (refine Flow.skip rfl ?_; simp only [Act.put, List.setIfInBounds_toArray, List.set_cons_zero, List.set_cons_succ]) | (refine Flow.plain rfl rfl ?_; go_big_quiet_step (fail); refine wpQuiet_nil ?_))
        refine Flow.call Try.call17 [.agg #[.int .i64 W', .int .i64 H', .slice X2 N2 c2]] rfl rfl rfl ?_ (fun wx hx hf => (CK2.out wx (EQ.out.trans hx)).mono ?_) ?_
        · exact ⟨_, rfl⟩
        · exact fun e w' ⟨h1, h2⟩ => ⟨_, h1, h2, rfl, trivial⟩
        rintro v rfl
        simp only [Act.put, List.setIfInBounds_toArray, List.set_cons_zero, List.set_cons_succ]
        repeat (first | (refine Flow.skip rfl ?_; simp only [Act.put, List.setIfInBounds_toArray, List.set_cons_zero, List.set_cons_succ]) | (refine Flow.plain rfl rfl ?_; go_big_quiet_step (fail); refine wpQuiet_nil ?_))
        refine Flow.nil fun w5 hx5 hf => ?_
        clear hf k0 k1 k2 k3 k4 k5
        obtain ⟨_, _, ⟨r0, r1, r2, r3, rf⟩⟩ := FC.out _ hx5
        have E5 := Lib.hid (EQ.out.trans hx5)
        clear hx5
        dsimp only [wpList, Exit.then]
        go_wp2
        refine bodyPost_ret (v := .tuple #[.agg #[.int .i64 0, .int .i64 0, .int .i64 0, .int .i64 0], .int .i64 30]) (by simp [results, Try.results23, go_sem, r0, r1, r2, r3, rf]) rfl ⟨rfl, ?_⟩
        have := HQ.out
        exact ((((E5.out.setCell (by simp; omega) _).setCell (by simp; omega) _).setCell (by simp; omega) _).setCell (by simp; omega) _)
    | true =>
      rw [h2, show errB true = 0 from rfl] at CK2
      have hne : ¬ (W = W' ∧ H = H') := by unfold diffOk at hno; rw [h1, h2] at hno; simpa using hno
      clear h1 h2 hno
      rcases (show (¬ W = W') ∨ (W = W' ∧ ¬ H = H') by omega) with hne1 | ⟨rfl, hne1⟩
      · clear hne
        go_enter Try.func23, Try.ntmps23
        go_wp2
        obtain ⟨wq, hwq⟩ : ∃ wq, ((w.alloc (.cells #[.int .i64 W, .int .i64 H, .slice X1 N1 c1] 24)).alloc (.cells #[.int .i64 W', .int .i64 H', .slice X2 N2 c2] 24)).alloc (.cells #[.int .i64 0, .int .i64 0, .int .i64 0, .int .i64 0] 26) = wq := ⟨_, rfl⟩
        obtain ⟨q, hq⟩ : ∃ q, w.heap.size = q := ⟨_, rfl⟩
        have EQ : Hid (Ext w wq) := Lib.hid (by rw [← hwq]; (repeat (first | exact Ext.refl _ | apply Ext.alloc | apply Ext.ext)))
        have i0 : wq.cell? ⟨q, 0, none⟩ = some (.int .i64 W) := by rw [← hwq, ← hq]; simp [go_sem]
        have i1 : wq.cell? ⟨q, 1, none⟩ = some (.int .i64 H) := by rw [← hwq, ← hq]; simp [go_sem]
        have i2 : wq.cell? ⟨q, 2, none⟩ = some (.slice X1 N1 c1) := by rw [← hwq, ← hq]; simp [go_sem]
        have j0 : wq.cell? ⟨q + 1, 0, none⟩ = some (.int .i64 W') := by rw [← hwq, ← hq]; simp [go_sem]
        have j1 : wq.cell? ⟨q + 1, 1, none⟩ = some (.int .i64 H') := by rw [← hwq, ← hq]; simp [go_sem]
        have j2 : wq.cell? ⟨q + 1, 2, none⟩ = some (.slice X2 N2 c2) := by rw [← hwq, ← hq]; simp [go_sem]
        have r0 : wq.cell? ⟨q + 2, 0, none⟩ = some (.int .i64 0) := by rw [← hwq, ← hq]; simp [go_sem]
        have r1 : wq.cell? ⟨q + 2, 1, none⟩ = some (.int .i64 0) := by rw [← hwq, ← hq]; simp [go_sem]
        have r2 : wq.cell? ⟨q + 2, 2, none⟩ = some (.int .i64 0) := by rw [← hwq, ← hq]; simp [go_sem]
        have r3 : wq.cell? ⟨q + 2, 3, none⟩ = some (.int .i64 0) := by rw [← hwq, ← hq]; simp [go_sem]
        have rf : ∀ j, wq.frozen? ⟨q + 2, j, none⟩ = false := fun j => by rw [← hwq, ← hq]; simp [go_sem]
        have hz : wq.heap.size = q + 3 := by rw [← hwq, ← hq]; simp
        rw [hwq, hq]
        have HQ := Lib.hid hq
        clear hwq hq
        have FC : Hid (∀ wr, Ext wq wr → (wr.cell? ⟨q, 0, none⟩ = some (.int .i64 W) ∧ wr.cell? ⟨q, 1, none⟩ = some (.int .i64 H) ∧ wr.cell? ⟨q, 2, none⟩ = some (.slice X1 N1 c1)) ∧ (wr.cell? ⟨q + 1, 0, none⟩ = some (.int .i64 W') ∧ wr.cell? ⟨q + 1, 1, none⟩ = some (.int .i64 H') ∧ wr.cell? ⟨q + 1, 2, none⟩ = some (.slice X2 N2 c2)) ∧ (wr.cell? ⟨q + 2, 0, none⟩ = some (.int .i64 0) ∧ wr.cell? ⟨q + 2, 1, none⟩ = some (.int .i64 0) ∧ wr.cell? ⟨q + 2, 2, none⟩ = some (.int .i64 0) ∧ wr.cell? ⟨q + 2, 3, none⟩ = some (.int .i64 0) ∧ ∀ j, wr.frozen? ⟨q + 2, j, none⟩ = false)) := Lib.hid (fun wr hk =>
          ⟨⟨(hk.cell (by omega)).trans i0, (hk.cell (by omega)).trans i1, (hk.cell (by omega)).trans i2⟩, ⟨(hk.cell (by omega)).trans j0, (hk.cell (by omega)).trans j1, (hk.cell (by omega)).trans j2⟩, ⟨(hk.cell (by omega)).trans r0, (hk.cell (by omega)).trans r1, (hk.cell (by omega)).trans r2, (hk.cell (by omega)).trans r3, fun j => (hk.frozen (by omega)).trans (rf j)⟩⟩)
        clear i0 i1 i2 j0 j1 j2 r0 r1 r2 r3 rf
        have k0 : ∀ g, (wq.ext g).cell? ⟨q, 0, none⟩ = some (.int .i64 W) := fun g => (FC.out _ ⟨g, rfl⟩).1.1
        have k1 : ∀ g, (wq.ext g).cell? ⟨q, 1, none⟩ = some (.int .i64 H) := fun g => (FC.out _ ⟨g, rfl⟩).1.2.1
        have k2 : ∀ g, (wq.ext g).cell? ⟨q, 2, none⟩ = some (.slice X1 N1 c1) := fun g => (FC.out _ ⟨g, rfl⟩).1.2.2
        have k3 : ∀ g, (wq.ext g).cell? ⟨q + 1, 0, none⟩ = some (.int .i64 W') := fun g => (FC.out _ ⟨g, rfl⟩).2.1.1
        have k4 : ∀ g, (wq.ext g).cell? ⟨q + 1, 1, none⟩ = some (.int .i64 H') := fun g => (FC.out _ ⟨g, rfl⟩).2.1.2.1
        have k5 : ∀ g, (wq.ext g).cell? ⟨q + 1, 2, none⟩ = some (.slice X2 N2 c2) := fun g => (FC.out _ ⟨g, rfl⟩).2.1.2.2
        refine region_flow 15 [10, 14, 19, 21] (fun t v => match t with | 10 => v = .int .i64 0 | 14 => v = .int .i64 0 | 19 => v = .agg #[.int .i64 0, .int .i64 0, .int .i64 W, .int .i64 H] | 21 => v = .agg #[.int .i64 0, .int .i64 0, .int .i64 W', .int .i64 H'] | _ => False) (fun t v w' => True) (by kernel_rfl) (by kernel_rfl) ?hq ?hu ?hR ?h
        case hq => intro t v h; split at h <;> simp_all
        case hu => intro t h; split at h <;> simp_all [undef]
        case hR => intros; trivial
        case h =>
          dsimp only [List.take, List.drop]
          repeat (first | (refine Flow.skip rfl ?_; simp only [Act.put, List.setIfInBounds_toArray, List.set_cons_zero, List.set_cons_succ]) | (refine Flow.plain rfl rfl ?_; go_big_quiet_step (fail); refine wpQuiet_nil ?_))
          refine Flow.call Try.call17 [.agg #[.int .i64 W, .int .i64 H, .slice X1 N1 c1]] rfl rfl rfl ?_ (fun wx hx hf => (CK1.out wx (EQ.out.trans hx)).mono ?_) ?_
          · exact ⟨_, rfl⟩
          · exact fun e w' ⟨h1, h2⟩ => ⟨_, h1, h2, rfl, trivial⟩
          rintro v rfl
          simp only [Act.put, List.setIfInBounds_toArray, List.set_cons_zero, List.set_cons_succ]
          repeat (first | (refine Flow.skip rfl ?_; simp only [Act.put, List.setIfInBounds_toArray, List.set_cons_zero, List.set_cons_succ]) | (refine Flow.plain rfl rfl ?_; go_big_quiet_step (fail); refine wpQuiet_nil ?_))
          refine Flow.call Try.call17 [.agg #[.int .i64 W', .int .i64 H', .slice X2 N2 c2]] rfl rfl rfl ?_ (fun wx hx hf => (CK2.out wx (EQ.out.trans hx)).mono ?_) ?_
          · exact ⟨_, rfl⟩
          · exact fun e w' ⟨h1, h2⟩ => ⟨_, h1, h2, rfl, trivial⟩
          rintro v rfl
          simp only [Act.put, List.setIfInBounds_toArray, List.set_cons_zero, List.set_cons_succ]
          repeat (first | (refine Flow.skip rfl ?_; simp only [Act.put, List.setIfInBounds_toArray, List.set_cons_zero, List.set_cons_succ]) | (refine Flow.plain rfl rfl ?_; go_big_quiet_step (fail); refine wpQuiet_nil ?_))
          refine Flow.call Try.call15 [.agg #[.int .i64 W, .int .i64 H, .slice X1 N1 c1]] rfl rfl rfl ?_ (fun wx hx hf => (box_any W H (.slice X1 N1 c1) wx).mono ?_) ?_
          · exact ⟨_, rfl⟩
          · exact fun e w' ⟨h1, h2⟩ => ⟨_, h1, h2, rfl, trivial⟩
          rintro v rfl
          simp only [Act.put, List.setIfInBounds_toArray, List.set_cons_zero, List.set_cons_succ]
          repeat (first | (refine Flow.skip rfl ?_; simp only [Act.put, List.setIfInBounds_toArray, List.set_cons_zero, List.set_cons_succ]) | (refine Flow.plain rfl rfl ?_; go_big_quiet_step (fail); refine wpQuiet_nil ?_))
          refine Flow.call Try.call15 [.agg #[.int .i64 W', .int .i64 H', .slice X2 N2 c2]] rfl rfl rfl ?_ (fun wx hx hf => (box_any W' H' (.slice X2 N2 c2) wx).mono ?_) ?_
          · exact ⟨_, rfl⟩
          · exact fun e w' ⟨h1, h2⟩ => ⟨_, h1, h2, rfl, trivial⟩
          rintro v rfl
          simp only [Act.put, List.setIfInBounds_toArray, List.set_cons_zero, List.set_cons_succ]
          repeat (first | (refine Flow.skip rfl ?_; simp only [Act.put, List.setIfInBounds_toArray, List.set_cons_zero, List.set_cons_succ]) | (refine Flow.plain rfl rfl ?_; go_big_quiet_step (fail); refine wpQuiet_nil ?_))
          refine Flow.nil fun w5 hx5 hf => ?_
          clear hf k0 k1 k2 k3 k4 k5
          obtain ⟨_, _, ⟨r0, r1, r2, r3, rf⟩⟩ := FC.out _ hx5
          have E5 := Lib.hid (EQ.out.trans hx5)
          clear hx5
          dsimp only [wpList, Exit.then]
          go_wp2
          refine bodyPost_ret (v := .tuple #[.agg #[.int .i64 0, .int .i64 0, .int .i64 0, .int .i64 0], .int .i64 30]) (by simp [results, Try.results23, go_sem, r0, r1, r2, r3, rf]) rfl ⟨rfl, ?_⟩
          have := HQ.out
          exact ((((E5.out.setCell (by simp; omega) _).setCell (by simp; omega) _).setCell (by simp; omega) _).setCell (by simp; omega) _)
      · clear hne
        go_enter Try.func23, Try.ntmps23
        go_wp2
        obtain ⟨wq, hwq⟩ : ∃ wq, ((w.alloc (.cells #[.int .i64 W, .int .i64 H, .slice X1 N1 c1] 24)).alloc (.cells #[.int .i64 W, .int .i64 H', .slice X2 N2 c2] 24)).alloc (.cells #[.int .i64 0, .int .i64 0, .int .i64 0, .int .i64 0] 26) = wq := ⟨_, rfl⟩
        obtain ⟨q, hq⟩ : ∃ q, w.heap.size = q := ⟨_, rfl⟩
        have EQ : Hid (Ext w wq) := Lib.hid (by rw [← hwq]; (repeat (first | exact Ext.refl _ | apply Ext.alloc | apply Ext.ext)))
        have i0 : wq.cell? ⟨q, 0, none⟩ = some (.int .i64 W) := by rw [← hwq, ← hq]; simp [go_sem]
        have i1 : wq.cell? ⟨q, 1, none⟩ = some (.int .i64 H) := by rw [← hwq, ← hq]; simp [go_sem]
        have i2 : wq.cell? ⟨q, 2, none⟩ = some (.slice X1 N1 c1) := by rw [← hwq, ← hq]; simp [go_sem]
        have j0 : wq.cell? ⟨q + 1, 0, none⟩ = some (.int .i64 W) := by rw [← hwq, ← hq]; simp [go_sem]
        have j1 : wq.cell? ⟨q + 1, 1, none⟩ = some (.int .i64 H') := by rw [← hwq, ← hq]; simp [go_sem]
        have j2 : wq.cell? ⟨q + 1, 2, none⟩ = some (.slice X2 N2 c2) := by rw [← hwq, ← hq]; simp [go_sem]
        have r0 : wq.cell? ⟨q + 2, 0, none⟩ = some (.int .i64 0) := by rw [← hwq, ← hq]; simp [go_sem]
        have r1 : wq.cell? ⟨q + 2, 1, none⟩ = some (.int .i64 0) := by rw [← hwq, ← hq]; simp [go_sem]
        have r2 : wq.cell? ⟨q + 2, 2, none⟩ = some (.int .i64 0) := by rw [← hwq, ← hq]; simp [go_sem]
        have r3 : wq.cell? ⟨q + 2, 3, none⟩ = some (.int .i64 0) := by rw [← hwq, ← hq]; simp [go_sem]
        have rf : ∀ j, wq.frozen? ⟨q + 2, j, none⟩ = false := fun j => by rw [← hwq, ← hq]; simp [go_sem]
        have hz : wq.heap.size = q + 3 := by rw [← hwq, ← hq]; simp
        rw [hwq, hq]
        have HQ := Lib.hid hq
        clear hwq hq
        have FC : Hid (∀ wr, Ext wq wr → (wr.cell? ⟨q, 0, none⟩ = some (.int .i64 W) ∧ wr.cell? ⟨q, 1, none⟩ = some (.int .i64 H) ∧ wr.cell? ⟨q, 2, none⟩ = some (.slice X1 N1 c1)) ∧ (wr.cell? ⟨q + 1, 0, none⟩ = some (.int .i64 W) ∧ wr.cell? ⟨q + 1, 1, none⟩ = some (.int .i64 H') ∧ wr.cell? ⟨q + 1, 2, none⟩ = some (.slice X2 N2 c2)) ∧ (wr.cell? ⟨q + 2, 0, none⟩ = some (.int .i64 0) ∧ wr.cell? ⟨q + 2, 1, none⟩ = some (.int .i64 0) ∧ wr.cell? ⟨q + 2, 2, none⟩ = some (.int .i64 0) ∧ wr.cell? ⟨q + 2, 3, none⟩ = some (.int .i64 0) ∧ ∀ j, wr.frozen? ⟨q + 2, j, none⟩ = false)) := Lib.hid (fun wr hk =>
          ⟨⟨(hk.cell (by omega)).trans i0, (hk.cell (by omega)).trans i1, (hk.cell (by omega)).trans i2⟩, ⟨(hk.cell (by omega)).trans j0, (hk.cell (by omega)).trans j1, (hk.cell (by omega)).trans j2⟩, ⟨(hk.cell (by omega)).trans r0, (hk.cell (by omega)).trans r1, (hk.cell (by omega)).trans r2, (hk.cell (by omega)).trans r3, fun j => (hk.frozen (by omega)).trans (rf j)⟩⟩)
        clear i0 i1 i2 j0 j1 j2 r0 r1 r2 r3 rf
        have k0 : ∀ g, (wq.ext g).cell? ⟨q, 0, none⟩ = some (.int .i64 W) := fun g => (FC.out _ ⟨g, rfl⟩).1.1
        have k1 : ∀ g, (wq.ext g).cell? ⟨q, 1, none⟩ = some (.int .i64 H) := fun g => (FC.out _ ⟨g, rfl⟩).1.2.1
        have k2 : ∀ g, (wq.ext g).cell? ⟨q, 2, none⟩ = some (.slice X1 N1 c1) := fun g => (FC.out _ ⟨g, rfl⟩).1.2.2
        have k3 : ∀ g, (wq.ext g).cell? ⟨q + 1, 0, none⟩ = some (.int .i64 W) := fun g => (FC.out _ ⟨g, rfl⟩).2.1.1
        have k4 : ∀ g, (wq.ext g).cell? ⟨q + 1, 1, none⟩ = some (.int .i64 H') := fun g => (FC.out _ ⟨g, rfl⟩).2.1.2.1
        have k5 : ∀ g, (wq.ext g).cell? ⟨q + 1, 2, none⟩ = some (.slice X2 N2 c2) := fun g => (FC.out _ ⟨g, rfl⟩).2.1.2.2
        refine region_flow 15 [10, 14, 19, 21] (fun t v => match t with | 10 => v = .int .i64 0 | 14 => v = .int .i64 0 | 19 => v = .agg #[.int .i64 0, .int .i64 0, .int .i64 W, .int .i64 H] | 21 => v = .agg #[.int .i64 0, .int .i64 0, .int .i64 W, .int .i64 H'] | _ => False) (fun t v w' => True) (by kernel_rfl) (by kernel_rfl) ?hq ?hu ?hR ?h
        case hq => intro t v h; split at h <;> simp_all
        case hu => intro t h; split at h <;> simp_all [undef]
        case hR => intros; trivial
        case h =>
          dsimp only [List.take, List.drop]
          repeat (first | (refine Flow.skip rfl ?_; simp only [Act.put, List.setIfInBounds_toArray, List.set_cons_zero, List.set_cons_succ]) | (refine Flow.plain rfl rfl ?_; go_big_quiet_step (fail); refine wpQuiet_nil ?_))
          refine Flow.call Try.call17 [.agg #[.int .i64 W, .int .i64 H, .slice X1 N1 c1]] rfl rfl rfl ?_ (fun wx hx hf => (CK1.out wx (EQ.out.trans hx)).mono ?_) ?_
          · exact ⟨_, rfl⟩
          · exact fun e w' ⟨h1, h2⟩ => ⟨_, h1, h2, rfl, trivial⟩
          rintro v rfl
          simp only [Act.put, List.setIfInBounds_toArray, List.set_cons_zero, List.set_cons_succ]
          repeat (first | (refine Flow.skip rfl ?_; simp only [Act.put, List.setIfInBounds_toArray, List.set_cons_zero, List.set_cons_succ]) | (refine Flow.plain rfl rfl ?_; go_big_quiet_step (fail); refine wpQuiet_nil ?_))
          refine Flow.call Try.call17 [.agg #[.int .i64 W, .int .i64 H', .slice X2 N2 c2]] rfl rfl rfl ?_ (fun wx hx hf => (CK2.out wx (EQ.out.trans hx)).mono ?_) ?_
          · exact ⟨_, rfl⟩
          · exact fun e w' ⟨h1, h2⟩ => ⟨_, h1, h2, rfl, trivial⟩
          rintro v rfl
          simp only [Act.put, List.setIfInBounds_toArray, List.set_cons_zero, List.set_cons_succ]
          repeat (first | (refine Flow.skip rfl ?_; simp only [Act.put, List.setIfInBounds_toArray, List.set_cons_zero, List.set_cons_succ]) | (refine Flow.plain rfl rfl ?_; go_big_quiet_step (fail); refine wpQuiet_nil ?_))
          refine Flow.call Try.call15 [.agg #[.int .i64 W, .int .i64 H, .slice X1 N1 c1]] rfl rfl rfl ?_ (fun wx hx hf => (box_any W H (.slice X1 N1 c1) wx).mono ?_) ?_
          · exact ⟨_, rfl⟩
          · exact fun e w' ⟨h1, h2⟩ => ⟨_, h1, h2, rfl, trivial⟩
          rintro v rfl
          simp only [Act.put, List.setIfInBounds_toArray, List.set_cons_zero, List.set_cons_succ]
          repeat (first | (refine Flow.skip rfl ?_; simp only [Act.put, List.setIfInBounds_toArray, List.set_cons_zero, List.set_cons_succ]) | (refine Flow.plain rfl rfl ?_; go_big_quiet_step (fail); refine wpQuiet_nil ?_))
          refine Flow.call Try.call15 [.agg #[.int .i64 W, .int .i64 H', .slice X2 N2 c2]] rfl rfl rfl ?_ (fun wx hx hf => (box_any W H' (.slice X2 N2 c2) wx).mono ?_) ?_
          · exact ⟨_, rfl⟩
          · exact fun e w' ⟨h1, h2⟩ => ⟨_, h1, h2, rfl, trivial⟩
          rintro v rfl
          simp only [Act.put, List.setIfInBounds_toArray, List.set_cons_zero, List.set_cons_succ]
          repeat (first | (refine Flow.skip rfl ?_; simp only [Act.put, List.setIfInBounds_toArray, List.set_cons_zero, List.set_cons_succ]) | (refine Flow.plain rfl rfl ?_; go_big_quiet_step (fail); refine wpQuiet_nil ?_))
          refine Flow.nil fun w5 hx5 hf => ?_
          clear hf k0 k1 k2 k3 k4 k5
          obtain ⟨_, _, ⟨r0, r1, r2, r3, rf⟩⟩ := FC.out _ hx5
          have E5 := Lib.hid (EQ.out.trans hx5)
          clear hx5
          dsimp only [wpList, Exit.then]
          go_wp2
          refine bodyPost_ret (v := .tuple #[.agg #[.int .i64 0, .int .i64 0, .int .i64 0, .int .i64 0], .int .i64 30]) (by simp [results, Try.results23, go_sem, r0, r1, r2, r3, rf]) rfl ⟨rfl, ?_⟩
          have := HQ.out
          exact ((((E5.out.setCell (by simp; omega) _).setCell (by simp; omega) _).setCell (by simp; omega) _).setCell (by simp; omega) _)

end Go.Proofs.Ytncphiphgkjflaa
