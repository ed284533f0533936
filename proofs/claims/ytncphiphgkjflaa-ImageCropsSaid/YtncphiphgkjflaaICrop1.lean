import Derived.Test.YtncphiphgkjflaaICrop
namespace Go.Proofs.Ytncphiphgkjflaa
open Go.RowKit Go.Shelf
set_option linter.unusedVariables false
set_option linter.unusedSimpArgs false

def inside (W H : Int) (a0 b0 a1 b1 : Int) : Bool := decide (0 ≤ a0 ∧ 0 ≤ b0 ∧ a1 ≤ W ∧ b1 ≤ H ∧ a0 < a1 ∧ b0 < b1)

set_option maxRecDepth 100000 in
set_option maxHeartbeats 6400000 in
theorem crop_no (W H : Int) (v : Value) (l : List Px) (a0 b0 a1 b1 : Int) (w : World) (hW : -9223372036854775808 ≤ W ∧ W ≤ 9223372036854775807) (hH : -9223372036854775808 ≤ H ∧ H ≤ 9223372036854775807) (hl : Pix .u8 w v l) (hno : (rightI W H l && inside W H a0 b0 a1 b1) = false) :
    Calls Try.prog 13 #[.agg #[.int .i64 W, .int .i64 H, v], .agg #[.int .i64 a0, .int .i64 b0, .int .i64 a1, .int .i64 b1]] w fun e w' => e = .returned (.tuple #[.agg #[.int .i64 0, .int .i64 0, .slice none 0 0], .int .i64 30]) ∧ Ext w w' := by
  have P := Lib.hid hl
  obtain ⟨X, c, rfl, hc1, hc2, _⟩ := hl
  obtain ⟨N, hN⟩ : ∃ N, l.length = N := ⟨_, rfl⟩
  rw [hN] at P hc1
  rw [hN]
  have HN := Lib.hid hN
  clear hN
  have CK := Lib.hid (fun wx (hx : Ext w wx) => check_any W H (.slice X N c) l wx hW hH (P.out.ext hx))
  have EM := Lib.hid (fun wx => emptyBox_any a0 b0 a1 b1 wx)
  have MB := Lib.hid (fun wx => meet_any a0 b0 a1 b1 0 0 W H wx)
  cases h1 : rightI W H l with
  | false =>
    rw [h1, show errB false = 30 from rfl] at CK
    clear h1 hno
    go_enter Try.func13, Try.ntmps13
    go_wp2
    obtain ⟨wq, hwq⟩ : ∃ wq, ((w.alloc (.cells #[.int .i64 W, .int .i64 H, .slice X N c] 24)).alloc (.cells #[.int .i64 a0, .int .i64 b0, .int .i64 a1, .int .i64 b1] 26)).alloc (.cells #[.int .i64 0, .int .i64 0, .slice none 0 0] 24) = wq := ⟨_, rfl⟩
    obtain ⟨q, hq⟩ : ∃ q, w.heap.size = q := ⟨_, rfl⟩
    have EQ : Hid (Ext w wq) := Lib.hid (by rw [← hwq]; (repeat (first | exact Ext.refl _ | apply Ext.alloc | apply Ext.ext)))
    have i0 : wq.cell? ⟨q, 0, none⟩ = some (.int .i64 W) := by rw [← hwq, ← hq]; simp [go_sem]
    have i1 : wq.cell? ⟨q, 1, none⟩ = some (.int .i64 H) := by rw [← hwq, ← hq]; simp [go_sem]
    have i2 : wq.cell? ⟨q, 2, none⟩ = some (.slice X N c) := by rw [← hwq, ← hq]; simp [go_sem]
    have j0 : wq.cell? ⟨q + 1, 0, none⟩ = some (.int .i64 a0) := by rw [← hwq, ← hq]; simp [go_sem]
    have j1 : wq.cell? ⟨q + 1, 1, none⟩ = some (.int .i64 b0) := by rw [← hwq, ← hq]; simp [go_sem]
    have j2 : wq.cell? ⟨q + 1, 2, none⟩ = some (.int .i64 a1) := by rw [← hwq, ← hq]; simp [go_sem]
    have j3 : wq.cell? ⟨q + 1, 3, none⟩ = some (.int .i64 b1) := by rw [← hwq, ← hq]; simp [go_sem]
    have r0 : wq.cell? ⟨q + 2, 0, none⟩ = some (.int .i64 0) := by rw [← hwq, ← hq]; simp [go_sem]
    have r1 : wq.cell? ⟨q + 2, 1, none⟩ = some (.int .i64 0) := by rw [← hwq, ← hq]; simp [go_sem]
    have r2 : wq.cell? ⟨q + 2, 2, none⟩ = some (.slice none 0 0) := by rw [← hwq, ← hq]; simp [go_sem]
    have rf : ∀ j, wq.frozen? ⟨q + 2, j, none⟩ = false := fun j => by rw [← hwq, ← hq]; simp [go_sem]
    have hz : wq.heap.size = q + 3 := by rw [← hwq, ← hq]; simp
    rw [hwq, hq]
    have HQ := Lib.hid hq
    clear hwq hq
    have FC : Hid (∀ wr, Ext wq wr → (wr.cell? ⟨q, 0, none⟩ = some (.int .i64 W) ∧ wr.cell? ⟨q, 1, none⟩ = some (.int .i64 H) ∧ wr.cell? ⟨q, 2, none⟩ = some (.slice X N c)) ∧ (wr.cell? ⟨q + 1, 0, none⟩ = some (.int .i64 a0) ∧ wr.cell? ⟨q + 1, 1, none⟩ = some (.int .i64 b0) ∧ wr.cell? ⟨q + 1, 2, none⟩ = some (.int .i64 a1) ∧ wr.cell? ⟨q + 1, 3, none⟩ = some (.int .i64 b1)) ∧ (wr.cell? ⟨q + 2, 0, none⟩ = some (.int .i64 0) ∧ wr.cell? ⟨q + 2, 1, none⟩ = some (.int .i64 0) ∧ wr.cell? ⟨q + 2, 2, none⟩ = some (.slice none 0 0) ∧ ∀ j, wr.frozen? ⟨q + 2, j, none⟩ = false)) := Lib.hid (fun wr hk =>
      ⟨⟨(hk.cell (by omega)).trans i0, (hk.cell (by omega)).trans i1, (hk.cell (by omega)).trans i2⟩, ⟨(hk.cell (by omega)).trans j0, (hk.cell (by omega)).trans j1, (hk.cell (by omega)).trans j2, (hk.cell (by omega)).trans j3⟩, ⟨(hk.cell (by omega)).trans r0, (hk.cell (by omega)).trans r1, (hk.cell (by omega)).trans r2, fun j => (hk.frozen (by omega)).trans (rf j)⟩⟩)
    clear i0 i1 i2 j0 j1 j2 j3 r0 r1 r2 rf
    have k0 : ∀ g, (wq.ext g).cell? ⟨q, 0, none⟩ = some (.int .i64 W) := fun g => (FC.out _ ⟨g, rfl⟩).1.1
    have k1 : ∀ g, (wq.ext g).cell? ⟨q, 1, none⟩ = some (.int .i64 H) := fun g => (FC.out _ ⟨g, rfl⟩).1.2.1
    have k2 : ∀ g, (wq.ext g).cell? ⟨q, 2, none⟩ = some (.slice X N c) := fun g => (FC.out _ ⟨g, rfl⟩).1.2.2
    have k3 : ∀ g, (wq.ext g).cell? ⟨q + 1, 0, none⟩ = some (.int .i64 a0) := fun g => (FC.out _ ⟨g, rfl⟩).2.1.1
    have k4 : ∀ g, (wq.ext g).cell? ⟨q + 1, 1, none⟩ = some (.int .i64 b0) := fun g => (FC.out _ ⟨g, rfl⟩).2.1.2.1
    have k5 : ∀ g, (wq.ext g).cell? ⟨q + 1, 2, none⟩ = some (.int .i64 a1) := fun g => (FC.out _ ⟨g, rfl⟩).2.1.2.2.1
    have k6 : ∀ g, (wq.ext g).cell? ⟨q + 1, 3, none⟩ = some (.int .i64 b1) := fun g => (FC.out _ ⟨g, rfl⟩).2.1.2.2.2
    refine region_flow 15 [9, 13, 18, 19] (fun t v => match t with | 9 => v = .int .i64 30 | 13 => v = .bool true | 18 => v = .agg #[.int .i64 0, .int .i64 0, .int .i64 W, .int .i64 H] | 19 => v = .agg #[.int .i64 a0, .int .i64 b0, .int .i64 a1, .int .i64 b1] | _ => False) (fun t v w' => True) (by kernel_rfl) (by kernel_rfl) ?hq ?hu ?hR ?h
    case hq => intro t v h; split at h <;> simp_all
    case hu => intro t h; split at h <;> simp_all [undef]
    case hR => intros; trivial
    case h =>
      dsimp only [List.take, List.drop]
      repeat (first | (refine Flow.skip rfl ?_; simp only [Act.put, List.setIfInBounds_toArray, List.set_cons_zero, List.set_cons_succ]) | (refine Flow.plain rfl rfl ?_; go_big_quiet_step (fail); refine wpQuiet_nil ?_))
      refine Flow.call Try.call17 [.agg #[.int .i64 W, .int .i64 H, .slice X N c]] rfl rfl rfl ?_ (fun wx hx hf => (CK.out wx (EQ.out.trans hx)).mono ?_) ?_
      · exact ⟨_, rfl⟩
      · exact fun e w' ⟨h1, h2⟩ => ⟨_, h1, h2, rfl, trivial⟩
      rintro v rfl
      simp only [Act.put, List.setIfInBounds_toArray, List.set_cons_zero, List.set_cons_succ]
      repeat (first | (refine Flow.skip rfl ?_; simp only [Act.put, List.setIfInBounds_toArray, List.set_cons_zero, List.set_cons_succ]) | (refine Flow.plain rfl rfl ?_; go_big_quiet_step (fail); refine wpQuiet_nil ?_))
      refine Flow.nil fun w5 hx5 hf => ?_
      clear hf k0 k1 k2 k3 k4 k5 k6
      obtain ⟨_, _, ⟨r0, r1, r2, rf⟩⟩ := FC.out _ hx5
      have E5 := Lib.hid (EQ.out.trans hx5)
      clear hx5
      dsimp only [wpList, Exit.then]
      go_wp2
      refine bodyPost_ret (v := .tuple #[.agg #[.int .i64 0, .int .i64 0, .slice none 0 0], .int .i64 30]) (by simp [results, Try.results13, go_sem, r0, r1, r2, rf]) rfl ⟨rfl, ?_⟩
      have := HQ.out
      exact (((E5.out.setCell (by simp; omega) _).setCell (by simp; omega) _).setCell (by simp; omega) _)
  | true =>
    rw [h1, show errB true = 0 from rfl] at CK
    have hin : ¬ (0 ≤ a0 ∧ 0 ≤ b0 ∧ a1 ≤ W ∧ b1 ≤ H ∧ a0 < a1 ∧ b0 < b1) := by rw [h1] at hno; unfold inside at hno; simpa using hno
    cases h2 : (decide (a1 ≤ a0) || decide (b1 ≤ b0)) with
    | true =>
      rw [h2] at EM
      clear h1 h2 hno hin
      go_enter Try.func13, Try.ntmps13
      go_wp2
      obtain ⟨wq, hwq⟩ : ∃ wq, ((w.alloc (.cells #[.int .i64 W, .int .i64 H, .slice X N c] 24)).alloc (.cells #[.int .i64 a0, .int .i64 b0, .int .i64 a1, .int .i64 b1] 26)).alloc (.cells #[.int .i64 0, .int .i64 0, .slice none 0 0] 24) = wq := ⟨_, rfl⟩
      obtain ⟨q, hq⟩ : ∃ q, w.heap.size = q := ⟨_, rfl⟩
      have EQ : Hid (Ext w wq) := Lib.hid (by rw [← hwq]; (repeat (first | exact Ext.refl _ | apply Ext.alloc | apply Ext.ext)))
      have i0 : wq.cell? ⟨q, 0, none⟩ = some (.int .i64 W) := by rw [← hwq, ← hq]; simp [go_sem]
      have i1 : wq.cell? ⟨q, 1, none⟩ = some (.int .i64 H) := by rw [← hwq, ← hq]; simp [go_sem]
      have i2 : wq.cell? ⟨q, 2, none⟩ = some (.slice X N c) := by rw [← hwq, ← hq]; simp [go_sem]
      have j0 : wq.cell? ⟨q + 1, 0, none⟩ = some (.int .i64 a0) := by rw [← hwq, ← hq]; simp [go_sem]
      have j1 : wq.cell? ⟨q + 1, 1, none⟩ = some (.int .i64 b0) := by rw [← hwq, ← hq]; simp [go_sem]
      have j2 : wq.cell? ⟨q + 1, 2, none⟩ = some (.int .i64 a1) := by rw [← hwq, ← hq]; simp [go_sem]
      have j3 : wq.cell? ⟨q + 1, 3, none⟩ = some (.int .i64 b1) := by rw [← hwq, ← hq]; simp [go_sem]
      have r0 : wq.cell? ⟨q + 2, 0, none⟩ = some (.int .i64 0) := by rw [← hwq, ← hq]; simp [go_sem]
      have r1 : wq.cell? ⟨q + 2, 1, none⟩ = some (.int .i64 0) := by rw [← hwq, ← hq]; simp [go_sem]
      have r2 : wq.cell? ⟨q + 2, 2, none⟩ = some (.slice none 0 0) := by rw [← hwq, ← hq]; simp [go_sem]
      have rf : ∀ j, wq.frozen? ⟨q + 2, j, none⟩ = false := fun j => by rw [← hwq, ← hq]; simp [go_sem]
      have hz : wq.heap.size = q + 3 := by rw [← hwq, ← hq]; simp
      rw [hwq, hq]
      have HQ := Lib.hid hq
      clear hwq hq
      have FC : Hid (∀ wr, Ext wq wr → (wr.cell? ⟨q, 0, none⟩ = some (.int .i64 W) ∧ wr.cell? ⟨q, 1, none⟩ = some (.int .i64 H) ∧ wr.cell? ⟨q, 2, none⟩ = some (.slice X N c)) ∧ (wr.cell? ⟨q + 1, 0, none⟩ = some (.int .i64 a0) ∧ wr.cell? ⟨q + 1, 1, none⟩ = some (.int .i64 b0) ∧ wr.cell? ⟨q + 1, 2, none⟩ = some (.int .i64 a1) ∧ wr.cell? ⟨q + 1, 3, none⟩ = some (.int .i64 b1)) ∧ (wr.cell? ⟨q + 2, 0, none⟩ = some (.int .i64 0) ∧ wr.cell? ⟨q + 2, 1, none⟩ = some (.int .i64 0) ∧ wr.cell? ⟨q + 2, 2, none⟩ = some (.slice none 0 0) ∧ ∀ j, wr.frozen? ⟨q + 2, j, none⟩ = false)) := Lib.hid (fun wr hk =>
        ⟨⟨(hk.cell (by omega)).trans i0, (hk.cell (by omega)).trans i1, (hk.cell (by omega)).trans i2⟩, ⟨(hk.cell (by omega)).trans j0, (hk.cell (by omega)).trans j1, (hk.cell (by omega)).trans j2, (hk.cell (by omega)).trans j3⟩, ⟨(hk.cell (by omega)).trans r0, (hk.cell (by omega)).trans r1, (hk.cell (by omega)).trans r2, fun j => (hk.frozen (by omega)).trans (rf j)⟩⟩)
      clear i0 i1 i2 j0 j1 j2 j3 r0 r1 r2 rf
      have k0 : ∀ g, (wq.ext g).cell? ⟨q, 0, none⟩ = some (.int .i64 W) := fun g => (FC.out _ ⟨g, rfl⟩).1.1
      have k1 : ∀ g, (wq.ext g).cell? ⟨q, 1, none⟩ = some (.int .i64 H) := fun g => (FC.out _ ⟨g, rfl⟩).1.2.1
      have k2 : ∀ g, (wq.ext g).cell? ⟨q, 2, none⟩ = some (.slice X N c) := fun g => (FC.out _ ⟨g, rfl⟩).1.2.2
      have k3 : ∀ g, (wq.ext g).cell? ⟨q + 1, 0, none⟩ = some (.int .i64 a0) := fun g => (FC.out _ ⟨g, rfl⟩).2.1.1
      have k4 : ∀ g, (wq.ext g).cell? ⟨q + 1, 1, none⟩ = some (.int .i64 b0) := fun g => (FC.out _ ⟨g, rfl⟩).2.1.2.1
      have k5 : ∀ g, (wq.ext g).cell? ⟨q + 1, 2, none⟩ = some (.int .i64 a1) := fun g => (FC.out _ ⟨g, rfl⟩).2.1.2.2.1
      have k6 : ∀ g, (wq.ext g).cell? ⟨q + 1, 3, none⟩ = some (.int .i64 b1) := fun g => (FC.out _ ⟨g, rfl⟩).2.1.2.2.2
      refine region_flow 15 [9, 13, 18, 19] (fun t v => match t with | 9 => v = .int .i64 0 | 13 => v = .bool true | 18 => v = .agg #[.int .i64 0, .int .i64 0, .int .i64 W, .int .i64 H] | 19 => v = .agg #[.int .i64 a0, .int .i64 b0, .int .i64 a1, .int .i64 b1] | _ => False) (fun t v w' => True) (by kernel_rfl) (by kernel_rfl) ?hq ?hu ?hR ?h
      case hq => intro t v h; split at h <;> simp_all
      case hu => intro t h; split at h <;> simp_all [undef]
      case hR => intros; trivial
      case h =>
        dsimp only [List.take, List.drop]
        repeat (first | (refine Flow.skip rfl ?_; simp only [Act.put, List.setIfInBounds_toArray, List.set_cons_zero, List.set_cons_succ]) | (refine Flow.plain rfl rfl ?_; go_big_quiet_step (fail); refine wpQuiet_nil ?_))
        refine Flow.call Try.call17 [.agg #[.int .i64 W, .int .i64 H, .slice X N c]] rfl rfl rfl ?_ (fun wx hx hf => (CK.out wx (EQ.out.trans hx)).mono ?_) ?_
        · exact ⟨_, rfl⟩
        · exact fun e w' ⟨h1, h2⟩ => ⟨_, h1, h2, rfl, trivial⟩
        rintro v rfl
        simp only [Act.put, List.setIfInBounds_toArray, List.set_cons_zero, List.set_cons_succ]
        repeat (first | (refine Flow.skip rfl ?_; simp only [Act.put, List.setIfInBounds_toArray, List.set_cons_zero, List.set_cons_succ]) | (refine Flow.plain rfl rfl ?_; go_big_quiet_step (fail); refine wpQuiet_nil ?_))
        refine Flow.call Try.call34 [.agg #[.int .i64 a0, .int .i64 b0, .int .i64 a1, .int .i64 b1]] rfl rfl rfl ?_ (fun wx hx hf => (EM.out wx).mono ?_) ?_
        · exact ⟨_, rfl⟩
        · exact fun e w' ⟨h1, h2⟩ => ⟨_, h1, h2, rfl, trivial⟩
        rintro v rfl
        simp only [Act.put, List.setIfInBounds_toArray, List.set_cons_zero, List.set_cons_succ]
        repeat (first | (refine Flow.skip rfl ?_; simp only [Act.put, List.setIfInBounds_toArray, List.set_cons_zero, List.set_cons_succ]) | (refine Flow.plain rfl rfl ?_; go_big_quiet_step (fail); refine wpQuiet_nil ?_))
        refine Flow.nil fun w5 hx5 hf => ?_
        clear hf k0 k1 k2 k3 k4 k5 k6
        obtain ⟨_, _, ⟨r0, r1, r2, rf⟩⟩ := FC.out _ hx5
        have E5 := Lib.hid (EQ.out.trans hx5)
        clear hx5
        dsimp only [wpList, Exit.then]
        go_wp2
        refine bodyPost_ret (v := .tuple #[.agg #[.int .i64 0, .int .i64 0, .slice none 0 0], .int .i64 30]) (by simp [results, Try.results13, go_sem, r0, r1, r2, rf]) rfl ⟨rfl, ?_⟩
        have := HQ.out
        exact (((E5.out.setCell (by simp; omega) _).setCell (by simp; omega) _).setCell (by simp; omega) _)
    | false =>
      rw [h2] at EM
      obtain ⟨m0, m1, m2, m3, hm⟩ : ∃ m0 m1 m2 m3, meetB (a0, b0, a1, b1) (0, 0, W, H) = (m0, m1, m2, m3) := ⟨_, _, _, _, rfl⟩
      rw [hm] at MB
      simp only [boxV] at MB
      have hne : ¬ m0 = a0 ∨ (m0 = a0 ∧ ¬ m1 = b0) ∨ (m0 = a0 ∧ m1 = b0 ∧ ¬ m2 = a1) ∨ (m0 = a0 ∧ m1 = b0 ∧ m2 = a1 ∧ ¬ m3 = b1) := by
        simp only [Bool.or_eq_false_iff, decide_eq_false_iff_not] at h2
        unfold meetB at hm
        simp only at hm
        split at hm <;> (simp only [Prod.mk.injEq] at hm; omega)
      clear h1 h2 hno hin hm
      rcases hne with h1 | ⟨rfl, h1⟩ | ⟨rfl, rfl, h1⟩ | ⟨rfl, rfl, rfl, h1⟩
      · go_enter Try.func13, Try.ntmps13
        go_wp2
        obtain ⟨wq, hwq⟩ : ∃ wq, ((w.alloc (.cells #[.int .i64 W, .int .i64 H, .slice X N c] 24)).alloc (.cells #[.int .i64 a0, .int .i64 b0, .int .i64 a1, .int .i64 b1] 26)).alloc (.cells #[.int .i64 0, .int .i64 0, .slice none 0 0] 24) = wq := ⟨_, rfl⟩
        obtain ⟨q, hq⟩ : ∃ q, w.heap.size = q := ⟨_, rfl⟩
        have EQ : Hid (Ext w wq) := Lib.hid (by rw [← hwq]; (repeat (first | exact Ext.refl _ | apply Ext.alloc | apply Ext.ext)))
        have i0 : wq.cell? ⟨q, 0, none⟩ = some (.int .i64 W) := by rw [← hwq, ← hq]; simp [go_sem]
        have i1 : wq.cell? ⟨q, 1, none⟩ = some (.int .i64 H) := by rw [← hwq, ← hq]; simp [go_sem]
        have i2 : wq.cell? ⟨q, 2, none⟩ = some (.slice X N c) := by rw [← hwq, ← hq]; simp [go_sem]
        have j0 : wq.cell? ⟨q + 1, 0, none⟩ = some (.int .i64 a0) := by rw [← hwq, ← hq]; simp [go_sem]
        have j1 : wq.cell? ⟨q + 1, 1, none⟩ = some (.int .i64 b0) := by rw [← hwq, ← hq]; simp [go_sem]
        have j2 : wq.cell? ⟨q + 1, 2, none⟩ = some (.int .i64 a1) := by rw [← hwq, ← hq]; simp [go_sem]
        have j3 : wq.cell? ⟨q + 1, 3, none⟩ = some (.int .i64 b1) := by rw [← hwq, ← hq]; simp [go_sem]
        have r0 : wq.cell? ⟨q + 2, 0, none⟩ = some (.int .i64 0) := by rw [← hwq, ← hq]; simp [go_sem]
        have r1 : wq.cell? ⟨q + 2, 1, none⟩ = some (.int .i64 0) := by rw [← hwq, ← hq]; simp [go_sem]
        have r2 : wq.cell? ⟨q + 2, 2, none⟩ = some (.slice none 0 0) := by rw [← hwq, ← hq]; simp [go_sem]
        have rf : ∀ j, wq.frozen? ⟨q + 2, j, none⟩ = false := fun j => by rw [← hwq, ← hq]; simp [go_sem]
        have hz : wq.heap.size = q + 3 := by rw [← hwq, ← hq]; simp
        rw [hwq, hq]
        have HQ := Lib.hid hq
        clear hwq hq
        have FC : Hid (∀ wr, Ext wq wr → (wr.cell? ⟨q, 0, none⟩ = some (.int .i64 W) ∧ wr.cell? ⟨q, 1, none⟩ = some (.int .i64 H) ∧ wr.cell? ⟨q, 2, none⟩ = some (.slice X N c)) ∧ (wr.cell? ⟨q + 1, 0, none⟩ = some (.int .i64 a0) ∧ wr.cell? ⟨q + 1, 1, none⟩ = some (.int .i64 b0) ∧ wr.cell? ⟨q + 1, 2, none⟩ = some (.int .i64 a1) ∧ wr.cell? ⟨q + 1, 3, none⟩ = some (.int .i64 b1)) ∧ (wr.cell? ⟨q + 2, 0, none⟩ = some (.int .i64 0) ∧ wr.cell? ⟨q + 2, 1, none⟩ = some (.int .i64 0) ∧ wr.cell? ⟨q + 2, 2, none⟩ = some (.slice none 0 0) ∧ ∀ j, wr.frozen? ⟨q + 2, j, none⟩ = false)) := Lib.hid (fun wr hk =>
          ⟨⟨(hk.cell (by omega)).trans i0, (hk.cell (by omega)).trans i1, (hk.cell (by omega)).trans i2⟩, ⟨(hk.cell (by omega)).trans j0, (hk.cell (by omega)).trans j1, (hk.cell (by omega)).trans j2, (hk.cell (by omega)).trans j3⟩, ⟨(hk.cell (by omega)).trans r0, (hk.cell (by omega)).trans r1, (hk.cell (by omega)).trans r2, fun j => (hk.frozen (by omega)).trans (rf j)⟩⟩)
        clear i0 i1 i2 j0 j1 j2 j3 r0 r1 r2 rf
        have k0 : ∀ g, (wq.ext g).cell? ⟨q, 0, none⟩ = some (.int .i64 W) := fun g => (FC.out _ ⟨g, rfl⟩).1.1
        have k1 : ∀ g, (wq.ext g).cell? ⟨q, 1, none⟩ = some (.int .i64 H) := fun g => (FC.out _ ⟨g, rfl⟩).1.2.1
        have k2 : ∀ g, (wq.ext g).cell? ⟨q, 2, none⟩ = some (.slice X N c) := fun g => (FC.out _ ⟨g, rfl⟩).1.2.2
        have k3 : ∀ g, (wq.ext g).cell? ⟨q + 1, 0, none⟩ = some (.int .i64 a0) := fun g => (FC.out _ ⟨g, rfl⟩).2.1.1
        have k4 : ∀ g, (wq.ext g).cell? ⟨q + 1, 1, none⟩ = some (.int .i64 b0) := fun g => (FC.out _ ⟨g, rfl⟩).2.1.2.1
        have k5 : ∀ g, (wq.ext g).cell? ⟨q + 1, 2, none⟩ = some (.int .i64 a1) := fun g => (FC.out _ ⟨g, rfl⟩).2.1.2.2.1
        have k6 : ∀ g, (wq.ext g).cell? ⟨q + 1, 3, none⟩ = some (.int .i64 b1) := fun g => (FC.out _ ⟨g, rfl⟩).2.1.2.2.2
        refine region_flow 15 [9, 13, 18, 19] (fun t v => match t with | 9 => v = .int .i64 0 | 13 => v = .bool false | 18 => v = .agg #[.int .i64 0, .int .i64 0, .int .i64 W, .int .i64 H] | 19 => v = .agg #[.int .i64 m0, .int .i64 m1, .int .i64 m2, .int .i64 m3] | _ => False) (fun t v w' => True) (by kernel_rfl) (by kernel_rfl) ?hq ?hu ?hR ?h
        case hq => intro t v h; split at h <;> simp_all
        case hu => intro t h; split at h <;> simp_all [undef]
        case hR => intros; trivial
        case h =>
          dsimp only [List.take, List.drop]
          repeat (first | (refine Flow.skip rfl ?_; simp only [Act.put, List.setIfInBounds_toArray, List.set_cons_zero, List.set_cons_succ]) | (refine Flow.plain rfl rfl ?_; go_big_quiet_step (fail); refine wpQuiet_nil ?_))
          refine Flow.call Try.call17 [.agg #[.int .i64 W, .int .i64 H, .slice X N c]] rfl rfl rfl ?_ (fun wx hx hf => (CK.out wx (EQ.out.trans hx)).mono ?_) ?_
          · exact ⟨_, rfl⟩
          · exact fun e w' ⟨h1, h2⟩ => ⟨_, h1, h2, rfl, trivial⟩
          rintro v rfl
          simp only [Act.put, List.setIfInBounds_toArray, List.set_cons_zero, List.set_cons_succ]
          repeat (first | (refine Flow.skip rfl ?_; simp only [Act.put, List.setIfInBounds_toArray, List.set_cons_zero, List.set_cons_succ]) | (refine Flow.plain rfl rfl ?_; go_big_quiet_step (fail); refine wpQuiet_nil ?_))
          refine Flow.call Try.call34 [.agg #[.int .i64 a0, .int .i64 b0, .int .i64 a1, .int .i64 b1]] rfl rfl rfl ?_ (fun wx hx hf => (EM.out wx).mono ?_) ?_
          · exact ⟨_, rfl⟩
          · exact fun e w' ⟨h1, h2⟩ => ⟨_, h1, h2, rfl, trivial⟩
          rintro v rfl
          simp only [Act.put, List.setIfInBounds_toArray, List.set_cons_zero, List.set_cons_succ]
          repeat (first | (refine Flow.skip rfl ?_; simp only [Act.put, List.setIfInBounds_toArray, List.set_cons_zero, List.set_cons_succ]) | (refine Flow.plain rfl rfl ?_; go_big_quiet_step (fail); refine wpQuiet_nil ?_))
          refine Flow.call Try.call15 [.agg #[.int .i64 W, .int .i64 H, .slice X N c]] rfl rfl rfl ?_ (fun wx hx hf => (box_any W H (.slice X N c) wx).mono ?_) ?_
          · exact ⟨_, rfl⟩
          · exact fun e w' ⟨h1, h2⟩ => ⟨_, h1, h2, rfl, trivial⟩
          rintro v rfl
          simp only [Act.put, List.setIfInBounds_toArray, List.set_cons_zero, List.set_cons_succ]
          repeat (first | (refine Flow.skip rfl ?_; simp only [Act.put, List.setIfInBounds_toArray, List.set_cons_zero, List.set_cons_succ]) | (refine Flow.plain rfl rfl ?_; go_big_quiet_step (fail); refine wpQuiet_nil ?_))
          refine Flow.call Try.call35 [.agg #[.int .i64 a0, .int .i64 b0, .int .i64 a1, .int .i64 b1], .agg #[.int .i64 0, .int .i64 0, .int .i64 W, .int .i64 H]] rfl rfl rfl ?_ (fun wx hx hf => (MB.out wx).mono ?_) ?_
          · exact ⟨_, rfl⟩
          · exact fun e w' ⟨h1, h2⟩ => ⟨_, h1, h2, rfl, trivial⟩
          rintro v rfl
          simp only [Act.put, List.setIfInBounds_toArray, List.set_cons_zero, List.set_cons_succ]
          repeat (first | (refine Flow.skip rfl ?_; simp only [Act.put, List.setIfInBounds_toArray, List.set_cons_zero, List.set_cons_succ]) | (refine Flow.plain rfl rfl ?_; go_big_quiet_step (fail); refine wpQuiet_nil ?_))
          refine Flow.nil fun w5 hx5 hf => ?_
          clear hf k0 k1 k2 k3 k4 k5 k6
          obtain ⟨_, _, ⟨r0, r1, r2, rf⟩⟩ := FC.out _ hx5
          have E5 := Lib.hid (EQ.out.trans hx5)
          clear hx5
          dsimp only [wpList, Exit.then]
          go_wp2
          refine bodyPost_ret (v := .tuple #[.agg #[.int .i64 0, .int .i64 0, .slice none 0 0], .int .i64 30]) (by simp [results, Try.results13, go_sem, r0, r1, r2, rf]) rfl ⟨rfl, ?_⟩
          have := HQ.out
          exact (((E5.out.setCell (by simp; omega) _).setCell (by simp; omega) _).setCell (by simp; omega) _)
      · go_enter Try.func13, Try.ntmps13
        go_wp2
        obtain ⟨wq, hwq⟩ : ∃ wq, ((w.alloc (.cells #[.int .i64 W, .int .i64 H, .slice X N c] 24)).alloc (.cells #[.int .i64 m0, .int .i64 b0, .int .i64 a1, .int .i64 b1] 26)).alloc (.cells #[.int .i64 0, .int .i64 0, .slice none 0 0] 24) = wq := ⟨_, rfl⟩
        obtain ⟨q, hq⟩ : ∃ q, w.heap.size = q := ⟨_, rfl⟩
        have EQ : Hid (Ext w wq) := Lib.hid (by rw [← hwq]; (repeat (first | exact Ext.refl _ | apply Ext.alloc | apply Ext.ext)))
        have i0 : wq.cell? ⟨q, 0, none⟩ = some (.int .i64 W) := by rw [← hwq, ← hq]; simp [go_sem]
        have i1 : wq.cell? ⟨q, 1, none⟩ = some (.int .i64 H) := by rw [← hwq, ← hq]; simp [go_sem]
        have i2 : wq.cell? ⟨q, 2, none⟩ = some (.slice X N c) := by rw [← hwq, ← hq]; simp [go_sem]
        have j0 : wq.cell? ⟨q + 1, 0, none⟩ = some (.int .i64 m0) := by rw [← hwq, ← hq]; simp [go_sem]
        have j1 : wq.cell? ⟨q + 1, 1, none⟩ = some (.int .i64 b0) := by rw [← hwq, ← hq]; simp [go_sem]
        have j2 : wq.cell? ⟨q + 1, 2, none⟩ = some (.int .i64 a1) := by rw [← hwq, ← hq]; simp [go_sem]
        have j3 : wq.cell? ⟨q + 1, 3, none⟩ = some (.int .i64 b1) := by rw [← hwq, ← hq]; simp [go_sem]
        have r0 : wq.cell? ⟨q + 2, 0, none⟩ = some (.int .i64 0) := by rw [← hwq, ← hq]; simp [go_sem]
        have r1 : wq.cell? ⟨q + 2, 1, none⟩ = some (.int .i64 0) := by rw [← hwq, ← hq]; simp [go_sem]
        have r2 : wq.cell? ⟨q + 2, 2, none⟩ = some (.slice none 0 0) := by rw [← hwq, ← hq]; simp [go_sem]
        have rf : ∀ j, wq.frozen? ⟨q + 2, j, none⟩ = false := fun j => by rw [← hwq, ← hq]; simp [go_sem]
        have hz : wq.heap.size = q + 3 := by rw [← hwq, ← hq]; simp
        rw [hwq, hq]
        have HQ := Lib.hid hq
        clear hwq hq
        have FC : Hid (∀ wr, Ext wq wr → (wr.cell? ⟨q, 0, none⟩ = some (.int .i64 W) ∧ wr.cell? ⟨q, 1, none⟩ = some (.int .i64 H) ∧ wr.cell? ⟨q, 2, none⟩ = some (.slice X N c)) ∧ (wr.cell? ⟨q + 1, 0, none⟩ = some (.int .i64 m0) ∧ wr.cell? ⟨q + 1, 1, none⟩ = some (.int .i64 b0) ∧ wr.cell? ⟨q + 1, 2, none⟩ = some (.int .i64 a1) ∧ wr.cell? ⟨q + 1, 3, none⟩ = some (.int .i64 b1)) ∧ (wr.cell? ⟨q + 2, 0, none⟩ = some (.int .i64 0) ∧ wr.cell? ⟨q + 2, 1, none⟩ = some (.int .i64 0) ∧ wr.cell? ⟨q + 2, 2, none⟩ = some (.slice none 0 0) ∧ ∀ j, wr.frozen? ⟨q + 2, j, none⟩ = false)) := Lib.hid (fun wr hk =>
          ⟨⟨(hk.cell (by omega)).trans i0, (hk.cell (by omega)).trans i1, (hk.cell (by omega)).trans i2⟩, ⟨(hk.cell (by omega)).trans j0, (hk.cell (by omega)).trans j1, (hk.cell (by omega)).trans j2, (hk.cell (by omega)).trans j3⟩, ⟨(hk.cell (by omega)).trans r0, (hk.cell (by omega)).trans r1, (hk.cell (by omega)).trans r2, fun j => (hk.frozen (by omega)).trans (rf j)⟩⟩)
        clear i0 i1 i2 j0 j1 j2 j3 r0 r1 r2 rf
        have k0 : ∀ g, (wq.ext g).cell? ⟨q, 0, none⟩ = some (.int .i64 W) := fun g => (FC.out _ ⟨g, rfl⟩).1.1
        have k1 : ∀ g, (wq.ext g).cell? ⟨q, 1, none⟩ = some (.int .i64 H) := fun g => (FC.out _ ⟨g, rfl⟩).1.2.1
        have k2 : ∀ g, (wq.ext g).cell? ⟨q, 2, none⟩ = some (.slice X N c) := fun g => (FC.out _ ⟨g, rfl⟩).1.2.2
        have k3 : ∀ g, (wq.ext g).cell? ⟨q + 1, 0, none⟩ = some (.int .i64 m0) := fun g => (FC.out _ ⟨g, rfl⟩).2.1.1
        have k4 : ∀ g, (wq.ext g).cell? ⟨q + 1, 1, none⟩ = some (.int .i64 b0) := fun g => (FC.out _ ⟨g, rfl⟩).2.1.2.1
        have k5 : ∀ g, (wq.ext g).cell? ⟨q + 1, 2, none⟩ = some (.int .i64 a1) := fun g => (FC.out _ ⟨g, rfl⟩).2.1.2.2.1
        have k6 : ∀ g, (wq.ext g).cell? ⟨q + 1, 3, none⟩ = some (.int .i64 b1) := fun g => (FC.out _ ⟨g, rfl⟩).2.1.2.2.2
        refine region_flow 15 [9, 13, 18, 19] (fun t v => match t with | 9 => v = .int .i64 0 | 13 => v = .bool false | 18 => v = .agg #[.int .i64 0, .int .i64 0, .int .i64 W, .int .i64 H] | 19 => v = .agg #[.int .i64 m0, .int .i64 m1, .int .i64 m2, .int .i64 m3] | _ => False) (fun t v w' => True) (by kernel_rfl) (by kernel_rfl) ?hq ?hu ?hR ?h
        case hq => intro t v h; split at h <;> simp_all
        case hu => intro t h; split at h <;> simp_all [undef]
        case hR => intros; trivial
        case h =>
          dsimp only [List.take, List.drop]
          repeat (first | (refine Flow.skip rfl ?_; simp only [Act.put, List.setIfInBounds_toArray, List.set_cons_zero, List.set_cons_succ]) | (refine Flow.plain rfl rfl ?_; go_big_quiet_step (fail); refine wpQuiet_nil ?_))
          refine Flow.call Try.call17 [.agg #[.int .i64 W, .int .i64 H, .slice X N c]] rfl rfl rfl ?_ (fun wx hx hf => (CK.out wx (EQ.out.trans hx)).mono ?_) ?_
          · exact ⟨_, rfl⟩
          · exact fun e w' ⟨h1, h2⟩ => ⟨_, h1, h2, rfl, trivial⟩
          rintro v rfl
          simp only [Act.put, List.setIfInBounds_toArray, List.set_cons_zero, List.set_cons_succ]
          repeat (first | (refine Flow.skip rfl ?_; simp only [Act.put, List.setIfInBounds_toArray, List.set_cons_zero, List.set_cons_succ]) | (refine Flow.plain rfl rfl ?_; go_big_quiet_step (fail); refine wpQuiet_nil ?_))
          refine Flow.call Try.call34 [.agg #[.int .i64 m0, .int .i64 b0, .int .i64 a1, .int .i64 b1]] rfl rfl rfl ?_ (fun wx hx hf => (EM.out wx).mono ?_) ?_
          · exact ⟨_, rfl⟩
          · exact fun e w' ⟨h1, h2⟩ => ⟨_, h1, h2, rfl, trivial⟩
          rintro v rfl
          simp only [Act.put, List.setIfInBounds_toArray, List.set_cons_zero, List.set_cons_succ]
          repeat (first | (refine Flow.skip rfl ?_; simp only [Act.put, List.setIfInBounds_toArray, List.set_cons_zero, List.set_cons_succ]) | (refine Flow.plain rfl rfl ?_; go_big_quiet_step (fail); refine wpQuiet_nil ?_))
          refine Flow.call Try.call15 [.agg #[.int .i64 W, .int .i64 H, .slice X N c]] rfl rfl rfl ?_ (fun wx hx hf => (box_any W H (.slice X N c) wx).mono ?_) ?_
          · exact ⟨_, rfl⟩
          · exact fun e w' ⟨h1, h2⟩ => ⟨_, h1, h2, rfl, trivial⟩
          rintro v rfl
          simp only [Act.put, List.setIfInBounds_toArray, List.set_cons_zero, List.set_cons_succ]
          repeat (first | (refine Flow.skip rfl ?_; simp only [Act.put, List.setIfInBounds_toArray, List.set_cons_zero, List.set_cons_succ]) | (refine Flow.plain rfl rfl ?_; go_big_quiet_step (fail); refine wpQuiet_nil ?_))
          refine Flow.call Try.call35 [.agg #[.int .i64 m0, .int .i64 b0, .int .i64 a1, .int .i64 b1], .agg #[.int .i64 0, .int .i64 0, .int .i64 W, .int .i64 H]] rfl rfl rfl ?_ (fun wx hx hf => (MB.out wx).mono ?_) ?_
          · exact ⟨_, rfl⟩
          · exact fun e w' ⟨h1, h2⟩ => ⟨_, h1, h2, rfl, trivial⟩
          rintro v rfl
          simp only [Act.put, List.setIfInBounds_toArray, List.set_cons_zero, List.set_cons_succ]
          repeat (first | (refine Flow.skip rfl ?_; simp only [Act.put, List.setIfInBounds_toArray, List.set_cons_zero, List.set_cons_succ]) | (refine Flow.plain rfl rfl ?_; go_big_quiet_step (fail); refine wpQuiet_nil ?_))
          refine Flow.nil fun w5 hx5 hf => ?_
          clear hf k0 k1 k2 k3 k4 k5 k6
          obtain ⟨_, _, ⟨r0, r1, r2, rf⟩⟩ := FC.out _ hx5
          have E5 := Lib.hid (EQ.out.trans hx5)
          clear hx5
          dsimp only [wpList, Exit.then]
          go_wp2
          refine bodyPost_ret (v := .tuple #[.agg #[.int .i64 0, .int .i64 0, .slice none 0 0], .int .i64 30]) (by simp [results, Try.results13, go_sem, r0, r1, r2, rf]) rfl ⟨rfl, ?_⟩
          have := HQ.out
          exact (((E5.out.setCell (by simp; omega) _).setCell (by simp; omega) _).setCell (by simp; omega) _)
      · go_enter Try.func13, Try.ntmps13
        go_wp2
        obtain ⟨wq, hwq⟩ : ∃ wq, ((w.alloc (.cells #[.int .i64 W, .int .i64 H, .slice X N c] 24)).alloc (.cells #[.int .i64 m0, .int .i64 m1, .int .i64 a1, .int .i64 b1] 26)).alloc (.cells #[.int .i64 0, .int .i64 0, .slice none 0 0] 24) = wq := ⟨_, rfl⟩
        obtain ⟨q, hq⟩ : ∃ q, w.heap.size = q := ⟨_, rfl⟩
        have EQ : Hid (Ext w wq) := Lib.hid (by rw [← hwq]; (repeat (first | exact Ext.refl _ | apply Ext.alloc | apply Ext.ext)))
        have i0 : wq.cell? ⟨q, 0, none⟩ = some (.int .i64 W) := by rw [← hwq, ← hq]; simp [go_sem]
        have i1 : wq.cell? ⟨q, 1, none⟩ = some (.int .i64 H) := by rw [← hwq, ← hq]; simp [go_sem]
        have i2 : wq.cell? ⟨q, 2, none⟩ = some (.slice X N c) := by rw [← hwq, ← hq]; simp [go_sem]
        have j0 : wq.cell? ⟨q + 1, 0, none⟩ = some (.int .i64 m0) := by rw [← hwq, ← hq]; simp [go_sem]
        have j1 : wq.cell? ⟨q + 1, 1, none⟩ = some (.int .i64 m1) := by rw [← hwq, ← hq]; simp [go_sem]
        have j2 : wq.cell? ⟨q + 1, 2, none⟩ = some (.int .i64 a1) := by rw [← hwq, ← hq]; simp [go_sem]
        have j3 : wq.cell? ⟨q + 1, 3, none⟩ = some (.int .i64 b1) := by rw [← hwq, ← hq]; simp [go_sem]
        have r0 : wq.cell? ⟨q + 2, 0, none⟩ = some (.int .i64 0) := by rw [← hwq, ← hq]; simp [go_sem]
        have r1 : wq.cell? ⟨q + 2, 1, none⟩ = some (.int .i64 0) := by rw [← hwq, ← hq]; simp [go_sem]
        have r2 : wq.cell? ⟨q + 2, 2, none⟩ = some (.slice none 0 0) := by rw [← hwq, ← hq]; simp [go_sem]
        have rf : ∀ j, wq.frozen? ⟨q + 2, j, none⟩ = false := fun j => by rw [← hwq, ← hq]; simp [go_sem]
        have hz : wq.heap.size = q + 3 := by rw [← hwq, ← hq]; simp
        rw [hwq, hq]
        have HQ := Lib.hid hq
        clear hwq hq
        have FC : Hid (∀ wr, Ext wq wr → (wr.cell? ⟨q, 0, none⟩ = some (.int .i64 W) ∧ wr.cell? ⟨q, 1, none⟩ = some (.int .i64 H) ∧ wr.cell? ⟨q, 2, none⟩ = some (.slice X N c)) ∧ (wr.cell? ⟨q + 1, 0, none⟩ = some (.int .i64 m0) ∧ wr.cell? ⟨q + 1, 1, none⟩ = some (.int .i64 m1) ∧ wr.cell? ⟨q + 1, 2, none⟩ = some (.int .i64 a1) ∧ wr.cell? ⟨q + 1, 3, none⟩ = some (.int .i64 b1)) ∧ (wr.cell? ⟨q + 2, 0, none⟩ = some (.int .i64 0) ∧ wr.cell? ⟨q + 2, 1, none⟩ = some (.int .i64 0) ∧ wr.cell? ⟨q + 2, 2, none⟩ = some (.slice none 0 0) ∧ ∀ j, wr.frozen? ⟨q + 2, j, none⟩ = false)) := Lib.hid (fun wr hk =>
          ⟨⟨(hk.cell (by omega)).trans i0, (hk.cell (by omega)).trans i1, (hk.cell (by omega)).trans i2⟩, ⟨(hk.cell (by omega)).trans j0, (hk.cell (by omega)).trans j1, (hk.cell (by omega)).trans j2, (hk.cell (by omega)).trans j3⟩, ⟨(hk.cell (by omega)).trans r0, (hk.cell (by omega)).trans r1, (hk.cell (by omega)).trans r2, fun j => (hk.frozen (by omega)).trans (rf j)⟩⟩)
        clear i0 i1 i2 j0 j1 j2 j3 r0 r1 r2 rf
        have k0 : ∀ g, (wq.ext g).cell? ⟨q, 0, none⟩ = some (.int .i64 W) := fun g => (FC.out _ ⟨g, rfl⟩).1.1
        have k1 : ∀ g, (wq.ext g).cell? ⟨q, 1, none⟩ = some (.int .i64 H) := fun g => (FC.out _ ⟨g, rfl⟩).1.2.1
        have k2 : ∀ g, (wq.ext g).cell? ⟨q, 2, none⟩ = some (.slice X N c) := fun g => (FC.out _ ⟨g, rfl⟩).1.2.2
        have k3 : ∀ g, (wq.ext g).cell? ⟨q + 1, 0, none⟩ = some (.int .i64 m0) := fun g => (FC.out _ ⟨g, rfl⟩).2.1.1
        have k4 : ∀ g, (wq.ext g).cell? ⟨q + 1, 1, none⟩ = some (.int .i64 m1) := fun g => (FC.out _ ⟨g, rfl⟩).2.1.2.1
        have k5 : ∀ g, (wq.ext g).cell? ⟨q + 1, 2, none⟩ = some (.int .i64 a1) := fun g => (FC.out _ ⟨g, rfl⟩).2.1.2.2.1
        have k6 : ∀ g, (wq.ext g).cell? ⟨q + 1, 3, none⟩ = some (.int .i64 b1) := fun g => (FC.out _ ⟨g, rfl⟩).2.1.2.2.2
        refine region_flow 15 [9, 13, 18, 19] (fun t v => match t with | 9 => v = .int .i64 0 | 13 => v = .bool false | 18 => v = .agg #[.int .i64 0, .int .i64 0, .int .i64 W, .int .i64 H] | 19 => v = .agg #[.int .i64 m0, .int .i64 m1, .int .i64 m2, .int .i64 m3] | _ => False) (fun t v w' => True) (by kernel_rfl) (by kernel_rfl) ?hq ?hu ?hR ?h
        case hq => intro t v h; split at h <;> simp_all
        case hu => intro t h; split at h <;> simp_all [undef]
        case hR => intros; trivial
        case h =>
          dsimp only [List.take, List.drop]
          repeat (first | (refine Flow.skip rfl ?_; simp only [Act.put, List.setIfInBounds_toArray, List.set_cons_zero, List.set_cons_succ]) | (refine Flow.plain rfl rfl ?_; go_big_quiet_step (fail); refine wpQuiet_nil ?_))
          refine Flow.call Try.call17 [.agg #[.int .i64 W, .int .i64 H, .slice X N c]] rfl rfl rfl ?_ (fun wx hx hf => (CK.out wx (EQ.out.trans hx)).mono ?_) ?_
          · exact ⟨_, rfl⟩
          · exact fun e w' ⟨h1, h2⟩ => ⟨_, h1, h2, rfl, trivial⟩
          rintro v rfl
          simp only [Act.put, List.setIfInBounds_toArray, List.set_cons_zero, List.set_cons_succ]
          repeat (first | (refine Flow.skip rfl ?_; simp only [Act.put, List.setIfInBounds_toArray, List.set_cons_zero, List.set_cons_succ]) | (refine Flow.plain rfl rfl ?_; go_big_quiet_step (fail); refine wpQuiet_nil ?_))
          refine Flow.call Try.call34 [.agg #[.int .i64 m0, .int .i64 m1, .int .i64 a1, .int .i64 b1]] rfl rfl rfl ?_ (fun wx hx hf => (EM.out wx).mono ?_) ?_
          · exact ⟨_, rfl⟩
          · exact fun e w' ⟨h1, h2⟩ => ⟨_, h1, h2, rfl, trivial⟩
          rintro v rfl
          simp only [Act.put, List.setIfInBounds_toArray, List.set_cons_zero, List.set_cons_succ]
          repeat (first | (refine Flow.skip rfl ?_; simp only [Act.put, List.setIfInBounds_toArray, List.set_cons_zero, List.set_cons_succ]) | (refine Flow.plain rfl rfl ?_; go_big_quiet_step (fail); refine wpQuiet_nil ?_))
          refine Flow.call Try.call15 [.agg #[.int .i64 W, .int .i64 H, .slice X N c]] rfl rfl rfl ?_ (fun wx hx hf => (box_any W H (.slice X N c) wx).mono ?_) ?_
          · exact ⟨_, rfl⟩
          · exact fun e w' ⟨h1, h2⟩ => ⟨_, h1, h2, rfl, trivial⟩
          rintro v rfl
          simp only [Act.put, List.setIfInBounds_toArray, List.set_cons_zero, List.set_cons_succ]
          repeat (first | (refine Flow.skip rfl ?_; simp only [Act.put, List.setIfInBounds_toArray, List.set_cons_zero, List.set_cons_succ]) | (refine Flow.plain rfl rfl ?_; go_big_quiet_step (fail); refine wpQuiet_nil ?_))
          refine Flow.call Try.call35 [.agg #[.int .i64 m0, .int .i64 m1, .int .i64 a1, .int .i64 b1], .agg #[.int .i64 0, .int .i64 0, .int .i64 W, .int .i64 H]] rfl rfl rfl ?_ (fun wx hx hf => (MB.out wx).mono ?_) ?_
          · exact ⟨_, rfl⟩
          · exact fun e w' ⟨h1, h2⟩ => ⟨_, h1, h2, rfl, trivial⟩
          rintro v rfl
          simp only [Act.put, List.setIfInBounds_toArray, List.set_cons_zero, List.set_cons_succ]
          repeat (first | (refine Flow.skip rfl ?_; simp only [Act.put, List.setIfInBounds_toArray, List.set_cons_zero, List.set_cons_succ]) | (refine Flow.plain rfl rfl ?_; go_big_quiet_step (fail); refine wpQuiet_nil ?_))
          refine Flow.nil fun w5 hx5 hf => ?_
          clear hf k0 k1 k2 k3 k4 k5 k6
          obtain ⟨_, _, ⟨r0, r1, r2, rf⟩⟩ := FC.out _ hx5
          have E5 := Lib.hid (EQ.out.trans hx5)
          clear hx5
          dsimp only [wpList, Exit.then]
          go_wp2
          refine bodyPost_ret (v := .tuple #[.agg #[.int .i64 0, .int .i64 0, .slice none 0 0], .int .i64 30]) (by simp [results, Try.results13, go_sem, r0, r1, r2, rf]) rfl ⟨rfl, ?_⟩
          have := HQ.out
          exact (((E5.out.setCell (by simp; omega) _).setCell (by simp; omega) _).setCell (by simp; omega) _)
      · go_enter Try.func13, Try.ntmps13
        go_wp2
        obtain ⟨wq, hwq⟩ : ∃ wq, ((w.alloc (.cells #[.int .i64 W, .int .i64 H, .slice X N c] 24)).alloc (.cells #[.int .i64 m0, .int .i64 m1, .int .i64 m2, .int .i64 b1] 26)).alloc (.cells #[.int .i64 0, .int .i64 0, .slice none 0 0] 24) = wq := ⟨_, rfl⟩
        obtain ⟨q, hq⟩ : ∃ q, w.heap.size = q := ⟨_, rfl⟩
        have EQ : Hid (Ext w wq) := Lib.hid (by rw [← hwq]; (repeat (first | exact Ext.refl _ | apply Ext.alloc | apply Ext.ext)))
        have i0 : wq.cell? ⟨q, 0, none⟩ = some (.int .i64 W) := by rw [← hwq, ← hq]; simp [go_sem]
        have i1 : wq.cell? ⟨q, 1, none⟩ = some (.int .i64 H) := by rw [← hwq, ← hq]; simp [go_sem]
        have i2 : wq.cell? ⟨q, 2, none⟩ = some (.slice X N c) := by rw [← hwq, ← hq]; simp [go_sem]
        have j0 : wq.cell? ⟨q + 1, 0, none⟩ = some (.int .i64 m0) := by rw [← hwq, ← hq]; simp [go_sem]
        have j1 : wq.cell? ⟨q + 1, 1, none⟩ = some (.int .i64 m1) := by rw [← hwq, ← hq]; simp [go_sem]
        have j2 : wq.cell? ⟨q + 1, 2, none⟩ = some (.int .i64 m2) := by rw [← hwq, ← hq]; simp [go_sem]
        have j3 : wq.cell? ⟨q + 1, 3, none⟩ = some (.int .i64 b1) := by rw [← hwq, ← hq]; simp [go_sem]
        have r0 : wq.cell? ⟨q + 2, 0, none⟩ = some (.int .i64 0) := by rw [← hwq, ← hq]; simp [go_sem]
        have r1 : wq.cell? ⟨q + 2, 1, none⟩ = some (.int .i64 0) := by rw [← hwq, ← hq]; simp [go_sem]
        have r2 : wq.cell? ⟨q + 2, 2, none⟩ = some (.slice none 0 0) := by rw [← hwq, ← hq]; simp [go_sem]
        have rf : ∀ j, wq.frozen? ⟨q + 2, j, none⟩ = false := fun j => by rw [← hwq, ← hq]; simp [go_sem]
        have hz : wq.heap.size = q + 3 := by rw [← hwq, ← hq]; simp
        rw [hwq, hq]
        have HQ := Lib.hid hq
        clear hwq hq
        have FC : Hid (∀ wr, Ext wq wr → (wr.cell? ⟨q, 0, none⟩ = some (.int .i64 W) ∧ wr.cell? ⟨q, 1, none⟩ = some (.int .i64 H) ∧ wr.cell? ⟨q, 2, none⟩ = some (.slice X N c)) ∧ (wr.cell? ⟨q + 1, 0, none⟩ = some (.int .i64 m0) ∧ wr.cell? ⟨q + 1, 1, none⟩ = some (.int .i64 m1) ∧ wr.cell? ⟨q + 1, 2, none⟩ = some (.int .i64 m2) ∧ wr.cell? ⟨q + 1, 3, none⟩ = some (.int .i64 b1)) ∧ (wr.cell? ⟨q + 2, 0, none⟩ = some (.int .i64 0) ∧ wr.cell? ⟨q + 2, 1, none⟩ = some (.int .i64 0) ∧ wr.cell? ⟨q + 2, 2, none⟩ = some (.slice none 0 0) ∧ ∀ j, wr.frozen? ⟨q + 2, j, none⟩ = false)) := Lib.hid (fun wr hk =>
          ⟨⟨(hk.cell (by omega)).trans i0, (hk.cell (by omega)).trans i1, (hk.cell (by omega)).trans i2⟩, ⟨(hk.cell (by omega)).trans j0, (hk.cell (by omega)).trans j1, (hk.cell (by omega)).trans j2, (hk.cell (by omega)).trans j3⟩, ⟨(hk.cell (by omega)).trans r0, (hk.cell (by omega)).trans r1, (hk.cell (by omega)).trans r2, fun j => (hk.frozen (by omega)).trans (rf j)⟩⟩)
        clear i0 i1 i2 j0 j1 j2 j3 r0 r1 r2 rf
        have k0 : ∀ g, (wq.ext g).cell? ⟨q, 0, none⟩ = some (.int .i64 W) := fun g => (FC.out _ ⟨g, rfl⟩).1.1
        have k1 : ∀ g, (wq.ext g).cell? ⟨q, 1, none⟩ = some (.int .i64 H) := fun g => (FC.out _ ⟨g, rfl⟩).1.2.1
        have k2 : ∀ g, (wq.ext g).cell? ⟨q, 2, none⟩ = some (.slice X N c) := fun g => (FC.out _ ⟨g, rfl⟩).1.2.2
        have k3 : ∀ g, (wq.ext g).cell? ⟨q + 1, 0, none⟩ = some (.int .i64 m0) := fun g => (FC.out _ ⟨g, rfl⟩).2.1.1
        have k4 : ∀ g, (wq.ext g).cell? ⟨q + 1, 1, none⟩ = some (.int .i64 m1) := fun g => (FC.out _ ⟨g, rfl⟩).2.1.2.1
        have k5 : ∀ g, (wq.ext g).cell? ⟨q + 1, 2, none⟩ = some (.int .i64 m2) := fun g => (FC.out _ ⟨g, rfl⟩).2.1.2.2.1
        have k6 : ∀ g, (wq.ext g).cell? ⟨q + 1, 3, none⟩ = some (.int .i64 b1) := fun g => (FC.out _ ⟨g, rfl⟩).2.1.2.2.2
        refine region_flow 15 [9, 13, 18, 19] (fun t v => match t with | 9 => v = .int .i64 0 | 13 => v = .bool false | 18 => v = .agg #[.int .i64 0, .int .i64 0, .int .i64 W, .int .i64 H] | 19 => v = .agg #[.int .i64 m0, .int .i64 m1, .int .i64 m2, .int .i64 m3] | _ => False) (fun t v w' => True) (by kernel_rfl) (by kernel_rfl) ?hq ?hu ?hR ?h
        case hq => intro t v h; split at h <;> simp_all
        case hu => intro t h; split at h <;> simp_all [undef]
        case hR => intros; trivial
        case h =>
          dsimp only [List.take, List.drop]
          repeat (first | (refine Flow.skip rfl ?_; simp only [Act.put, List.setIfInBounds_toArray, List.set_cons_zero, List.set_cons_succ]) | (refine Flow.plain rfl rfl ?_; go_big_quiet_step (fail); refine wpQuiet_nil ?_))
          refine Flow.call Try.call17 [.agg #[.int .i64 W, .int .i64 H, .slice X N c]] rfl rfl rfl ?_ (fun wx hx hf => (CK.out wx (EQ.out.trans hx)).mono ?_) ?_
          · exact ⟨_, rfl⟩
          · exact fun e w' ⟨h1, h2⟩ => ⟨_, h1, h2, rfl, trivial⟩
          rintro v rfl
          simp only [Act.put, List.setIfInBounds_toArray, List.set_cons_zero, List.set_cons_succ]
          repeat (first | (refine Flow.skip rfl ?_; simp only [Act.put, List.setIfInBounds_toArray, List.set_cons_zero, List.set_cons_succ]) | (refine Flow.plain rfl rfl ?_; go_big_quiet_step (fail); refine wpQuiet_nil ?_))
          refine Flow.call Try.call34 [.agg #[.int .i64 m0, .int .i64 m1, .int .i64 m2, .int .i64 b1]] rfl rfl rfl ?_ (fun wx hx hf => (EM.out wx).mono ?_) ?_
          · exact ⟨_, rfl⟩
          · exact fun e w' ⟨h1, h2⟩ => ⟨_, h1, h2, rfl, trivial⟩
          rintro v rfl
          simp only [Act.put, List.setIfInBounds_toArray, List.set_cons_zero, List.set_cons_succ]
          repeat (first | (refine Flow.skip rfl ?_; simp only [Act.put, List.setIfInBounds_toArray, List.set_cons_zero, List.set_cons_succ]) | (refine Flow.plain rfl rfl ?_; go_big_quiet_step (fail); refine wpQuiet_nil ?_))
          refine Flow.call Try.call15 [.agg #[.int .i64 W, .int .i64 H, .slice X N c]] rfl rfl rfl ?_ (fun wx hx hf => (box_any W H (.slice X N c) wx).mono ?_) ?_
          · exact ⟨_, rfl⟩
          · exact fun e w' ⟨h1, h2⟩ => ⟨_, h1, h2, rfl, trivial⟩
          rintro v rfl
          simp only [Act.put, List.setIfInBounds_toArray, List.set_cons_zero, List.set_cons_succ]
          repeat (first | (refine Flow.skip rfl ?_; simp only [Act.put, List.setIfInBounds_toArray, List.set_cons_zero, List.set_cons_succ]) | (refine Flow.plain rfl rfl ?_; go_big_quiet_step (fail); refine wpQuiet_nil ?_))
          refine Flow.call Try.call35 [.agg #[.int .i64 m0, .int .i64 m1, .int .i64 m2, .int .i64 b1], .agg #[.int .i64 0, .int .i64 0, .int .i64 W, .int .i64 H]] rfl rfl rfl ?_ (fun wx hx hf => (MB.out wx).mono ?_) ?_
          · exact ⟨_, rfl⟩
          · exact fun e w' ⟨h1, h2⟩ => ⟨_, h1, h2, rfl, trivial⟩
          rintro v rfl
          simp only [Act.put, List.setIfInBounds_toArray, List.set_cons_zero, List.set_cons_succ]
          repeat (first | (refine Flow.skip rfl ?_; simp only [Act.put, List.setIfInBounds_toArray, List.set_cons_zero, List.set_cons_succ]) | (refine Flow.plain rfl rfl ?_; go_big_quiet_step (fail); refine wpQuiet_nil ?_))
          refine Flow.nil fun w5 hx5 hf => ?_
          clear hf k0 k1 k2 k3 k4 k5 k6
          obtain ⟨_, _, ⟨r0, r1, r2, rf⟩⟩ := FC.out _ hx5
          have E5 := Lib.hid (EQ.out.trans hx5)
          clear hx5
          dsimp only [wpList, Exit.then]
          go_wp2
          refine bodyPost_ret (v := .tuple #[.agg #[.int .i64 0, .int .i64 0, .slice none 0 0], .int .i64 30]) (by simp [results, Try.results13, go_sem, r0, r1, r2, rf]) rfl ⟨rfl, ?_⟩
          have := HQ.out
          exact (((E5.out.setCell (by simp; omega) _).setCell (by simp; omega) _).setCell (by simp; omega) _)

end Go.Proofs.Ytncphiphgkjflaa
