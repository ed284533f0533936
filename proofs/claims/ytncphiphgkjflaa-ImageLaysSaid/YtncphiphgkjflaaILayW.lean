import Derived.Test.YtncphiphgkjflaaILay2
import Derived.Test.YtncphiphgkjflaaILay3
import Derived.Test.YtncphiphgkjflaaFlowP
import Derived.Deep.RegionHeld3
import Derived.Deep.CutBlock
import Derived.Deep.DeepCutAuto
namespace Go.Proofs.Ytncphiphgkjflaa
open Go.RowKit Go.Shelf
set_option linter.unusedVariables false
set_option linter.unusedSimpArgs false

/-- the document's image of one -/
theorem ref_own (W H : Int) (v : Value) (l : List Px) (w : World) (hl : Pix .u8 w v l) (hn : l.length ≤ 400) :
    Calls Try.prog 12 #[.agg #[.int .i64 W, .int .i64 H, v]] w fun e w' => ∃ A c, e = .returned (.agg #[.int .i64 W, .int .i64 H, .slice A l.length c]) ∧ Ext w w' ∧ Pix .i64 w' (.slice A l.length c) l ∧ ∀ k, Value.ownBlock (.slice A l.length c) = some k → w.heap.size ≤ k ∧ k < w'.heap.size := by
  refine (ref_any W H v l w hl hn).mono ?_
  rintro e w' ⟨v', he, hO, hE⟩
  obtain ⟨A, c, rfl⟩ := own_slice hO.1
  exact ⟨A, c, he, hE, hO.pix, fun k hk => hO.1.lt k hk⟩

theorem Pix.set {κ : IntKind} {w : World} {A : Option Addr} {n c : Nat} {l : List Px} {g i : Nat} {u : Value} (h : Pix κ w (.slice A n c) l) (hk : ∀ k, Value.ownBlock (.slice A n c) = some k → k ≠ g) : Pix κ (w.setCell ⟨g, i, none⟩ u) (.slice A n c) l := by
  obtain ⟨A', c', e, h2, h3, h4, h5, h6⟩ := h
  simp only [Value.slice.injEq] at e
  obtain ⟨rfl, rfl, rfl⟩ := e
  refine ⟨_, _, rfl, h2, h3, h4, h5, fun h0 => ?_⟩
  obtain ⟨b, off, rfl, q1, q2⟩ := h6 h0
  have hb : b ≠ g := hk b rfl
  have K := Keep.setCell (w := w) (g := g) (i := i) (v := u)
  exact ⟨b, off, rfl, Nat.lt_of_lt_of_le q1 K.size, fun k hk j hj => (K.cell q1 hb).trans (q2 k hk j hj)⟩

/-- two boxes, and what two images lie in, are not one and the same -/
def LD (t : Tmp) (v : Value) (t' : Tmp) (v' : Value) : Prop :=
  ((t = 3 ∧ t' = 4 ∨ t = 4 ∧ t' = 3) → v ≠ v') ∧
  ((t = 20 ∨ t = 23) ∧ (t' = 3 ∨ t' = 4) → ∀ a b A n c k g, v = .agg #[a, b, .slice A n c] → v' = .pointer (some ⟨g, 0, none⟩) → Value.ownBlock (.slice A n c) = some k → k ≠ g) ∧
  ((t = 3 ∨ t = 4) ∧ (t' = 20 ∨ t' = 23) → ∀ a b A n c k g, v' = .agg #[a, b, .slice A n c] → v = .pointer (some ⟨g, 0, none⟩) → Value.ownBlock (.slice A n c) = some k → k ≠ g)
def LQ (W H W2 H2 : Int) (N N2 : Nat) (t : Tmp) (v : Value) : Prop :=
  (t = 20 ∧ ∃ A c, v = .agg #[.int .i64 W, .int .i64 H, .slice A N c]) ∨ (t = 23 ∧ ∃ A c, v = .agg #[.int .i64 W2, .int .i64 H2, .slice A N2 c]) ∨ ((t = 3 ∨ t = 4) ∧ ∃ g, v = .pointer (some ⟨g, 0, none⟩))
def LR (wz : World) (l l2 : List Px) (t : Tmp) (v : Value) (w : World) : Prop :=
  (t = 20 → ∃ a b A n c, v = .agg #[a, b, .slice A n c] ∧ Pix .i64 w (.slice A n c) l ∧ ∀ k, Value.ownBlock (.slice A n c) = some k → k < w.heap.size) ∧
  (t = 23 → ∃ a b A n c, v = .agg #[a, b, .slice A n c] ∧ Pix .i64 w (.slice A n c) l2 ∧ ∀ k, Value.ownBlock (.slice A n c) = some k → k < w.heap.size) ∧
  ((t = 3 ∨ t = 4) → ∃ g, v = .pointer (some ⟨g, 0, none⟩) ∧ wz.heap.size ≤ g ∧ g < w.heap.size ∧ w.cell? ⟨g, 0, none⟩ = some (.int .i64 0) ∧ w.cell? ⟨g, 1, none⟩ = some (.int .i64 0) ∧ w.cell? ⟨g, 2, none⟩ = some (.slice none 0 0) ∧ ∀ j, w.frozen? ⟨g, j, none⟩ = false)

theorem LR.mono {wz : World} {l l2 : List Px} {t : Tmp} {v : Value} {w w' : World} (h : LR wz l l2 t v w) (he : Ext w w') : LR wz l l2 t v w' := by
  obtain ⟨h1, h2, h3⟩ := h
  refine ⟨fun e => ?_, fun e => ?_, fun e => ?_⟩
  · obtain ⟨a, b, A, n, c, e1, e2, e3⟩ := h1 e
    exact ⟨a, b, A, n, c, e1, e2.ext he, fun k hk => Nat.lt_of_lt_of_le (e3 k hk) he.size⟩
  · obtain ⟨a, b, A, n, c, e1, e2, e3⟩ := h2 e
    exact ⟨a, b, A, n, c, e1, e2.ext he, fun k hk => Nat.lt_of_lt_of_le (e3 k hk) he.size⟩
  · obtain ⟨g, e1, z0, z1, z2, z3, z4, z5⟩ := h3 e
    exact ⟨g, e1, z0, Nat.lt_of_lt_of_le z1 he.size, (he.cell z1).trans z2, (he.cell z1).trans z3, (he.cell z1).trans z4, fun j => (he.frozen z1).trans (z5 j)⟩

theorem LD.img {wz : World} {l l2 : List Px} {t : Tmp} {w : World} (ht : t = 20 ∨ t = 23) {x y : Value} {A : Option Addr} {n c : Nat} (hk : ∀ k, Value.ownBlock (.slice A n c) = some k → w.heap.size ≤ k) :
    ∀ t' v', LR wz l l2 t' v' w → LD t (.agg #[x, y, .slice A n c]) t' v' := by
  intro t' v' hR
  refine ⟨fun h => ?_, fun h => ?_, fun h => ?_⟩
  · rcases ht with rfl | rfl <;> simp at h
  · intro a b A' n' c' k g e1 e2 e3
    simp only [Value.agg.injEq, Array.mk.injEq, List.cons.injEq, Value.slice.injEq, and_true] at e1
    obtain ⟨_, _, rfl, rfl, rfl⟩ := e1
    obtain ⟨g', e4, _, z1, _⟩ := hR.2.2 h.2
    rw [e4] at e2
    simp only [Value.pointer.injEq, Option.some.injEq, Addr.mk.injEq, and_true] at e2
    have := hk k e3
    omega
  · rcases ht with rfl | rfl <;> simp at h

theorem LD.box {wz : World} {l l2 : List Px} {t : Tmp} {w : World} (ht : t = 3 ∨ t = 4) :
    ∀ t' v', LR wz l l2 t' v' w → LD t (.pointer (some ⟨w.heap.size, 0, none⟩)) t' v' := by
  intro t' v' hR
  refine ⟨fun h e => ?_, fun h => ?_, fun h => ?_⟩
  · obtain ⟨g', e4, _, z1, _⟩ := hR.2.2 (by rcases h with h | h <;> simp [h])
    rw [e4] at e
    simp only [Value.pointer.injEq, Option.some.injEq, Addr.mk.injEq, and_true] at e
    omega
  · rcases ht with rfl | rfl <;> simp at h
  · intro a b A' n' c' k g e1 e2 e3
    simp only [Value.pointer.injEq, Option.some.injEq, Addr.mk.injEq, and_true] at e2
    have hlt : k < w.heap.size := by
      rcases h.2 with h2 | h2
      · obtain ⟨a9, b9, A9, n9, c9, e9, _, h9⟩ := hR.1 h2
        rw [e9] at e1
        simp only [Value.agg.injEq, Array.mk.injEq, List.cons.injEq, Value.slice.injEq, and_true] at e1
        obtain ⟨_, _, rfl, rfl, rfl⟩ := e1
        exact h9 k e3
      · obtain ⟨a9, b9, A9, n9, c9, e9, _, h9⟩ := hR.2.1 h2
        rw [e9] at e1
        simp only [Value.agg.injEq, Array.mk.injEq, List.cons.injEq, Value.slice.injEq, and_true] at e1
        obtain ⟨_, _, rfl, rfl, rfl⟩ := e1
        exact h9 k e3
    omega

set_option maxRecDepth 100000 in
set_option maxHeartbeats 25600000 in
theorem lays_any (W H W2 H2 x y m : Int) (t : Nat) (v v2 : Value) (l l2 : List Px) (w : World) (hl : Pix .u8 w v l) (hl2 : Pix .u8 w v2 l2) (hn : l.length ≤ 400) (hn2 : l2.length ≤ 400) (hW : -9223372036854775808 ≤ W ∧ W ≤ 9223372036854775807) (hH : -9223372036854775808 ≤ H ∧ H ≤ 9223372036854775807) (hW2 : -9223372036854775808 ≤ W2 ∧ W2 ≤ 9223372036854775807) (hH2 : -9223372036854775808 ≤ H2 ∧ H2 ≤ 9223372036854775807) (hx : -9223372036854775808 ≤ x ∧ x ≤ 9223372036854775807) (hy : -9223372036854775808 ≤ y ∧ y ≤ 9223372036854775807) (ht : t ≤ 255) (hmb : -9223372036854775808 ≤ m ∧ m ≤ 9223372036854775807) :
    Calls Try.prog 7 #[.agg #[.int .i64 W, .int .i64 H, v, .int .i64 W2, .int .i64 H2, v2, .int .i64 x, .int .i64 y, .int .u8 (t : Int), .int .i64 m]] w fun e w' => e = .returned (.bool true) ∧ Ext w w' := by
  have P := Lib.hid hl
  have P2 := Lib.hid hl2
  obtain ⟨X, c, rfl, hc1, hc2, _⟩ := hl
  obtain ⟨X2, d, rfl, hd1, hd2, _⟩ := hl2
  obtain ⟨N, hN⟩ : ∃ N, l.length = N := ⟨_, rfl⟩
  obtain ⟨N2, hN2⟩ : ∃ N, l2.length = N := ⟨_, rfl⟩
  rw [hN] at P hn hc1
  rw [hN2] at P2 hn2 hd1
  rw [hN, hN2]
  have HN := Lib.hid hN
  have HN2 := Lib.hid hN2
  clear hN hN2
  have RM := Lib.hid (fun wx (hx : Ext w wx) => ref_own W H (.slice X N c) l wx (P.out.ext hx) (by rw [HN.out]; omega))
  have RO := Lib.hid (fun wx (hx : Ext w wx) => ref_own W2 H2 (.slice X2 N2 d) l2 wx (P2.out.ext hx) (by rw [HN2.out]; omega))
  rw [HN.out] at RM
  rw [HN2.out] at RO
  have SM := Lib.hid (fun wx => small_any W H X N c wx)
  have SO := Lib.hid (fun wx => small_any W2 H2 X2 N2 d wx)
  rw [show decide ((N : Int) ≤ 400) = true by simp; omega] at SM
  rw [show decide ((N2 : Int) ≤ 400) = true by simp; omega] at SO
  go_enter Try.func7, Try.ntmps7
  go_upto_region 3 with (first
    | (go_at_call 9; refine (SM.out _).mono ?_; rintro e w1 ⟨rfl, g1, rfl⟩)
    | (go_at_call 9; refine (SO.out _).mono ?_; rintro e w1 ⟨rfl, g2, rfl⟩))
  obtain ⟨wz, hwz⟩ : ∃ wz, ((w.alloc (.cells #[.int .i64 W, .int .i64 H, .slice X N c, .int .i64 W2, .int .i64 H2, .slice X2 N2 d, .int .i64 x, .int .i64 y, .int .u8 (t : Int), .int .i64 m] 64)).ext g1).ext g2 = wz := ⟨_, rfl⟩
  obtain ⟨q, hq⟩ : ∃ q, w.heap.size = q := ⟨_, rfl⟩
  have EZ : Hid (Ext w wz) := Lib.hid (by rw [← hwz]; (repeat (first | exact Ext.refl _ | apply Ext.alloc | apply Ext.ext)))
  have hz : q < wz.heap.size := by rw [← hwz, ← hq]; simp only [World.size_alloc, ext_size]; omega
  have FZ : Hid (∀ wx, Ext wz wx → wx.cell? ⟨q, 0, none⟩ = some (.int .i64 W) ∧ wx.cell? ⟨q, 1, none⟩ = some (.int .i64 H) ∧ wx.cell? ⟨q, 2, none⟩ = some (.slice X N c) ∧ wx.cell? ⟨q, 3, none⟩ = some (.int .i64 W2) ∧ wx.cell? ⟨q, 4, none⟩ = some (.int .i64 H2) ∧ wx.cell? ⟨q, 5, none⟩ = some (.slice X2 N2 d)) := Lib.hid (fun wx hx => by
    refine ⟨(hx.cell hz).trans ?_, (hx.cell hz).trans ?_, (hx.cell hz).trans ?_, (hx.cell hz).trans ?_, (hx.cell hz).trans ?_, (hx.cell hz).trans ?_⟩ <;> (rw [← hwz, ← hq]; simp [go_sem]))
  have FY : Hid (∀ wx, Ext wz wx → wx.cell? ⟨q, 6, none⟩ = some (.int .i64 x) ∧ wx.cell? ⟨q, 7, none⟩ = some (.int .i64 y) ∧ wx.cell? ⟨q, 8, none⟩ = some (.int .u8 (t : Int)) ∧ wx.cell? ⟨q, 9, none⟩ = some (.int .i64 m)) := Lib.hid (fun wx hx => by
    refine ⟨(hx.cell hz).trans ?_, (hx.cell hz).trans ?_, (hx.cell hz).trans ?_, (hx.cell hz).trans ?_⟩ <;> (rw [← hwz, ← hq]; simp [go_sem]))
  rw [hwz, hq]
  have HQ := Lib.hid hq
  clear hwz hq
  have RMZ := Lib.hid (fun wx (hx : Ext wz wx) => RM.out wx (EZ.out.trans hx))
  have ROZ := Lib.hid (fun wx (hx : Ext wz wx) => RO.out wx (EZ.out.trans hx))
  have k0 : ∀ g', (wz.ext g').cell? ⟨q, 0, none⟩ = _ := fun g' => (FZ.out _ ⟨g', rfl⟩).1
  have k1 : ∀ g', (wz.ext g').cell? ⟨q, 1, none⟩ = _ := fun g' => (FZ.out _ ⟨g', rfl⟩).2.1
  have k2 : ∀ g', (wz.ext g').cell? ⟨q, 2, none⟩ = _ := fun g' => (FZ.out _ ⟨g', rfl⟩).2.2.1
  have k3 : ∀ g', (wz.ext g').cell? ⟨q, 3, none⟩ = _ := fun g' => (FZ.out _ ⟨g', rfl⟩).2.2.2.1
  have k4 : ∀ g', (wz.ext g').cell? ⟨q, 4, none⟩ = _ := fun g' => (FZ.out _ ⟨g', rfl⟩).2.2.2.2.1
  have k5 : ∀ g', (wz.ext g').cell? ⟨q, 5, none⟩ = _ := fun g' => (FZ.out _ ⟨g', rfl⟩).2.2.2.2.2
  refine Two.region_two 8 [20, 23, 3, 4] (LQ W H W2 H2 N N2) (LR wz l l2) LD (by kernel_rfl) (by kernel_rfl) ?hq ?hu ?hR ?h
  case hq =>
    intro t v h
    rcases h with ⟨rfl, _⟩ | ⟨rfl, _⟩ | ⟨rfl | rfl, _⟩ <;> simp
  case hu =>
    intro t h
    rcases h with ⟨_, _, _, h⟩ | ⟨_, _, _, h⟩ | ⟨_, _, h⟩ <;> simp [undef] at h
  case hR => exact fun t v w w' _ h he => h.mono he
  case h =>
    dsimp only [List.take, List.drop]
    repeat (first | (refine Two.Flow.skip rfl ?_; simp only [Act.put, List.setIfInBounds_toArray, List.set_cons_zero, List.set_cons_succ]) | (refine Two.Flow.plain rfl rfl ?_; go_big_quiet_step (fail); refine wpQuiet_nil ?_))
    refine Two.Flow.call Try.call12 [.agg #[.int .i64 W, .int .i64 H, .slice X N c]] rfl rfl rfl ?_ (fun wx hx hf => (RMZ.out wx hx).mono ?_) ?_
    · exact ⟨_, .inl ⟨rfl, none, 0, rfl⟩⟩
    · rintro e w' ⟨A, c9, he, hE, hP, hk⟩
      exact ⟨_, he, hE, .inl ⟨rfl, A, c9, rfl⟩, ⟨fun _ => ⟨_, _, A, N, c9, rfl, hP, fun k h => (hk k h).2⟩, fun h => by simp at h, fun h => by simp at h⟩, fun t' v' _ hR' => LD.img (.inl rfl) (fun k h => (hk k h).1) t' v' hR'⟩
    rintro v (⟨_, A3, c3, rfl⟩ | ⟨h, _⟩ | ⟨h, _⟩)
    rotate_left
    · simp at h
    · simp at h
    simp only [Act.put, List.setIfInBounds_toArray, List.set_cons_zero, List.set_cons_succ]
    repeat (first | (refine Two.Flow.skip rfl ?_; simp only [Act.put, List.setIfInBounds_toArray, List.set_cons_zero, List.set_cons_succ]) | (refine Two.Flow.plain rfl rfl ?_; go_big_quiet_step (fail); refine wpQuiet_nil ?_))
    refine Two.Flow.call Try.call12 [.agg #[.int .i64 W2, .int .i64 H2, .slice X2 N2 d]] rfl rfl rfl ?_ (fun wx hx hf => (ROZ.out wx hx).mono ?_) ?_
    · exact ⟨_, .inr (.inl ⟨rfl, none, 0, rfl⟩)⟩
    · rintro e w' ⟨A, c9, he, hE, hP, hk⟩
      exact ⟨_, he, hE, .inr (.inl ⟨rfl, A, c9, rfl⟩), ⟨fun h => by simp at h, fun _ => ⟨_, _, A, N2, c9, rfl, hP, fun k h => (hk k h).2⟩, fun h => by simp at h⟩, fun t' v' _ hR' => LD.img (.inr rfl) (fun k h => (hk k h).1) t' v' hR'⟩
    rintro v (⟨h, _⟩ | ⟨_, A4, c4, rfl⟩ | ⟨h, _⟩)
    · simp at h
    rotate_left
    · simp at h
    simp only [Act.put, List.setIfInBounds_toArray, List.set_cons_zero, List.set_cons_succ]
    refine Two.Flow.make 3 rfl rfl rfl ⟨.pointer (some ⟨0, 0, none⟩), .inr (.inr ⟨.inl rfl, 0, rfl⟩)⟩ (fun wx hx hf => ⟨.pointer (some ⟨wx.heap.size, 0, none⟩), wx.alloc (.cells #[.int .i64 0, .int .i64 0, .slice none 0 0] 34), by kernel_rfl, (Ext.refl wx).alloc _, .inr (.inr ⟨.inl rfl, _, rfl⟩), ⟨fun h => by simp at h, fun h => by simp at h, fun _ => ⟨_, rfl, hx.size, by simp, by simp [go_sem], by simp [go_sem], by simp [go_sem], fun j => by simp [go_sem]⟩⟩, fun t' v' _ hR' => LD.box (.inl rfl) t' v' hR'⟩) ?_
    rintro v (⟨h, _⟩ | ⟨h, _⟩ | ⟨_, g3, rfl⟩)
    · simp at h
    · simp at h
    simp only [Act.put, List.setIfInBounds_toArray, List.set_cons_zero, List.set_cons_succ]
    refine Two.Flow.make 4 rfl rfl rfl ⟨.pointer (some ⟨0, 0, none⟩), .inr (.inr ⟨.inr rfl, 0, rfl⟩)⟩ (fun wx hx hf => ⟨.pointer (some ⟨wx.heap.size, 0, none⟩), wx.alloc (.cells #[.int .i64 0, .int .i64 0, .slice none 0 0] 34), by kernel_rfl, (Ext.refl wx).alloc _, .inr (.inr ⟨.inr rfl, _, rfl⟩), ⟨fun h => by simp at h, fun h => by simp at h, fun _ => ⟨_, rfl, hx.size, by simp, by simp [go_sem], by simp [go_sem], by simp [go_sem], fun j => by simp [go_sem]⟩⟩, fun t' v' _ hR' => LD.box (.inr rfl) t' v' hR'⟩) ?_
    rintro v (⟨h, _⟩ | ⟨h, _⟩ | ⟨_, g4, rfl⟩)
    · simp at h
    · simp at h
    simp only [Act.put, List.setIfInBounds_toArray, List.set_cons_zero, List.set_cons_succ]
    refine Two.Flow.nil fun w5 hx5 hf hpr => ?_
    have f20 : LR wz l l2 20 (.agg #[.int .i64 W, .int .i64 H, .slice A3 N c3]) w5 := hf 20 (by simp) (.inl ⟨rfl, A3, c3, rfl⟩)
    have f23 : LR wz l l2 23 (.agg #[.int .i64 W2, .int .i64 H2, .slice A4 N2 c4]) w5 := hf 23 (by simp) (.inr (.inl ⟨rfl, A4, c4, rfl⟩))
    have f3 : LR wz l l2 3 (.pointer (some ⟨g3, 0, none⟩)) w5 := hf 3 (by simp) (.inr (.inr ⟨.inl rfl, g3, rfl⟩))
    have f4 : LR wz l l2 4 (.pointer (some ⟨g4, 0, none⟩)) w5 := hf 4 (by simp) (.inr (.inr ⟨.inr rfl, g4, rfl⟩))
    have p34 : LD 3 (.pointer (some ⟨g3, 0, none⟩)) 4 (.pointer (some ⟨g4, 0, none⟩)) ∨ LD 4 (.pointer (some ⟨g4, 0, none⟩)) 3 (.pointer (some ⟨g3, 0, none⟩)) := hpr 3 4 (by simp) (by simp) (by decide) (.inr (.inr ⟨.inl rfl, g3, rfl⟩)) (.inr (.inr ⟨.inr rfl, g4, rfl⟩))
    have pa3 : LD 20 (.agg #[.int .i64 W, .int .i64 H, .slice A3 N c3]) 3 (.pointer (some ⟨g3, 0, none⟩)) ∨ LD 3 (.pointer (some ⟨g3, 0, none⟩)) 20 (.agg #[.int .i64 W, .int .i64 H, .slice A3 N c3]) := hpr 20 3 (by simp) (by simp) (by decide) (.inl ⟨rfl, A3, c3, rfl⟩) (.inr (.inr ⟨.inl rfl, g3, rfl⟩))
    have pa4 : LD 20 (.agg #[.int .i64 W, .int .i64 H, .slice A3 N c3]) 4 (.pointer (some ⟨g4, 0, none⟩)) ∨ LD 4 (.pointer (some ⟨g4, 0, none⟩)) 20 (.agg #[.int .i64 W, .int .i64 H, .slice A3 N c3]) := hpr 20 4 (by simp) (by simp) (by decide) (.inl ⟨rfl, A3, c3, rfl⟩) (.inr (.inr ⟨.inr rfl, g4, rfl⟩))
    have pb3 : LD 23 (.agg #[.int .i64 W2, .int .i64 H2, .slice A4 N2 c4]) 3 (.pointer (some ⟨g3, 0, none⟩)) ∨ LD 3 (.pointer (some ⟨g3, 0, none⟩)) 23 (.agg #[.int .i64 W2, .int .i64 H2, .slice A4 N2 c4]) := hpr 23 3 (by simp) (by simp) (by decide) (.inr (.inl ⟨rfl, A4, c4, rfl⟩)) (.inr (.inr ⟨.inl rfl, g3, rfl⟩))
    have pb4 : LD 23 (.agg #[.int .i64 W2, .int .i64 H2, .slice A4 N2 c4]) 4 (.pointer (some ⟨g4, 0, none⟩)) ∨ LD 4 (.pointer (some ⟨g4, 0, none⟩)) 23 (.agg #[.int .i64 W2, .int .i64 H2, .slice A4 N2 c4]) := hpr 23 4 (by simp) (by simp) (by decide) (.inr (.inl ⟨rfl, A4, c4, rfl⟩)) (.inr (.inr ⟨.inr rfl, g4, rfl⟩))
    have h34 : ¬ g3 = g4 := by
      intro e
      subst e
      rcases p34 with h | h
      · exact h.1 (.inl ⟨rfl, rfl⟩) rfl
      · exact h.1 (.inr ⟨rfl, rfl⟩) rfl
    have na3 : ∀ k, Value.ownBlock (.slice A3 N c3) = some k → k ≠ g3 := fun k hk => pa3.elim (fun h => h.2.1 ⟨.inl rfl, .inl rfl⟩ _ _ _ _ _ k g3 rfl rfl hk) (fun h => h.2.2 ⟨.inl rfl, .inl rfl⟩ _ _ _ _ _ k g3 rfl rfl hk)
    have na4 : ∀ k, Value.ownBlock (.slice A3 N c3) = some k → k ≠ g4 := fun k hk => pa4.elim (fun h => h.2.1 ⟨.inl rfl, .inr rfl⟩ _ _ _ _ _ k g4 rfl rfl hk) (fun h => h.2.2 ⟨.inr rfl, .inl rfl⟩ _ _ _ _ _ k g4 rfl rfl hk)
    have nb3 : ∀ k, Value.ownBlock (.slice A4 N2 c4) = some k → k ≠ g3 := fun k hk => pb3.elim (fun h => h.2.1 ⟨.inr rfl, .inl rfl⟩ _ _ _ _ _ k g3 rfl rfl hk) (fun h => h.2.2 ⟨.inl rfl, .inr rfl⟩ _ _ _ _ _ k g3 rfl rfl hk)
    have nb4 : ∀ k, Value.ownBlock (.slice A4 N2 c4) = some k → k ≠ g4 := fun k hk => pb4.elim (fun h => h.2.1 ⟨.inr rfl, .inr rfl⟩ _ _ _ _ _ k g4 rfl rfl hk) (fun h => h.2.2 ⟨.inr rfl, .inr rfl⟩ _ _ _ _ _ k g4 rfl rfl hk)
    obtain ⟨_, _, _, _, _, ex, PX3, _⟩ := f20.1 rfl
    simp only [Value.agg.injEq, Array.mk.injEq, List.cons.injEq, Value.slice.injEq, and_true] at ex
    obtain ⟨rfl, rfl, rfl, rfl, rfl⟩ := ex
    obtain ⟨_, _, _, _, _, ex, PX4, _⟩ := f23.2.1 rfl
    simp only [Value.agg.injEq, Array.mk.injEq, List.cons.injEq, Value.slice.injEq, and_true] at ex
    obtain ⟨rfl, rfl, rfl, rfl, rfl⟩ := ex
    obtain ⟨_, ex, y3, l3, u0, u1, u2, uf⟩ := f3.2.2 (.inl rfl)
    simp only [Value.pointer.injEq, Option.some.injEq, Addr.mk.injEq, and_true] at ex
    subst ex
    obtain ⟨_, ex, y4, l4, v0, v1, v2', vf⟩ := f4.2.2 (.inr rfl)
    simp only [Value.pointer.injEq, Option.some.injEq, Addr.mk.injEq, and_true] at ex
    subst ex
    have hwk : ∃ wk, ((((((w5.setCell ⟨g3, 0, none⟩ (.int .i64 W)).setCell ⟨g3, 1, none⟩ (.int .i64 H)).setCell ⟨g3, 2, none⟩ (.slice A3 N c3)).setCell ⟨g4, 0, none⟩ (.int .i64 W2)).setCell ⟨g4, 1, none⟩ (.int .i64 H2)).setCell ⟨g4, 2, none⟩ (.slice A4 N2 c4)) = wk := ⟨_, rfl⟩
    obtain ⟨wk, hwk⟩ := hwk
    have KZ : Hid (Ext wz wk) := Lib.hid (by rw [← hwk]; exact ((((((hx5.setCell y3 _).setCell y3 _).setCell y3 _).setCell y4 _).setCell y4 _).setCell y4 _))
    have PK3 : Hid (Pix .i64 wk (.slice A3 N c3) l) := Lib.hid (by rw [← hwk]; exact ((((((PX3.set na3).set na3).set na3).set na4).set na4).set na4))
    have PK4 : Hid (Pix .i64 wk (.slice A4 N2 c4) l2) := Lib.hid (by rw [← hwk]; exact ((((((PX4.set nb3).set nb3).set nb3).set nb4).set nb4).set nb4))
    have h43 : ¬ g4 = g3 := fun e => h34 e.symm
    have n0 : wk.cell? ⟨g3, 0, none⟩ = some (.int .i64 W) := by rw [← hwk]; simp [go_sem, u0, u1, u2, uf, v0, v1, v2', vf, h34, h43]
    have n1 : wk.cell? ⟨g3, 1, none⟩ = some (.int .i64 H) := by rw [← hwk]; simp [go_sem, u0, u1, u2, uf, v0, v1, v2', vf, h34, h43]
    have n2 : wk.cell? ⟨g3, 2, none⟩ = some (.slice A3 N c3) := by rw [← hwk]; simp [go_sem, u0, u1, u2, uf, v0, v1, v2', vf, h34, h43]
    have n3 : wk.cell? ⟨g4, 0, none⟩ = some (.int .i64 W2) := by rw [← hwk]; simp [go_sem, u0, u1, u2, uf, v0, v1, v2', vf, h34, h43]
    have n4 : wk.cell? ⟨g4, 1, none⟩ = some (.int .i64 H2) := by rw [← hwk]; simp [go_sem, u0, u1, u2, uf, v0, v1, v2', vf, h34, h43]
    have n5 : wk.cell? ⟨g4, 2, none⟩ = some (.slice A4 N2 c4) := by rw [← hwk]; simp [go_sem, u0, u1, u2, uf, v0, v1, v2', vf, h34, h43]
    have hk3 : g3 < wk.heap.size := by rw [← hwk]; simp [World.setCell]; exact l3
    have hk4 : g4 < wk.heap.size := by rw [← hwk]; simp [World.setCell]; exact l4
    obtain ⟨c0, c1, c2, c3', c4', c5⟩ := FZ.out _ KZ.out
    obtain ⟨c6, c7, c8, c9⟩ := FY.out _ KZ.out
    have hq3 : ¬ q = g3 := by omega
    have hq4 : ¬ q = g4 := by omega
    have hq3' : ¬ g3 = q := by omega
    have hq4' : ¬ g4 = q := by omega
    have PM := Lib.hid (P.out.ext (EZ.out.trans KZ.out))
    have PO := Lib.hid (P2.out.ext (EZ.out.trans KZ.out))
    have hnl : l.length ≤ 400 := by rw [HN.out]; exact hn
    have hnl2 : l2.length ≤ 400 := by rw [HN2.out]; exact hn2
    clear hf hpr f20 f23 f3 f4 p34 pa3 pa4 pb3 pb4 na3 na4 nb3 nb4 PX3 PX4 hx5 k0 k1 k2 k3 k4 k5
    go_wp2_with fail
    clear hwk u0 u1 u2 uf v0 v1 v2' vf c0 c1 c2 c3' c4' c5 c6 c7 c8 c9 hq3 hq4 hq3' hq4' h34 h43 l3 l4 y3 y4
    by_cases hR2 : rightI W H l = true ∧ rightI W2 H2 l2 = true
    · obtain ⟨h1, h2⟩ := hR2
      by_cases hmk : m < 0 ∨ (¬ m < 0 ∧ 4 < m)
      · clear RM RO RMZ ROZ SM SO
        refine (lay_kind W H W2 H2 m (.slice X N c) (.slice X2 N2 d) l l2 x y t wk PM.out PO.out hnl hnl2 hx hy ht hW hH hW2 hH2 hmb h1 h2 hmk).mono ?_
        rintro e' w6 ⟨rfl, hE6⟩
        obtain ⟨c0, c1, c2, c3', c4', c5⟩ := FZ.out _ (KZ.out.trans hE6)
        obtain ⟨c6, c7, c8, c9⟩ := FY.out _ (KZ.out.trans hE6)
        obtain ⟨m0, m1, m2⟩ : _ ∧ _ ∧ _ := ⟨(hE6.cell hk3).trans n0, (hE6.cell hk3).trans n1, (hE6.cell hk3).trans n2⟩
        obtain ⟨o0, o1, o2⟩ : _ ∧ _ ∧ _ := ⟨(hE6.cell hk4).trans n3, (hE6.cell hk4).trans n4, (hE6.cell hk4).trans n5⟩
        have z0 : q < w6.heap.size := Nat.lt_of_lt_of_le hz (KZ.out.trans hE6).size
        have z3 : g3 < w6.heap.size := Nat.lt_of_lt_of_le hk3 hE6.size
        have z4 : g4 < w6.heap.size := Nat.lt_of_lt_of_le hk4 hE6.size
        have E6 := Lib.hid ((EZ.out.trans KZ.out).trans hE6)
        have H6 := Lib.hid hE6
        have I1 := Lib.hid (fun wx (hx : Ext w6 wx) => is_yes W H (.slice X N c) (.slice A3 N c3) l wx (P.out.ext (E6.out.trans hx)) (PK3.out.ext (hE6.trans hx)))
        have I2 := Lib.hid (fun wx (hx : Ext w6 wx) => is_yes W2 H2 (.slice X2 N2 d) (.slice A4 N2 c4) l2 wx (P2.out.ext (E6.out.trans hx)) (PK4.out.ext (hE6.trans hx)))
        have R1 := Lib.hid (fun wx (hx : Ext w6 wx) => refRightImg_any W H (.slice A3 N c3) l wx hW hH (PK3.out.ext (hE6.trans hx)))
        have R2 := Lib.hid (fun wx (hx : Ext w6 wx) => refRightImg_any W2 H2 (.slice A4 N2 c4) l2 wx hW2 hH2 (PK4.out.ext (hE6.trans hx)))
        clear hE6 n0 n1 n2 n3 n4 n5
        rw [h1] at R1
        rw [h2] at R2
        rcases hmk with hmk | ⟨hmk, hmk2⟩
        all_goals (
          go_wp2_with fail
          refine (I1.out _ (by (repeat (first | exact Ext.refl _ | apply Ext.alloc | apply Ext.ext)))).mono ?_
          rintro e' w71 ⟨rfl, g71, rfl⟩
          go_wp2_with fail
          refine (I2.out _ (by (repeat (first | exact Ext.refl _ | apply Ext.alloc | apply Ext.ext)))).mono ?_
          rintro e' w72 ⟨rfl, g72, rfl⟩
          go_wp2_with fail
          refine (R1.out _ (by (repeat (first | exact Ext.refl _ | apply Ext.alloc | apply Ext.ext)))).mono ?_
          rintro e' w73 ⟨rfl, g73, rfl⟩
          go_wp2_with fail
          refine (R2.out _ (by (repeat (first | exact Ext.refl _ | apply Ext.alloc | apply Ext.ext)))).mono ?_
          rintro e' w74 ⟨rfl, g74, rfl⟩
          go_wp2_with fail
          refine (empty_yes none 0 _).mono ?_
          rintro e' w75 ⟨rfl, g75, rfl⟩
          go_wp2_with fail
          refine (awake_any _).mono ?_
          rintro e' w76 ⟨rfl, g76, rfl⟩
          go_wp2
          go_ret
          exact ⟨rfl, ((((((E6.out.alloc _).ext g71).ext g72).ext g73).ext g74).ext g75).ext g76⟩)
      · have hs1 : 1 ≤ W ∧ W ≤ 256 ∧ 1 ≤ H ∧ H ≤ 256 := by
          have a := h1
          unfold rightI sideB at a
          simp only [Bool.and_eq_true, decide_eq_true_eq] at a
          omega
        have hs2 : 1 ≤ W2 ∧ W2 ≤ 256 ∧ 1 ≤ H2 ∧ H2 ≤ 256 := by
          have a := h2
          unfold rightI sideB at a
          simp only [Bool.and_eq_true, decide_eq_true_eq] at a
          omega
        obtain ⟨Wn, rfl⟩ : ∃ n : Nat, W = (n : Int) := ⟨W.toNat, by omega⟩
        obtain ⟨Hn, rfl⟩ : ∃ n : Nat, H = (n : Int) := ⟨H.toNat, by omega⟩
        obtain ⟨Wn2, rfl⟩ : ∃ n : Nat, W2 = (n : Int) := ⟨W2.toNat, by omega⟩
        obtain ⟨Hn2, rfl⟩ : ∃ n : Nat, H2 = (n : Int) := ⟨H2.toNat, by omega⟩
        obtain ⟨mn, rfl⟩ : ∃ n : Nat, m = (n : Int) := ⟨m.toNat, by omega⟩
        have hm5 : ¬ (mn : Int) < 0 := by omega
        have hm6 : decide ((4 : Int) < (mn : Int)) = false := by simp; omega
        have hmn : mn ≤ 4 := by omega
        clear RM RO RMZ ROZ SM SO hmk
        by_cases hxy : x < -1000 ∨ (¬ x < -1000 ∧ 1000 < x) ∨ (¬ x < -1000 ∧ ¬ 1000 < x ∧ y < -1000) ∨ (¬ x < -1000 ∧ ¬ 1000 < x ∧ ¬ y < -1000 ∧ 1000 < y)
        · have hfar : x ≤ -(Wn2 : Int) ∨ (¬ x ≤ -(Wn2 : Int) ∧ y ≤ -(Hn2 : Int)) ∨ (¬ x ≤ -(Wn2 : Int) ∧ ¬ y ≤ -(Hn2 : Int) ∧ (Wn : Int) ≤ x) ∨ (¬ x ≤ -(Wn2 : Int) ∧ ¬ y ≤ -(Hn2 : Int) ∧ ¬ (Wn : Int) ≤ x ∧ (Hn : Int) ≤ y) := by omega
          refine (lay_far Wn Hn Wn2 Hn2 (.slice X N c) (.slice X2 N2 d) l l2 x y t mn wk PM.out PO.out hnl hnl2 hx hy ht h1 h2 (by omega) hfar).mono ?_
          rintro e' w6 ⟨v6, rfl, hO6, hE6⟩
          obtain ⟨A6, c6', rfl⟩ := own_slice hO6.1
          have P6 := Lib.hid hO6.pix
          rw [HN.out] at P6 ⊢
          clear hO6
          obtain ⟨c0, c1, c2, c3', c4', c5⟩ := FZ.out _ (KZ.out.trans hE6)
          obtain ⟨c6, c7, c8, c9⟩ := FY.out _ (KZ.out.trans hE6)
          obtain ⟨m0, m1, m2⟩ : _ ∧ _ ∧ _ := ⟨(hE6.cell hk3).trans n0, (hE6.cell hk3).trans n1, (hE6.cell hk3).trans n2⟩
          obtain ⟨o0, o1, o2⟩ : _ ∧ _ ∧ _ := ⟨(hE6.cell hk4).trans n3, (hE6.cell hk4).trans n4, (hE6.cell hk4).trans n5⟩
          have z0 : q < w6.heap.size := Nat.lt_of_lt_of_le hz (KZ.out.trans hE6).size
          have z3 : g3 < w6.heap.size := Nat.lt_of_lt_of_le hk3 hE6.size
          have z4 : g4 < w6.heap.size := Nat.lt_of_lt_of_le hk4 hE6.size
          have E6 := Lib.hid ((EZ.out.trans KZ.out).trans hE6)
          have H6 := Lib.hid hE6
          have I1 := Lib.hid (fun wx (hx : Ext w6 wx) => is_yes (Wn : Int) (Hn : Int) (.slice X N c) (.slice A3 N c3) l wx (P.out.ext (E6.out.trans hx)) (PK3.out.ext (hE6.trans hx)))
          have I2 := Lib.hid (fun wx (hx : Ext w6 wx) => is_yes (Wn2 : Int) (Hn2 : Int) (.slice X2 N2 d) (.slice A4 N2 c4) l2 wx (P2.out.ext (E6.out.trans hx)) (PK4.out.ext (hE6.trans hx)))
          have R1 := Lib.hid (fun wx (hx : Ext w6 wx) => refRightImg_any (Wn : Int) (Hn : Int) (.slice A3 N c3) l wx hW hH (PK3.out.ext (hE6.trans hx)))
          have R2 := Lib.hid (fun wx (hx : Ext w6 wx) => refRightImg_any (Wn2 : Int) (Hn2 : Int) (.slice A4 N2 c4) l2 wx hW2 hH2 (PK4.out.ext (hE6.trans hx)))
          clear hE6 n0 n1 n2 n3 n4 n5
          rw [h1] at R1
          rw [h2] at R2
          have I3 := Lib.hid (fun wx (hx : Ext w6 wx) => is_yes (Wn : Int) (Hn : Int) (.slice A6 N c6') (.slice A3 N c3) l wx (P6.out.ext hx) (PK3.out.ext (H6.out.trans hx)))
          rcases hxy with hb | ⟨hb, hb2⟩ | ⟨hb, hb2, hb3⟩ | ⟨hb, hb2, hb3, hb4⟩
          all_goals (
            go_wp2_with fail
            refine (I1.out _ (by (repeat (first | exact Ext.refl _ | apply Ext.alloc | apply Ext.ext)))).mono ?_
            rintro e' w71 ⟨rfl, g71, rfl⟩
            go_wp2_with fail
            refine (I2.out _ (by (repeat (first | exact Ext.refl _ | apply Ext.alloc | apply Ext.ext)))).mono ?_
            rintro e' w72 ⟨rfl, g72, rfl⟩
            go_wp2_with fail
            refine (R1.out _ (by (repeat (first | exact Ext.refl _ | apply Ext.alloc | apply Ext.ext)))).mono ?_
            rintro e' w73 ⟨rfl, g73, rfl⟩
            go_wp2_with fail
            refine (R2.out _ (by (repeat (first | exact Ext.refl _ | apply Ext.alloc | apply Ext.ext)))).mono ?_
            rintro e' w74 ⟨rfl, g74, rfl⟩
            go_wp2_with fail
            refine (I3.out _ (by (repeat (first | exact Ext.refl _ | apply Ext.alloc | apply Ext.ext)))).mono ?_
            rintro e' w75 ⟨rfl, g75, rfl⟩
            go_wp2_with fail
            refine (awake_any _).mono ?_
            rintro e' w76 ⟨rfl, g76, rfl⟩
            go_wp2
            go_ret
            exact ⟨rfl, ((((((E6.out.alloc _).ext g71).ext g72).ext g73).ext g74).ext g75).ext g76⟩)
        · have hxr : -1000 ≤ x ∧ x ≤ 1000 := by omega
          have hyr : -1000 ≤ y ∧ y ≤ 1000 := by omega
          clear hxy
          have HWH2 : Hid (l2.length = Wn2 * Hn2) := Lib.hid (by
            have a := h2
            unfold rightI at a
            simp only [Bool.and_eq_true, decide_eq_true_eq] at a
            exact_mod_cast a.1.2)
          have HWH : Hid (l.length = Wn * Hn) := Lib.hid (by
            have a := h1
            unfold rightI at a
            simp only [Bool.and_eq_true, decide_eq_true_eq] at a
            exact_mod_cast a.1.2)
          have LAY : Calls Try.prog 29 #[.agg #[.int .i64 (Wn : Int), .int .i64 (Hn : Int), .slice X N c], .agg #[.int .i64 (Wn2 : Int), .int .i64 (Hn2 : Int), .slice X2 N2 d], .int .i64 x, .int .i64 y, .int .u8 (t : Int), .int .i64 (mn : Int)] wk fun e w' => ∃ v', e = .returned (.tuple #[.agg #[.int .i64 (Wn : Int), .int .i64 (Hn : Int), v'], .int .i64 0]) ∧ OwnP .u8 40 wk.heap.size w' v' (layL Wn l Wn2 Hn2 l2 x y t mn) ∧ Ext wk w' := by
            by_cases hfar : x ≤ -(Wn2 : Int) ∨ (¬ x ≤ -(Wn2 : Int) ∧ y ≤ -(Hn2 : Int)) ∨ (¬ x ≤ -(Wn2 : Int) ∧ ¬ y ≤ -(Hn2 : Int) ∧ (Wn : Int) ≤ x) ∨ (¬ x ≤ -(Wn2 : Int) ∧ ¬ y ≤ -(Hn2 : Int) ∧ ¬ (Wn : Int) ≤ x ∧ (Hn : Int) ≤ y)
            · have hL : layL Wn l Wn2 Hn2 l2 x y t mn = l := by
                unfold layL
                refine updF_none (fun k hk => ?_)
                have a1 : k % Wn < Wn := Nat.mod_lt _ (by omega)
                have a2 : k / Wn < Hn := Nat.div_lt_of_lt_mul (by rw [← HWH.out]; exact hk)
                unfold inL
                rw [decide_eq_false_iff_not]
                generalize k % Wn = a at *
                generalize k / Wn = b at *
                omega
              rw [hL]
              exact lay_far Wn Hn Wn2 Hn2 (.slice X N c) (.slice X2 N2 d) l l2 x y t mn wk PM.out PO.out hnl hnl2 hx hy ht h1 h2 (by omega) hfar
            · exact lay_near Wn Hn Wn2 Hn2 (.slice X N c) (.slice X2 N2 d) l l2 x y t mn wk PM.out PO.out hnl hnl2 hx hy ht h1 h2 (by omega) (by omega) (by omega) (by omega) (by omega)
          obtain ⟨LL, hLL⟩ : ∃ L, layL Wn l Wn2 Hn2 l2 x y t mn = L := ⟨_, rfl⟩
          rw [hLL] at LAY
          have HLL := Lib.hid hLL
          have HLN : Hid (LL.length = N) := Lib.hid (by rw [← hLL]; unfold layL; rw [updF_len]; exact HN.out)
          clear hLL
          refine LAY.mono ?_
          rintro e' w6 ⟨v6, rfl, hO6, hE6⟩
          obtain ⟨A6, c6', rfl⟩ := own_slice hO6.1
          have P6 := Lib.hid hO6.pix
          rw [HLN.out] at P6 ⊢
          clear hO6
          obtain ⟨c0, c1, c2, c3', c4', c5⟩ := FZ.out _ (KZ.out.trans hE6)
          obtain ⟨c6, c7, c8, c9⟩ := FY.out _ (KZ.out.trans hE6)
          obtain ⟨m0, m1, m2⟩ : _ ∧ _ ∧ _ := ⟨(hE6.cell hk3).trans n0, (hE6.cell hk3).trans n1, (hE6.cell hk3).trans n2⟩
          obtain ⟨o0, o1, o2⟩ : _ ∧ _ ∧ _ := ⟨(hE6.cell hk4).trans n3, (hE6.cell hk4).trans n4, (hE6.cell hk4).trans n5⟩
          have z0 : q < w6.heap.size := Nat.lt_of_lt_of_le hz (KZ.out.trans hE6).size
          have z3 : g3 < w6.heap.size := Nat.lt_of_lt_of_le hk3 hE6.size
          have z4 : g4 < w6.heap.size := Nat.lt_of_lt_of_le hk4 hE6.size
          have E6 := Lib.hid ((EZ.out.trans KZ.out).trans hE6)
          have H6 := Lib.hid hE6
          have I1 := Lib.hid (fun wx (hx : Ext w6 wx) => is_yes (Wn : Int) (Hn : Int) (.slice X N c) (.slice A3 N c3) l wx (P.out.ext (E6.out.trans hx)) (PK3.out.ext (hE6.trans hx)))
          have I2 := Lib.hid (fun wx (hx : Ext w6 wx) => is_yes (Wn2 : Int) (Hn2 : Int) (.slice X2 N2 d) (.slice A4 N2 c4) l2 wx (P2.out.ext (E6.out.trans hx)) (PK4.out.ext (hE6.trans hx)))
          have R1 := Lib.hid (fun wx (hx : Ext w6 wx) => refRightImg_any (Wn : Int) (Hn : Int) (.slice A3 N c3) l wx hW hH (PK3.out.ext (hE6.trans hx)))
          have R2 := Lib.hid (fun wx (hx : Ext w6 wx) => refRightImg_any (Wn2 : Int) (Hn2 : Int) (.slice A4 N2 c4) l2 wx hW2 hH2 (PK4.out.ext (hE6.trans hx)))
          clear hE6 n0 n1 n2 n3 n4 n5
          rw [h1] at R1
          rw [h2] at R2
          have hy1 : ¬ x < -1000 := by omega
          have hy2 : ¬ 1000 < x := by omega
          have hy3 : ¬ y < -1000 := by omega
          have hy4 : decide (1000 < y) = false := by simp; omega
          go_wp2_with fail
          refine (I1.out _ (by (repeat (first | exact Ext.refl _ | apply Ext.alloc | apply Ext.ext)))).mono ?_
          rintro e' w71 ⟨rfl, g71, rfl⟩
          go_wp2_with fail
          refine (I2.out _ (by (repeat (first | exact Ext.refl _ | apply Ext.alloc | apply Ext.ext)))).mono ?_
          rintro e' w72 ⟨rfl, g72, rfl⟩
          go_wp2_with fail
          refine (R1.out _ (by (repeat (first | exact Ext.refl _ | apply Ext.alloc | apply Ext.ext)))).mono ?_
          rintro e' w73 ⟨rfl, g73, rfl⟩
          go_wp2_with fail
          refine (R2.out _ (by (repeat (first | exact Ext.refl _ | apply Ext.alloc | apply Ext.ext)))).mono ?_
          rintro e' w74 ⟨rfl, g74, rfl⟩
          go_wp2
          obtain ⟨wv, hwv⟩ : ∃ wv, ((((w6.alloc (.cells #[.int .i64 (Wn : Int), .int .i64 (Hn : Int), .slice A6 N c6'] 24)).ext g71).ext g72).ext g73).ext g74 = wv := ⟨_, rfl⟩
          obtain ⟨F, hF⟩ : ∃ F, w6.heap.size = F := ⟨_, rfl⟩
          have EV : Ext w6 wv := by rw [← hwv]; (repeat (first | exact Ext.refl _ | apply Ext.alloc | apply Ext.ext))
          have hFv : F < wv.heap.size := by rw [← hwv, ← hF]; simp only [World.size_alloc, ext_size]; omega
          have f0 : wv.cell? ⟨F, 0, none⟩ = some (.int .i64 (Wn : Int)) := by rw [← hwv, ← hF]; simp [go_sem]
          have f1 : wv.cell? ⟨F, 1, none⟩ = some (.int .i64 (Hn : Int)) := by rw [← hwv, ← hF]; simp [go_sem]
          have f2 : wv.cell? ⟨F, 2, none⟩ = some (.slice A6 N c6') := by rw [← hwv, ← hF]; simp [go_sem]
          have hyy : ∀ g, Ext wv (wv.ext g) := fun g => ⟨g, rfl⟩
          have k0 := fun g => ((hyy g).cell hFv).trans f0
          have k1 := fun g => ((hyy g).cell hFv).trans f1
          have k2 := fun g => ((hyy g).cell hFv).trans f2
          have k3 := fun g => ((EV.trans (hyy g)).cell z3).trans m0
          have k4 := fun g => ((EV.trans (hyy g)).cell z3).trans m1
          have k5 := fun g => ((EV.trans (hyy g)).cell z3).trans m2
          have k6 := fun g => ((EV.trans (hyy g)).cell z4).trans o0
          have k7 := fun g => ((EV.trans (hyy g)).cell z4).trans o1
          have k8 := fun g => ((EV.trans (hyy g)).cell z4).trans o2
          have k9 := fun g => ((EV.trans (hyy g)).cell z0).trans c6
          have k10 := fun g => ((EV.trans (hyy g)).cell z0).trans c7
          have k11 := fun g => ((EV.trans (hyy g)).cell z0).trans c8
          have k12 := fun g => ((EV.trans (hyy g)).cell z0).trans c9
          have RL := Lib.hid (fun wx (hx : Ext wv wx) => refLay_any Wn Wn2 Hn2 (Hn : Int) (.slice A3 N c3) (.slice A4 N2 c4) l l2 x y t mn wx (PK3.out.ext ((H6.out.trans EV).trans hx)) hnl (by omega) (PK4.out.ext ((H6.out.trans EV).trans hx)) hnl2 HWH2.out (by omega) (by omega) ht (by omega))
          have YP := Lib.hid (fun wx (hx : Ext wv wx) => P6.out.ext (EV.trans hx))
          have E8 := Lib.hid (E6.out.trans EV)
          rw [hwv, hF]
          clear hwv hF EV hyy f0 f1 f2 c0 c1 c2 c3' c4' c5 c6 c7 c8 c9 m0 m1 m2 o0 o1 o2 I1 I2 R1 R2
          refine region_flow 22 [129, 130, 133] (fun t v => match t with | 129 => ∃ A c, v = .agg #[.int .i64 (Wn : Int), .int .i64 (Hn : Int), .slice A N c] | 130 => v = .bool true | 133 => v = .bool true | _ => False) (fun t v w' => match t with | 129 => ∃ A c, v = .agg #[.int .i64 (Wn : Int), .int .i64 (Hn : Int), .slice A N c] ∧ Pix .i64 w' (.slice A N c) LL | _ => True) (by kernel_rfl) (by kernel_rfl) ?hq9 ?hu9 ?hR9 ?h9
          case hq9 => intro t v h; split at h <;> simp_all
          case hu9 => intro t h; split at h <;> simp_all [undef]
          case hR9 => intro t v w w' h1 h2 h3; split at h1 <;> first | exact (by obtain ⟨A, c, e, h⟩ := h2; exact ⟨A, c, e, h.ext h3⟩) | trivial
          case h9 =>
            dsimp only [List.take, List.drop]
            repeat (first | (refine Flow.skip rfl ?_; simp only [Act.put, List.setIfInBounds_toArray, List.set_cons_zero, List.set_cons_succ]) | (refine Flow.plain rfl rfl ?_; go_big_quiet_step (fail); refine wpQuiet_nil ?_))
            refine Flow.call Try.call30 [.agg #[.int .i64 (Wn : Int), .int .i64 (Hn : Int), .slice A3 N c3], .agg #[.int .i64 (Wn2 : Int), .int .i64 (Hn2 : Int), .slice A4 N2 c4], .int .i64 x, .int .i64 y, .int .i64 (t : Int), .int .i64 (mn : Int)] rfl rfl rfl ?_ (fun wx hx hf => (RL.out wx hx).mono ?_) ?_
            · exact ⟨_, none, 0, rfl⟩
            · rintro e' w' ⟨v', he, hO, hE⟩
              rw [HLL.out] at hO
              have hP := hO.pix
              obtain ⟨A', c', rfl⟩ := own_slice hO.1
              rw [HLN.out] at he hP
              exact ⟨_, he, hE, ⟨_, _, rfl⟩, ⟨_, _, rfl, hP⟩⟩
            rintro v ⟨A', c', rfl⟩
            simp only [Act.put, List.setIfInBounds_toArray, List.set_cons_zero, List.set_cons_succ]
            refine Flow.call Try.call19 [.agg #[.int .i64 (Wn : Int), .int .i64 (Hn : Int), .slice A6 N c6'], .agg #[.int .i64 (Wn : Int), .int .i64 (Hn : Int), .slice A' N c']] rfl rfl rfl ?_ (fun wx hx hf => ?_) ?_
            · exact ⟨_, rfl⟩
            · obtain ⟨A9, c9, e9, h68⟩ := hf.at 129 (by kernel_rfl) ⟨A', c', rfl⟩
              have e10 : (Value.agg #[.int .i64 (Wn : Int), .int .i64 (Hn : Int), .slice A' N c']) = .agg #[.int .i64 (Wn : Int), .int .i64 (Hn : Int), .slice A9 N c9] := e9
              simp only [Value.agg.injEq, Array.mk.injEq, List.cons.injEq, Value.slice.injEq, and_true, true_and] at e10
              obtain ⟨rfl, rfl⟩ := e10
              exact (is_yes (Wn : Int) (Hn : Int) _ _ _ wx (YP.out wx hx) h68).mono fun e w' ⟨h1, h2⟩ => ⟨_, h1, h2, rfl, trivial⟩
            rintro v rfl
            simp only [Act.put, List.setIfInBounds_toArray, List.set_cons_zero, List.set_cons_succ]
            repeat (first | (refine Flow.skip rfl ?_; simp only [Act.put, List.setIfInBounds_toArray, List.set_cons_zero, List.set_cons_succ]) | (refine Flow.plain rfl rfl ?_; go_big_quiet_step (fail); refine wpQuiet_nil ?_))
            refine Flow.call Try.call10 [] rfl rfl rfl ?_ (fun wx hx hf => (awake_any wx).mono ?_) ?_
            · exact ⟨_, rfl⟩
            · exact fun e w' ⟨h1, h2⟩ => ⟨_, h1, h2, rfl, trivial⟩
            rintro v rfl
            simp only [Act.put, List.setIfInBounds_toArray, List.set_cons_zero, List.set_cons_succ]
            repeat (first | (refine Flow.skip rfl ?_; simp only [Act.put, List.setIfInBounds_toArray, List.set_cons_zero, List.set_cons_succ]) | (refine Flow.plain rfl rfl ?_; go_big_quiet_step (fail); refine wpQuiet_nil ?_))
            refine Flow.nil fun w9 hx9 hf => ?_
            have E9 := Lib.hid (E8.out.trans hx9)
            clear hf hx9
            dsimp only [wpList, Exit.then]
            go_wp2
            go_ret
            exact ⟨rfl, E9.out⟩
    · have hbad : rightI W H l = false ∨ (rightI W H l = true ∧ rightI W2 H2 l2 = false) := by
        cases h1 : rightI W H l with
        | false => exact .inl rfl
        | true =>
          cases h2 : rightI W2 H2 l2 with
          | false => exact .inr ⟨rfl, rfl⟩
          | true => exact absurd ⟨h1, h2⟩ hR2
      clear hR2
      refine (lay_range W H W2 H2 m (.slice X N c) (.slice X2 N2 d) l l2 x y t wk PM.out PO.out hnl hnl2 hx hy ht hW hH hW2 hH2 hmb hbad).mono ?_
      rintro e' w6 ⟨rfl, hE6⟩
      obtain ⟨c0, c1, c2, c3', c4', c5⟩ := FZ.out _ (KZ.out.trans hE6)
      obtain ⟨c6, c7, c8, c9⟩ := FY.out _ (KZ.out.trans hE6)
      obtain ⟨m0, m1, m2⟩ : _ ∧ _ ∧ _ := ⟨(hE6.cell hk3).trans n0, (hE6.cell hk3).trans n1, (hE6.cell hk3).trans n2⟩
      obtain ⟨o0, o1, o2⟩ : _ ∧ _ ∧ _ := ⟨(hE6.cell hk4).trans n3, (hE6.cell hk4).trans n4, (hE6.cell hk4).trans n5⟩
      have z0 : q < w6.heap.size := Nat.lt_of_lt_of_le hz (KZ.out.trans hE6).size
      have z3 : g3 < w6.heap.size := Nat.lt_of_lt_of_le hk3 hE6.size
      have z4 : g4 < w6.heap.size := Nat.lt_of_lt_of_le hk4 hE6.size
      have E6 := Lib.hid ((EZ.out.trans KZ.out).trans hE6)
      have H6 := Lib.hid hE6
      have I1 := Lib.hid (fun wx (hx : Ext w6 wx) => is_yes W H (.slice X N c) (.slice A3 N c3) l wx (P.out.ext (E6.out.trans hx)) (PK3.out.ext (hE6.trans hx)))
      have I2 := Lib.hid (fun wx (hx : Ext w6 wx) => is_yes W2 H2 (.slice X2 N2 d) (.slice A4 N2 c4) l2 wx (P2.out.ext (E6.out.trans hx)) (PK4.out.ext (hE6.trans hx)))
      have R1 := Lib.hid (fun wx (hx : Ext w6 wx) => refRightImg_any W H (.slice A3 N c3) l wx hW hH (PK3.out.ext (hE6.trans hx)))
      have R2 := Lib.hid (fun wx (hx : Ext w6 wx) => refRightImg_any W2 H2 (.slice A4 N2 c4) l2 wx hW2 hH2 (PK4.out.ext (hE6.trans hx)))
      clear hE6 n0 n1 n2 n3 n4 n5
      rcases hbad with h1 | ⟨h1, h2⟩
      · rw [h1] at R1
        go_wp2_with fail
        refine (I1.out _ (by (repeat (first | exact Ext.refl _ | apply Ext.alloc | apply Ext.ext)))).mono ?_
        rintro e' w71 ⟨rfl, g71, rfl⟩
        go_wp2_with fail
        refine (I2.out _ (by (repeat (first | exact Ext.refl _ | apply Ext.alloc | apply Ext.ext)))).mono ?_
        rintro e' w72 ⟨rfl, g72, rfl⟩
        go_wp2_with fail
        refine (R1.out _ (by (repeat (first | exact Ext.refl _ | apply Ext.alloc | apply Ext.ext)))).mono ?_
        rintro e' w73 ⟨rfl, g73, rfl⟩
        go_wp2_with fail
        refine (empty_yes none 0 _).mono ?_
        rintro e' w74 ⟨rfl, g74, rfl⟩
        go_wp2_with fail
        refine (awake_any _).mono ?_
        rintro e' w75 ⟨rfl, g75, rfl⟩
        go_wp2
        go_ret
        exact ⟨rfl, (((((E6.out.alloc _).ext g71).ext g72).ext g73).ext g74).ext g75⟩
      · rw [h1] at R1
        rw [h2] at R2
        go_wp2_with fail
        refine (I1.out _ (by (repeat (first | exact Ext.refl _ | apply Ext.alloc | apply Ext.ext)))).mono ?_
        rintro e' w71 ⟨rfl, g71, rfl⟩
        go_wp2_with fail
        refine (I2.out _ (by (repeat (first | exact Ext.refl _ | apply Ext.alloc | apply Ext.ext)))).mono ?_
        rintro e' w72 ⟨rfl, g72, rfl⟩
        go_wp2_with fail
        refine (R1.out _ (by (repeat (first | exact Ext.refl _ | apply Ext.alloc | apply Ext.ext)))).mono ?_
        rintro e' w73 ⟨rfl, g73, rfl⟩
        go_wp2_with fail
        refine (R2.out _ (by (repeat (first | exact Ext.refl _ | apply Ext.alloc | apply Ext.ext)))).mono ?_
        rintro e' w74 ⟨rfl, g74, rfl⟩
        go_wp2_with fail
        refine (empty_yes none 0 _).mono ?_
        rintro e' w75 ⟨rfl, g75, rfl⟩
        go_wp2_with fail
        refine (awake_any _).mono ?_
        rintro e' w76 ⟨rfl, g76, rfl⟩
        go_wp2
        go_ret
        exact ⟨rfl, ((((((E6.out.alloc _).ext g71).ext g72).ext g73).ext g74).ext g75).ext g76⟩

end Go.Proofs.Ytncphiphgkjflaa
