import Derived.Test.YtncphiphgkjflaaIFillW
namespace Go.Proofs.Ytncphiphgkjflaa
open Go.RowKit Go.Shelf
set_option linter.unusedVariables false
set_option linter.unusedSimpArgs false

theorem getD_sub (l : List Px) (i k j : Nat) : ((l.drop i).take k).getD j noP = if j < k then l.getD (i + j) noP else noP := by
  rw [List.getD_eq_getElem?_getD, List.getElem?_take]
  split
  · rw [List.getElem?_drop, ← List.getD_eq_getElem?_getD]
  · rfl

/-- a part of a slice of pixels -/
theorem Pix.sub {κ : IntKind} {w : World} {b off n c : Nat} {l : List Px} (h : Pix κ w (.slice (some ⟨b, off, none⟩) n c) l) (i k : Nat) (hk : i + k ≤ n) : Pix κ w (.slice (some ⟨b, off + i * 4, none⟩) k k) ((l.drop i).take k) := by
  have hn := h.len
  obtain ⟨A', cap, e, h2, h3, _, hb, hc⟩ := h
  simp only [Value.slice.injEq] at e
  obtain ⟨rfl, _, rfl⟩ := e
  have hlen : ((l.drop i).take k).length = k := by rw [List.length_take, List.length_drop]; omega
  refine ⟨some ⟨b, off + i * 4, none⟩, k, by rw [hlen], by omega, by omega, (fun h => by cases h), fun j => ?_, fun h0 => ?_⟩
  · rw [getD_sub]
    split
    · exact hb _
    · exact ⟨by decide, by decide, by decide, by decide⟩
  · rw [hlen] at h0
    obtain ⟨b', off', e1, e2, e3⟩ := hc (by omega)
    simp only [Option.some.injEq, Addr.mk.injEq, and_true] at e1
    obtain ⟨rfl, rfl⟩ := e1
    refine ⟨b, off + i * 4, rfl, e2, fun j hj m hm => ?_⟩
    rw [hlen] at hj
    rw [getD_sub, if_pos hj, ← e3 (i + j) (by omega) m hm]
    congr 2
    omega

/-- rows y0 .. y0+k-1, from x0 to x1 -/
def cropPre (W : Nat) (l : List Px) (x0 d y0 k : Nat) : List Px := (List.range k).flatMap fun j => (l.drop ((y0 + j) * W + x0)).take d
theorem cropPre_succ (W : Nat) (l : List Px) (x0 d y0 k : Nat) : cropPre W l x0 d y0 (k + 1) = cropPre W l x0 d y0 k ++ (l.drop ((y0 + k) * W + x0)).take d := by
  unfold cropPre
  rw [List.range_succ, List.flatMap_append]
  simp
theorem row_end {W H x0 d y : Nat} (hy : y < H) (hx : x0 + d ≤ W) : y * W + x0 + d ≤ W * H := by
  have : (y + 1) * W ≤ H * W := Nat.mul_le_mul_right _ (by omega)
  rw [Nat.add_mul, Nat.mul_comm H W] at this
  omega
theorem cropPre_len {W H : Nat} {l : List Px} {x0 d y0 : Nat} (hl : l.length = W * H) (hx : x0 + d ≤ W) : ∀ k, y0 + k ≤ H → (cropPre W l x0 d y0 k).length = k * d := by
  intro k
  induction k with
  | zero => intro _; simp [cropPre]
  | succ k ih =>
    intro h
    rw [cropPre_succ, List.length_append, ih (by omega), List.length_take, List.length_drop, hl]
    have := row_end (W := W) (H := H) (x0 := x0) (d := d) (y := y0 + k) (by omega) hx
    have e : (k + 1) * d = k * d + d := Nat.succ_mul k d
    omega
theorem cropPre_at {W H : Nat} {l : List Px} {x0 d y0 : Nat} (hl : l.length = W * H) (hx : x0 + d ≤ W) : ∀ k, y0 + k ≤ H → ∀ y x, y < k → x < d → (cropPre W l x0 d y0 k).getD (y * d + x) noP = l.getD ((y0 + y) * W + x0 + x) noP := by
  intro k
  induction k with
  | zero => intro _ y x h; omega
  | succ k ih =>
    intro h y x hy hxd
    have hlen := cropPre_len (y0 := y0) hl hx k (by omega)
    rw [cropPre_succ, List.getD_eq_getElem?_getD, List.getElem?_append]
    by_cases e : y < k
    · have : (y + 1) * d ≤ k * d := Nat.mul_le_mul_right _ (by omega)
      rw [Nat.add_mul] at this
      rw [if_pos (by omega), ← List.getD_eq_getElem?_getD]
      exact ih (by omega) y x e hxd
    · obtain rfl : y = k := by omega
      rw [if_neg (by omega), ← List.getD_eq_getElem?_getD, hlen, Nat.add_sub_cancel_left, getD_sub, if_pos hxd]
theorem cropPre_right {W : Nat} {l : List Px} {x0 d y0 : Nat} (h : allRight l = true) (k : Nat) : allRight (cropPre W l x0 d y0 k) = true := by
  unfold allRight at h ⊢
  rw [List.all_eq_true] at h ⊢
  intro p hp
  unfold cropPre at hp
  rw [List.mem_flatMap] at hp
  obtain ⟨j, _, hj⟩ := hp
  exact h p (List.mem_of_mem_drop (List.mem_of_mem_take hj))

def hasB (a : Int × Int × Int × Int) (x y : Int) : Bool := decide (a.1 ≤ x ∧ x < a.2.2.1 ∧ a.2.1 ≤ y ∧ y < a.2.2.2)

set_option maxHeartbeats 1600000 in
theorem has_any (a0 b0 a1 b1 x y : Int) (w : World) :
    Calls Try.prog 37 #[.agg #[.int .i64 a0, .int .i64 b0, .int .i64 a1, .int .i64 b1], .agg #[.int .i64 x, .int .i64 y]] w fun e w' => e = .returned (.bool (hasB (a0, b0, a1, b1) x y)) ∧ Ext w w' := by
  rcases (show (¬ a0 ≤ x) ∨ (a0 ≤ x ∧ ¬ x < a1) ∨ (a0 ≤ x ∧ x < a1 ∧ ¬ b0 ≤ y) ∨ (a0 ≤ x ∧ x < a1 ∧ b0 ≤ y ∧ ¬ y < b1) ∨ (a0 ≤ x ∧ x < a1 ∧ b0 ≤ y ∧ y < b1) by omega) with h1 | ⟨h1, h2⟩ | ⟨h1, h2, h3⟩ | ⟨h1, h2, h3, h4⟩ | ⟨h1, h2, h3, h4⟩
  all_goals (
    go_enter Try.func37, Try.ntmps37
    go_wp2
    go_ret
    exact ⟨ret_bool (by unfold hasB; simp; omega), by ((repeat (first | exact Ext.refl _ | apply Ext.alloc)))⟩)

/-- an image of the call's own, between two rows: it lies in block g -/
def CropSt (w wr : World) (g : Nat) (W H : Int) (v : Value) (l : List Px) : Prop :=
  Ext w wr ∧ g < wr.heap.size ∧ OwnP .u8 40 (g + 1) wr v l ∧ wr.cell? ⟨g, 0, none⟩ = some (.int .i64 W) ∧ wr.cell? ⟨g, 1, none⟩ = some (.int .i64 H) ∧ wr.cell? ⟨g, 2, none⟩ = some v ∧ wr.frozen? ⟨g, 2, none⟩ = false
theorem CropSt.ext {w wr w5 : World} {g : Nat} {W H : Int} {v : Value} {l : List Px} (h : CropSt w wr g W H v l) (he : Ext wr w5) : CropSt w w5 g W H v l := by
  obtain ⟨s1, s2, s3, s4, s5, s6, s7⟩ := h
  exact ⟨s1.trans he, Nat.lt_of_lt_of_le s2 he.size, s3.ext he, (he.cell s2).trans s4, (he.cell s2).trans s5, (he.cell s2).trans s6, (he.frozen s2).trans s7⟩
theorem CropSt.push {w wr w6 : World} {g n c : Nat} {A : Option Addr} {W H : Int} {v' : Value} {l l' : List Px} (h : CropSt w wr g W H (.slice A n c) l) (hg : w.heap.size ≤ g) (hO : OwnP .u8 40 (g + 1) w6 v' l') (hgr : wr.grownBy w6 (Value.ownBlock (.slice A n c))) :
    w6.cell? ⟨g, 2, none⟩ = some (.slice A n c) ∧ w6.frozen? ⟨g, 2, none⟩ = false ∧ CropSt w (w6.setCell ⟨g, 2, none⟩ v') g W H v' l' := by
  obtain ⟨s1, s2, s3, s4, s5, s6, s7⟩ := h
  have hrow : ∀ k, Value.ownBlock (.slice A n c) = some k → g + 1 ≤ k := s3.row
  have hne : Value.ownBlock (.slice A n c) ≠ some g := fun e => by have := hrow _ e; omega
  have E6 := s1.grown hgr (fun k hk => by have := hrow k hk; omega)
  have d2 : ∀ j, w6.cell? ⟨g, j, none⟩ = wr.cell? ⟨g, j, none⟩ := fun j => cell_grown hgr s2 hne
  have f2 : w6.frozen? ⟨g, 2, none⟩ = false := (frozen_grown hgr s2 hne).trans s7
  have g2 := (d2 2).trans s6
  refine ⟨g2, f2, E6.setCell (by simpa using hg) _, by simp [World.setCell]; have := hgr.size; omega, hO.set (by simp), ?_, ?_, ?_, ?_⟩
  · have := d2 0; simp [go_sem, this, s4]
  · have := d2 1; simp [go_sem, this, s5]
  · simp [go_sem, g2]
  · simp [go_sem, f2]

end Go.Proofs.Ytncphiphgkjflaa
