import Derived.Test.YtncphiphgkjflaaIAwake
namespace Go.Proofs.Ytncphiphgkjflaa
open Go.RowKit Go.Shelf
set_option linter.unusedVariables false
set_option linter.unusedSimpArgs false

set_option maxRecDepth 100000 in
set_option maxHeartbeats 1600000 in
theorem row_any (Wn y x0 x1 b off N c : Nat) (H : Int) (w : World) (h1 : y * Wn + x0 < y * Wn + x1) (h2 : y * Wn + x1 ≤ N) (h3 : N ≤ c) (h4 : c ≤ 9223372036854775807) (hW : Wn ≤ 256) (hy : y ≤ 256) :
    Calls Try.prog 36 #[.agg #[.int .i64 (Wn : Int), .int .i64 H, .slice (some ⟨b, off, none⟩) N c], .int .i64 (y : Int), .int .i64 (x0 : Int), .int .i64 (x1 : Int)] w fun e w' =>
      e = .returned (.slice (some ⟨b, off + (y * Wn + x0) * 4, none⟩) (x1 - x0) (x1 - x0)) ∧ Ext w w' := by
  obtain ⟨q, hq⟩ : ∃ q, y * Wn = q := ⟨_, rfl⟩
  have hq' : (y : Int) * (Wn : Int) = (q : Int) := by rw [← hq]; simp
  have hqb : q ≤ 65536 := by rw [← hq]; exact Nat.mul_le_mul hy hW
  rw [hq] at h1 h2 ⊢
  have HQ := Lib.hid hq
  clear hq
  have e1 : (q : Int) + (x0 : Int) ≤ (q : Int) + (x1 : Int) := by omega
  have e2 : (q : Int) + (x1 : Int) ≤ (c : Int) := by omega
  have e3 : ¬ (q + x1 - (q + x0) = 0) := by omega
  have e4 : ¬ (x1 - x0 = 0) := by omega
  go_enter Try.func36, Try.ntmps36
  go_wp2
  go_ret
  refine ⟨?_, (Ext.refl w).alloc _⟩
  show Ending.returned (.slice (some ⟨b, off + (q + x0) * 4, none⟩) (q + x1 - (q + x0)) (q + x1 - (q + x0))) = _
  rw [show q + x1 - (q + x0) = x1 - x0 by omega]

/-- some pixels are p -/
def upd (l : List Px) (P : Nat → Bool) (p : Px) : List Px := (List.range l.length).map fun k => if P k then p else l.getD k noP
theorem upd_len (l : List Px) (P : Nat → Bool) (p : Px) : (upd l P p).length = l.length := by simp [upd]
theorem upd_at (l : List Px) (P : Nat → Bool) (p : Px) (k : Nat) (hk : k < l.length) : (upd l P p)[k]? = some (if P k then p else l.getD k noP) := by
  unfold upd; rw [List.getElem?_map, List.getElem?_range hk]; rfl
theorem upd_congr {l : List Px} {P Q : Nat → Bool} {p : Px} (h : ∀ k, k < l.length → P k = Q k) : upd l P p = upd l Q p := by
  unfold upd
  apply List.map_congr_left
  intro k hk
  rw [h k (List.mem_range.1 hk)]
theorem upd_none {l : List Px} {P : Nat → Bool} {p : Px} (h : ∀ k, k < l.length → P k = false) : upd l P p = l := by
  apply List.ext_getElem?
  intro k
  by_cases hk : k < l.length
  · rw [upd_at l P p k hk, h k hk, List.getElem?_eq_getElem hk, List.getD_eq_getElem?_getD, List.getElem?_eq_getElem hk]; rfl
  · rw [List.getElem?_eq_none (by rw [upd_len]; omega), List.getElem?_eq_none (by omega)]
theorem upd_set (l : List Px) (P : Nat → Bool) (p : Px) (i : Nat) (hi : i < l.length) : (upd l P p).set i p = upd l (fun k => P k || decide (k = i)) p := by
  apply List.ext_getElem?
  intro k
  rw [List.getElem?_set]
  by_cases hk : k < l.length
  · rw [upd_at _ _ _ k hk, upd_at _ _ _ k hk]
    by_cases e : i = k
    · subst e; simp [upd_len, hi]
    · rw [if_neg e]; simp [Ne.symm e]
  · rw [List.getElem?_eq_none (by rw [upd_len]; omega), List.getElem?_eq_none (by rw [upd_len]; omega)]
    by_cases e : i = k
    · subst e; omega
    · simp [e]

theorem flat_set (κ : IntKind) (l : List Px) (i : Nat) (p : Px) (hi : i < l.length) :
    ((((l.flatMap (cellsP κ)).set (i * 4) (.int κ (p.1 : Int))).set (i * 4 + 1) (.int κ (p.2.1 : Int))).set (i * 4 + 2) (.int κ (p.2.2.1 : Int))).set (i * 4 + 3) (.int κ (p.2.2.2 : Int)) = (l.set i p).flatMap (cellsP κ) := by
  apply List.ext_getElem?
  intro k
  simp only [List.getElem?_set, List.length_set, flat_len]
  by_cases hk : k < l.length * 4
  · obtain ⟨a, b, hb, rfl⟩ : ∃ a b, b < 4 ∧ k = a * 4 + b := ⟨k / 4, k % 4, by omega, by omega⟩
    have ha : a < l.length := by omega
    rw [flat4 κ l a b ha hb, flat4 κ (l.set i p) a b (by simpa using ha) hb]
    by_cases e : a = i
    · subst e
      have e1 : (l.set a p).getD a noP = p := by rw [List.getD_eq_getElem?_getD, List.getElem?_set_self ha]; rfl
      rw [e1]
      match b, hb with
      | 0, _ => simp [cellsP]; omega
      | 1, _ => simp [cellsP]; omega
      | 2, _ => simp [cellsP]; omega
      | 3, _ => simp [cellsP]; omega
    · have e1 : (l.set i p).getD a noP = l.getD a noP := by rw [List.getD_eq_getElem?_getD, List.getElem?_set_ne (Ne.symm e), ← List.getD_eq_getElem?_getD]
      rw [e1, if_neg (by omega), if_neg (by omega), if_neg (by omega), if_neg (by omega)]
  · rw [if_neg (by omega), if_neg (by omega), if_neg (by omega), if_neg (by omega), List.getElem?_eq_none (by rw [flat_len]; omega), List.getElem?_eq_none (by rw [flat_len]; simp; omega)]

/-- a pixel is stored in pixels of the call's own -/
theorem OwnP.stored {κ : IntKind} {T : TypeId} {base : Nat} {w : World} {g n c : Nat} {l : List Px} (h : OwnP κ T base w (.slice (some ⟨g, 0, none⟩) n c) l) (i : Nat) (p : Px) (hi : i < l.length) (hp : okP p) :
    OwnP κ T base ((((w.setCell ⟨g, i * 4, none⟩ (.int κ (p.1 : Int))).setCell ⟨g, i * 4 + 1, none⟩ (.int κ (p.2.1 : Int))).setCell ⟨g, i * 4 + 2, none⟩ (.int κ (p.2.2.1 : Int))).setCell ⟨g, i * 4 + 3, none⟩ (.int κ (p.2.2.2 : Int))) (.slice (some ⟨g, 0, none⟩) n c) (l.set i p) := by
  obtain ⟨h, hb⟩ := h
  obtain ⟨A, cap, e⟩ := own_slice h
  simp only [Value.slice.injEq] at e
  obtain ⟨_, hn, _⟩ := e
  rw [hn] at h ⊢
  have h4 := ((((h.stored (i * 4) (.int κ (p.1 : Int))).1.stored (i * 4 + 1) (.int κ (p.2.1 : Int))).1.stored (i * 4 + 2) (.int κ (p.2.2.1 : Int))).1.stored (i * 4 + 3) (.int κ (p.2.2.2 : Int))).1
  rw [flat_set κ l i p hi] at h4
  refine ⟨by rw [List.length_set]; exact h4, fun k => ?_⟩
  rw [List.getD_eq_getElem?_getD, List.getElem?_set]
  split
  · simpa [hi] using hp
  · rw [← List.getD_eq_getElem?_getD]; exact hb k

/-- a colour in a box -/
def inBox (W : Nat) (b : Int × Int × Int × Int) (k : Nat) : Bool := decide (b.1 ≤ ((k % W : Nat) : Int) ∧ ((k % W : Nat) : Int) < b.2.2.1 ∧ b.2.1 ≤ ((k / W : Nat) : Int) ∧ ((k / W : Nat) : Int) < b.2.2.2)
def fillL (W : Nat) (l : List Px) (b : Int × Int × Int × Int) (p : Px) : List Px := upd l (inBox W b) p

theorem meet_nat (W H : Nat) (b : Int × Int × Int × Int) (hW : 1 ≤ W) (hH : 1 ≤ H) : ∃ x0 y0 x1 y1 : Nat, meetB b (0, 0, (W : Int), (H : Int)) = ((x0 : Int), (y0 : Int), (x1 : Int), (y1 : Int)) ∧ x1 ≤ W ∧ y1 ≤ H ∧ ((x0 < x1 ∧ y0 < y1) ∨ (x0 = 0 ∧ y0 = 0 ∧ x1 = 0 ∧ y1 = 0)) ∧
    ∀ k, k < W * H → inBox W b k = (decide (x0 ≤ k % W ∧ k % W < x1) && decide (y0 ≤ k / W ∧ k / W < y1)) := by
  obtain ⟨a0, b0, a1, b1⟩ := b
  have hkk : ∀ k, k < W * H → k % W < W ∧ k / W < H := fun k hk => ⟨Nat.mod_lt _ hW, Nat.div_lt_of_lt_mul hk⟩
  unfold meetB inBox
  simp only
  by_cases h : min a1 (W : Int) ≤ max a0 0 ∨ min b1 (H : Int) ≤ max b0 0
  · rw [if_pos h]
    refine ⟨0, 0, 0, 0, rfl, by omega, by omega, .inr ⟨rfl, rfl, rfl, rfl⟩, fun k hk => ?_⟩
    obtain ⟨h1, h2⟩ := hkk k hk
    generalize k % W = X at *
    generalize k / W = Y at *
    rw [← Bool.decide_and, decide_eq_decide]
    omega
  · rw [if_neg h]
    refine ⟨(max a0 0).toNat, (max b0 0).toNat, (min a1 (W : Int)).toNat, (min b1 (H : Int)).toNat, ?_, by omega, by omega, .inl ⟨by omega, by omega⟩, fun k hk => ?_⟩
    · simp only [Prod.mk.injEq]; omega
    · obtain ⟨h1, h2⟩ := hkk k hk
      generalize k % W = X at *
      generalize k / W = Y at *
      rw [← Bool.decide_and, decide_eq_decide]
      omega

end Go.Proofs.Ytncphiphgkjflaa
