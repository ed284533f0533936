import Derived.Test.YtblfplkocljlgaaTDropsW
namespace Go.Proofs.Ytblfplkocljlgaa
open Go.RowKit
set_option linter.unusedVariables false
set_option linter.unusedSimpArgs false

theorem flatP_set (κ : IntKind) (l : List Px) (i : Nat) (p : Px) (hi : i < l.length) :
    ((((l.flatMap (cellsP κ)).set (i * 4) (.int κ (p.1 : Int))).set (i * 4 + 1) (.int κ (p.2.1 : Int))).set (i * 4 + 2) (.int κ (p.2.2.1 : Int))).set (i * 4 + 3) (.int κ (p.2.2.2 : Int)) = (l.set i p).flatMap (cellsP κ) := by
  apply List.ext_getElem?
  intro k
  simp only [List.getElem?_set, List.length_set, flat_len]
  by_cases hk : k < l.length * 4
  · obtain ⟨a, b, hb, rfl⟩ : ∃ a b, b < 4 ∧ k = a * 4 + b := ⟨k / 4, k % 4, by omega, by omega⟩
    have ha : a < l.length := by omega
    rw [flat4 κ l a b ha hb, flat4 κ (l.set i p) a b (by simpa using ha) hb]
    by_cases e : a = i
    · subst e
      have e1 : (l.set a p).getD a noP = p := by rw [List.getD_eq_getElem?_getD, List.getElem?_set_self ha]; rfl
      rw [e1]
      match b, hb with
      | 0, _ => simp [cellsP]; omega
      | 1, _ => simp [cellsP]; omega
      | 2, _ => simp [cellsP]; omega
      | 3, _ => simp [cellsP]; omega
    · have e1 : (l.set i p).getD a noP = l.getD a noP := by rw [List.getD_eq_getElem?_getD, List.getElem?_set_ne (Ne.symm e), ← List.getD_eq_getElem?_getD]
      rw [e1, if_neg (by omega), if_neg (by omega), if_neg (by omega), if_neg (by omega)]
  · rw [if_neg (by omega), if_neg (by omega), if_neg (by omega), if_neg (by omega), List.getElem?_eq_none (by rw [flat_len]; omega), List.getElem?_eq_none (by rw [flat_len]; simp; omega)]

/-- a pixel is stored in pixels of the call's own -/
theorem OwnP.stored {κ : IntKind} {T : TypeId} {base : Nat} {w : World} {g n c : Nat} {l : List Px} (h : OwnP κ T base w (.slice (some ⟨g, 0, none⟩) n c) l) (i : Nat) (p : Px) (hi : i < l.length) (hp : okP p) :
    OwnP κ T base ((((w.setCell ⟨g, i * 4, none⟩ (.int κ (p.1 : Int))).setCell ⟨g, i * 4 + 1, none⟩ (.int κ (p.2.1 : Int))).setCell ⟨g, i * 4 + 2, none⟩ (.int κ (p.2.2.1 : Int))).setCell ⟨g, i * 4 + 3, none⟩ (.int κ (p.2.2.2 : Int))) (.slice (some ⟨g, 0, none⟩) n c) (l.set i p) := by
  obtain ⟨h, hb⟩ := h
  obtain ⟨A, cap, e⟩ := own_slice h
  simp only [Value.slice.injEq] at e
  obtain ⟨_, hn, _⟩ := e
  rw [hn] at h ⊢
  have h4 := ((((h.stored (i * 4) (.int κ (p.1 : Int))).1.stored (i * 4 + 1) (.int κ (p.2.1 : Int))).1.stored (i * 4 + 2) (.int κ (p.2.2.1 : Int))).1.stored (i * 4 + 3) (.int κ (p.2.2.2 : Int))).1
  rw [flatP_set κ l i p hi] at h4
  refine ⟨by rw [List.length_set]; exact h4, fun k => ?_⟩
  rw [List.getD_eq_getElem?_getD, List.getElem?_set]
  split
  · simpa [hi] using hp
  · rw [← List.getD_eq_getElem?_getD]; exact hb k

theorem row_end {W H x0 d y : Nat} (hy : y < H) (hx : x0 + d ≤ W) : y * W + x0 + d ≤ W * H := by
  have : (y + 1) * W ≤ H * W := Nat.mul_le_mul_right _ (by omega)
  rw [Nat.add_mul, Nat.mul_comm H W] at this
  omega

end Go.Proofs.Ytblfplkocljlgaa
