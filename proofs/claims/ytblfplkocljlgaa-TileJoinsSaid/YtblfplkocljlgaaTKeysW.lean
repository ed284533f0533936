import Derived.Test.YtblfplkocljlgaaTAwake
namespace Go.Proofs.Ytblfplkocljlgaa
open Go.RowKit Go.ChangeMaps
set_option linter.unusedVariables false
set_option linter.unusedSimpArgs false

def seenL (X Y : Int) (nx m : Nat) : List (KK × Value) := (keysN X Y nx m).map fun k => (k, .bool true)
def keyAt (X Y : Int) (nx i : Nat) : KK := (X + ((i % nx : Nat) : Int), Y + ((i / nx : Nat) : Int))

theorem keyAt_inj {X Y : Int} {nx i j : Nat} (hn : 0 < nx) (h : keyAt X Y nx i = keyAt X Y nx j) : i = j := by
  unfold keyAt at h
  simp only [Prod.mk.injEq] at h
  have h1 : i % nx = j % nx := by omega
  have h2 : i / nx = j / nx := by omega
  rw [← Nat.mod_add_div i nx, ← Nat.mod_add_div j nx, h1, h2]

theorem seen_succ (X Y : Int) (nx m : Nat) : seenL X Y nx (m + 1) = seenL X Y nx m ++ [(keyAt X Y nx m, .bool true)] := by
  unfold seenL keysN keyAt
  rw [List.range_succ]; simp

theorem seen_no (X Y : Int) (nx i : Nat) (hn : 0 < nx) : ∀ p ∈ seenL X Y nx i, p.1 ≠ keyAt X Y nx i := by
  intro p hp
  unfold seenL keysN at hp
  simp only [List.map_map, List.mem_map, List.mem_range, Function.comp] at hp
  obtain ⟨j, hj, rfl⟩ := hp
  intro e
  have := keyAt_inj hn (show keyAt X Y nx j = keyAt X Y nx i from e)
  omega

theorem seen_yes (X Y : Int) (nx m i : Nat) (hi : i < m) : (seenL X Y nx m)[i]? = some (keyAt X Y nx i, .bool true) := by
  unfold seenL keysN keyAt
  rw [List.map_map, List.getElem?_map, List.getElem?_range hi]; rfl

theorem put_new {l : List (KK × Value)} {k : KK} {v : Value} (h : ∀ p ∈ l, p.1 ≠ k) : putK l k v = l ++ [(k, v)] := by
  unfold putK
  rw [if_neg]
  simp only [List.any_eq_true, decide_eq_true_eq, not_exists, not_and]
  exact h

/-- the tiles of a window stand in order -/
theorem key_order (X Y : Int) (nx i : Nat) (hn : 0 < nx) : ((keyAt X Y nx (i + 1)).2 = (keyAt X Y nx i).2 ∧ (keyAt X Y nx i).1 < (keyAt X Y nx (i + 1)).1) ∨ (keyAt X Y nx i).2 < (keyAt X Y nx (i + 1)).2 := by
  unfold keyAt
  simp only
  have h1 := Nat.mod_lt i hn
  have h2 := Nat.mod_add_div i nx
  obtain ⟨a, ha⟩ : ∃ a, i % nx = a := ⟨_, rfl⟩
  obtain ⟨b, hb⟩ : ∃ b, i / nx = b := ⟨_, rfl⟩
  rw [ha, hb] at h2 ⊢
  rw [ha] at h1
  by_cases h : a + 1 < nx
  · left
    have e : i + 1 = (a + 1) + nx * b := by omega
    rw [e, Nat.add_mul_mod_self_left, Nat.add_mul_div_left _ _ hn, Nat.mod_eq_of_lt h, Nat.div_eq_of_lt h]
    omega
  · right
    have e : i + 1 = 0 + nx * (b + 1) := by rw [Nat.mul_add]; omega
    rw [e, Nat.add_mul_div_left _ _ hn, Nat.zero_div]
    omega

/-- a window's tile is right, and meets it -/
theorem key_meets {x0 y0 x1 y1 X Y : Int} {nx ny : Nat} (hw : winB (x0, y0, x1, y1) = true) (h : WinN x0 y0 x1 y1 X Y nx ny) (i : Nat) (hi : i < ny * nx) :
    rightK (keyAt X Y nx i) = true ∧ let b := tboxB (keyAt X Y nx i); let m := meetB b (x0, y0, x1, y1); (decide (m.2.2.1 ≤ m.1) || decide (m.2.2.2 ≤ m.2.1)) = false := by
  obtain ⟨e1, e2, e3, e4, b1, b2, b3, b4⟩ := h
  have hb := (winB_iff _ _ _ _).1 hw
  have h1 := Nat.mod_lt i (show 0 < nx by omega)
  have h2 : i / nx < ny := Nat.div_lt_of_lt_mul (by rwa [Nat.mul_comm])
  unfold keyAt
  obtain ⟨a, ha⟩ : ∃ a, i % nx = a := ⟨_, rfl⟩
  obtain ⟨b, hb'⟩ : ∃ b, i / nx = b := ⟨_, rfl⟩
  rw [ha] at h1 ⊢
  rw [hb'] at h2 ⊢
  have hr : rightK (X + (a : Int), Y + (b : Int)) = true := by unfold rightK; simp only [decide_eq_true_eq]; omega
  refine ⟨hr, ?_⟩
  unfold tboxB
  rw [hr]
  simp only [if_true]
  unfold meetB
  dsimp only
  rw [if_neg (by omega)]
  simp only [Bool.or_eq_false_iff, decide_eq_false_iff_not]
  omega

/-- each pixel of a window lies in one of its tiles -/
theorem key_covers {x0 y0 x1 y1 X Y : Int} {nx ny : Nat} (h : WinN x0 y0 x1 y1 X Y nx ny) (x y : Int) (hx : x0 ≤ x ∧ x < x1) (hy : y0 ≤ y ∧ y < y1) :
    ∃ i, i < ny * nx ∧ keyAt X Y nx i = (x / 8, y / 8) := by
  obtain ⟨e1, e2, e3, e4, b1, b2, b3, b4⟩ := h
  obtain ⟨a, ha⟩ : ∃ a : Nat, x / 8 = X + a := ⟨(x / 8 - X).toNat, by omega⟩
  obtain ⟨b, hb⟩ : ∃ b : Nat, y / 8 = Y + b := ⟨(y / 8 - Y).toNat, by omega⟩
  have ha' : a < nx := by omega
  have hb' : b < ny := by omega
  refine ⟨a + nx * b, ?_, ?_⟩
  · have := Nat.mul_le_mul_right nx (show b + 1 ≤ ny by omega)
    rw [Nat.add_mul, Nat.one_mul] at this
    rw [Nat.mul_comm nx b]; omega
  · unfold keyAt
    rw [Nat.add_mul_mod_self_left, Nat.mod_eq_of_lt ha', Nat.add_mul_div_left _ _ (by omega), Nat.div_eq_of_lt ha', ha, hb]; simp

end Go.Proofs.Ytblfplkocljlgaa
