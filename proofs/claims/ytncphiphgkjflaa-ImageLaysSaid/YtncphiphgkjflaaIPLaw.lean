import Derived.Test.YtncphiphgkjflaaIParse
namespace Go.Proofs.Ytncphiphgkjflaa
open Go.RowKit Go.Shelf
set_option linter.unusedVariables false
set_option linter.unusedSimpArgs false

theorem runF_take (q : Px) : ∀ (f : Nat) (l : List Px), l.take (runF q f l) = List.replicate (runF q f l) q := by
  intro f
  induction f with
  | zero => intro l; simp [runF]
  | succ f ih =>
    intro l
    cases l with
    | nil => simp [runF]
    | cons x l =>
      simp only [runF]
      split
      · rename_i h
        rw [Nat.add_comm 1, List.take_succ_cons, ih l, List.replicate_succ, h]
      · simp

theorem runs_len (l : List Px) : ((runsOf l).flatMap runB).length = 5 * (runsOf l).length := by
  induction runsOf l with
  | nil => rfl
  | cons x r ih => rw [List.flatMap_cons, List.length_append, ih]; simp [runB]; omega

theorem parse_runs (M : Nat) : ∀ (n : Nat) (l acc : List Px), l.length ≤ n → acc.length + l.length ≤ M → parseL M (runsOf l).length acc ((runsOf l).flatMap runB) = some (acc ++ l) := by
  intro n
  induction n with
  | zero =>
    intro l acc h _
    have : l = [] := List.eq_nil_of_length_eq_zero (by omega)
    subst this
    simp [runsOf_nil, parseL]
  | succ n ih =>
    intro l acc h hM
    cases l with
    | nil => simp [runsOf_nil, parseL]
    | cons q rest =>
      rw [runsOf_cons]
      simp only [List.length_cons, List.flatMap_cons] at h hM ⊢
      obtain ⟨j, hj⟩ : ∃ j, runF q 255 rest = j := ⟨_, rfl⟩
      have hjl := (runF_len q 255 rest).1
      have ht := runF_take q 255 rest
      rw [hj] at hjl ht ⊢
      have hB : runB (1 + j, q) = [j, q.1, q.2.1, q.2.2.1, q.2.2.2] := by simp [runB]
      rw [hB]
      unfold parseL
      rw [if_neg (by omega)]
      have e1 : ([j, q.1, q.2.1, q.2.2.1, q.2.2.2] ++ (runsOf (rest.drop j)).flatMap runB).getD 0 0 = j := rfl
      have e2 : pxOf ([j, q.1, q.2.1, q.2.2.1, q.2.2.2] ++ (runsOf (rest.drop j)).flatMap runB) = q := rfl
      have e3 : ([j, q.1, q.2.1, q.2.2.1, q.2.2.2] ++ (runsOf (rest.drop j)).flatMap runB).drop 5 = (runsOf (rest.drop j)).flatMap runB := rfl
      rw [e1, e2, e3, ih (rest.drop j) _ (by rw [List.length_drop]; omega) (by rw [List.length_append, List.length_replicate, List.length_drop]; omega)]
      rw [List.append_assoc]
      congr 2
      rw [List.replicate_succ, List.cons_append, ← ht, List.take_append_drop]

theorem parse_back (a b : Nat) (l : List Px) (hr : rightI ((a + 1 : Nat) : Int) ((b + 1 : Nat) : Int) l = true) : parseF (bytesL ((a + 1 : Nat) : Int) ((b + 1 : Nat) : Int) l) = some (a + 1, b + 1, l) := by
  have h := hr
  unfold rightI at h
  simp only [Bool.and_eq_true, decide_eq_true_eq] at h
  obtain ⟨⟨⟨h1, h2⟩, h3⟩, _⟩ := h
  have ha : a < 256 := by simp [sideB] at h1; omega
  have hb : b < 256 := by simp [sideB] at h2; omega
  have hL : l.length = (a + 1) * (b + 1) := by exact_mod_cast h3
  have e : bytesL ((a + 1 : Nat) : Int) ((b + 1 : Nat) : Int) l = a :: b :: (runsOf l).flatMap runB := by
    unfold bytesL runsOf
    rw [show (((a + 1 : Nat) : Int) - 1) % 256 = (a : Int) by omega, show (((b + 1 : Nat) : Int) - 1) % 256 = (b : Int) by omega]
    rfl
  unfold parseF
  rw [e, if_neg (by simp only [List.length_cons, runs_len]; omega)]
  have e1 : (a :: b :: (runsOf l).flatMap runB).getD 0 0 = a := rfl
  have e2 : (a :: b :: (runsOf l).flatMap runB).getD 1 0 = b := rfl
  have e3 : (a :: b :: (runsOf l).flatMap runB).drop 2 = (runsOf l).flatMap runB := rfl
  have e4 : ((a :: b :: (runsOf l).flatMap runB).length - 2) / 5 = (runsOf l).length := by simp only [List.length_cons, runs_len]; omega
  rw [e1, e2, e3, e4, parse_runs ((a + 1) * (b + 1)) l.length l [] (Nat.le_refl _) (by simp [hL])]
  rw [List.nil_append]
  unfold judgeF
  simp only []
  rw [if_pos ⟨hr, e⟩]

theorem parse_some (b : List Nat) (x : Nat × Nat × List Px) (h : parseF b = some x) : rightI (x.1 : Int) (x.2.1 : Int) x.2.2 = true ∧ bytesL (x.1 : Int) (x.2.1 : Int) x.2.2 = b := by
  unfold parseF at h
  split at h
  · cases h
  · unfold judgeF at h
    split at h
    · cases h
    · split at h
      · rename_i hh
        simp only [Option.some.injEq] at h
        subst h
        exact hh
      · cases h

theorem okP_all {κ : IntKind} {w : World} {v : Value} {l : List Px} (h : Pix κ w v l) : ∀ i, okP (l.getD i noP) := by
  obtain ⟨_, _, _, _, _, _, h, _⟩ := h
  exact h

theorem bytesL_ok {a b : Nat} {l : List Px} (hp : ∀ i, okP (l.getD i noP)) : ∀ i, (bytesL (a : Int) (b : Int) l).getD i 0 < 256 := by
  have h1 : ∀ n (l : List Px), l.length ≤ n → (∀ i, okP (l.getD i noP)) → ∀ i, ((runsOf l).flatMap runB).getD i 0 < 256 := by
    intro n
    induction n with
    | zero =>
      intro l h _ i
      have : l = [] := List.eq_nil_of_length_eq_zero (by omega)
      subst this
      simp [runsOf_nil]
    | succ n ih =>
      intro l h hp
      cases l with
      | nil => intro i; simp [runsOf_nil]
      | cons q rest =>
        rw [runsOf_cons, List.flatMap_cons]
        have h0 := hp 0
        have hj := (runF_len q 255 rest).2
        refine getD_append_lt (fun i => ?_) (ih _ (by simp at h ⊢; omega) (fun i => ?_))
        · match i with
          | 0 => show 1 + runF q 255 rest - 1 < 256; omega
          | 1 => show q.1 < 256; have := h0.1; simp at this; omega
          | 2 => show q.2.1 < 256; have := h0.2.1; simp at this; omega
          | 3 => show q.2.2.1 < 256; have := h0.2.2.1; simp at this; omega
          | 4 => show q.2.2.2 < 256; have := h0.2.2.2; simp at this; omega
          | i + 5 => simp [runB]
        · have := hp (runF q 255 rest + i + 1)
          rw [List.getD_eq_getElem?_getD, List.getElem?_drop, ← List.getD_eq_getElem?_getD]
          simpa using this
  unfold bytesL
  refine getD_append_lt (fun i => ?_) (h1 _ _ (Nat.le_refl _) hp)
  match i with
  | 0 => show (((a : Int) - 1) % 256).toNat < 256; omega
  | 1 => show (((b : Int) - 1) % 256).toNat < 256; omega
  | i + 2 => simp

end Go.Proofs.Ytncphiphgkjflaa
