import Derived.Lib.ItoaNum
namespace Go.Proofs.YtakebbphielbfaaDoor
set_option linter.unusedVariables false
set_option linter.unusedSimpArgs false

def sepB (c : UInt8) : Bool := c == 32 || c == 44 || c == 10
def letB (c : UInt8) : Bool := (decide (65 ≤ c.toNat) && decide (c.toNat ≤ 90)) || (decide (97 ≤ c.toNat) && decide (c.toNat ≤ 122))

theorem let_not_sep {c : UInt8} (h : letB c = true) : sepB c = false := by
  unfold letB at h
  unfold sepB
  have e : ∀ k : UInt8, (c == k) = decide (c.toNat = k.toNat) := by
    intro k
    by_cases hk : c = k
    · subst hk; simp
    · have : ¬ c.toNat = k.toNat := fun e => hk (UInt8.toNat_inj.1 e)
      simp [hk, this]
  rw [e, e, e]
  simp only [Bool.or_eq_true, Bool.and_eq_true, decide_eq_true_eq] at h
  simp only [Bool.or_eq_false_iff, decide_eq_false_iff_not]
  have : (32 : UInt8).toNat = 32 := rfl
  have : (44 : UInt8).toNat = 44 := rfl
  have : (10 : UInt8).toNat = 10 := rfl
  omega

def flush (cur : List UInt8) : List (List UInt8) := if cur = [] then [] else [cur]
abbrev Wst := List (List UInt8) × List UInt8
def wst (s : Wst) (c : UInt8) : Wst :=
  if sepB c then (s.1 ++ flush s.2, []) else if letB c then (s.1 ++ flush s.2 ++ [[c]], []) else (s.1, s.2 ++ [c])
def wat (s : List UInt8) : Wst := s.foldl wst ([], [])
def wordsL (s : List UInt8) : List (List UInt8) := (wat s).1 ++ flush (wat s).2

theorem wat_snoc (s : List UInt8) (c : UInt8) : wat (s ++ [c]) = wst (wat s) c := by simp [wat]
theorem wat_take {s : List UInt8} {i : Nat} (h : i < s.length) : wat (s.take (i + 1)) = wst (wat (s.take i)) (s.getD i 0) := by
  rw [List.take_succ_eq_append_getElem h, wat_snoc, List.getD_eq_getElem?_getD, List.getElem?_eq_getElem h]; rfl

/-- a word that may lie among the others -/
def wordOk (w : List UInt8) : Prop := w ≠ [] ∧ ((∃ c, w = [c] ∧ letB c = true) ∨ ∀ c ∈ w, sepB c = false ∧ letB c = false)

def curOk (w : List UInt8) : Prop := ∀ c ∈ w, sepB c = false ∧ letB c = false
def sumLen (l : List (List UInt8)) : Nat := (l.map List.length).foldr (· + ·) 0
theorem sumLen_append (a b : List (List UInt8)) : sumLen (a ++ b) = sumLen a + sumLen b := by
  induction a with
  | nil => simp [sumLen]
  | cons x a ih => simp only [sumLen, List.cons_append, List.map_cons, List.foldr_cons] at *; omega
theorem sumLen_flush (c : List UInt8) : sumLen (flush c) = c.length := by
  unfold flush; split <;> simp_all [sumLen]
theorem sumLen_ge {l : List (List UInt8)} (h : ∀ w ∈ l, w ≠ []) : l.length ≤ sumLen l := by
  induction l with
  | nil => simp
  | cons x l ih =>
    have h1 := ih (fun w hw => h w (by simp [hw]))
    have h2 := List.length_pos_iff.2 (h x (by simp))
    simp only [sumLen, List.map_cons, List.foldr_cons, List.length_cons] at *
    omega
theorem flush_ok {c : List UInt8} (h : curOk c) : ∀ w ∈ flush c, wordOk w := by
  unfold flush
  split
  · simp
  · rename_i h0
    intro w hw
    simp at hw
    subst hw
    exact ⟨h0, .inr h⟩

structure WInv (s : List UInt8) : Prop where
  ok : ∀ w ∈ (wat s).1, wordOk w
  cur : curOk (wat s).2
  len : sumLen (wat s).1 + (wat s).2.length ≤ s.length

theorem wInv (s : List UInt8) : WInv s := by
  induction h : s.length generalizing s with
  | zero =>
    obtain rfl := List.eq_nil_of_length_eq_zero h
    exact ⟨by simp [wat], by simp [wat, curOk], by simp [wat, sumLen]⟩
  | succ n ih =>
    obtain ⟨t, c, rfl⟩ : ∃ t c, s = t ++ [c] := by
      rcases List.eq_nil_or_concat s with rfl | ⟨t, c, e⟩
      · simp at h
      · exact ⟨t, c, by simpa using e⟩
    have ht : t.length = n := by simpa using h
    obtain ⟨h1, h2, h3⟩ := ih t ht
    rw [ht] at h3
    refine ⟨?_, ?_, ?_⟩ <;> rw [wat_snoc] <;> unfold wst
    · split
      · intro w hw
        rcases List.mem_append.1 hw with hw | hw
        · exact h1 w hw
        · exact flush_ok h2 w hw
      · split
        · rename_i hl
          intro w hw
          rcases List.mem_append.1 hw with hw | hw
          · rcases List.mem_append.1 hw with hw | hw
            · exact h1 w hw
            · exact flush_ok h2 w hw
          · simp at hw
            subst hw
            exact ⟨by simp, .inl ⟨c, rfl, hl⟩⟩
        · exact h1
    · split
      · simp [curOk]
      · split
        · simp [curOk]
        · rename_i a b
          intro x hx
          rcases List.mem_append.1 hx with hx | hx
          · exact h2 x hx
          · simp at hx
            subst hx
            simp at a b
            exact ⟨a, b⟩
    · split
      · simp only [sumLen_append, sumLen_flush, List.length_nil]; omega
      · split
        · have : sumLen [[c]] = 1 := rfl
          simp only [sumLen_append, sumLen_flush, List.length_nil, this]; omega
        · simp only [List.length_append, List.length_singleton]; omega

theorem wordsL_ok (s : List UInt8) : ∀ w ∈ wordsL s, wordOk w := by
  intro w hw
  rcases List.mem_append.1 hw with hw | hw
  · exact (wInv s).ok w hw
  · exact flush_ok (wInv s).cur w hw
theorem wordsL_sum (s : List UInt8) : sumLen (wordsL s) ≤ s.length := by
  unfold wordsL
  rw [sumLen_append, sumLen_flush]
  exact (wInv s).len
theorem wordsL_len (s : List UInt8) : (wordsL s).length ≤ s.length :=
  Nat.le_trans (sumLen_ge fun w hw => (wordsL_ok s w hw).1) (wordsL_sum s)

theorem fold_plain (w : List UInt8) (o : List (List UInt8)) (cur : List UInt8) (h : curOk w) : w.foldl wst (o, cur) = (o, cur ++ w) := by
  induction w generalizing cur with
  | nil => simp
  | cons c w ih =>
    have hc := h c (by simp)
    rw [List.foldl_cons]
    have : wst (o, cur) c = (o, cur ++ [c]) := by unfold wst; rw [if_neg (by simp [hc.1]), if_neg (by simp [hc.2])]
    rw [this, ih _ (fun x hx => h x (by simp [hx]))]
    simp

/-- a word between blanks, commas and ends of lines -/
theorem fold_word (w : List UInt8) (o : List (List UInt8)) (h : wordOk w) : (w ++ [32, 44, 10]).foldl wst (o, []) = (o ++ [w], []) := by
  rw [List.foldl_append]
  have h32 : ∀ o c, wst (o, c) 32 = (o ++ flush c, []) := fun _ _ => rfl
  have h44 : ∀ o c, wst (o, c) 44 = (o ++ flush c, []) := fun _ _ => rfl
  have h10 : ∀ o c, wst (o, c) 10 = (o ++ flush c, []) := fun _ _ => rfl
  have hn : flush [] = [] := rfl
  rcases h.2 with ⟨c, rfl, hl⟩ | hp
  · have : wst (o, []) c = (o ++ [[c]], []) := by unfold wst; rw [if_neg (by simp [let_not_sep hl]), if_pos hl]; simp [flush]
    simp only [List.foldl_cons, List.foldl_nil, this, h32, h44, h10, hn, List.append_nil]
  · rw [fold_plain w o [] hp, List.nil_append]
    simp only [List.foldl_cons, List.foldl_nil, h32, h44, h10, hn, List.append_nil]
    rw [flush, if_neg h.1]

/-- the text that is put together again -/
def againL (l : List (List UInt8)) : List UInt8 := 44 :: l.flatMap (· ++ [32, 44, 10])
theorem againL_snoc (l : List (List UInt8)) (w : List UInt8) : againL (l ++ [w]) = againL l ++ (w ++ [32, 44, 10]) := by simp [againL]
theorem againL_wat (l : List (List UInt8)) (h : ∀ w ∈ l, wordOk w) : wat (againL l) = (l, []) := by
  have : ∀ o, (l.flatMap (· ++ [32, 44, 10])).foldl wst (o, []) = (o ++ l, []) := by
    induction l with
    | nil => simp
    | cons w l ih =>
      intro o
      rw [List.flatMap_cons, List.foldl_append, fold_word w o (h w (by simp)), ih (fun x hx => h x (by simp [hx]))]
      simp
  have h0 : wst ([], []) 44 = ([], []) := rfl
  rw [wat, againL, List.foldl_cons, h0, this]
  rfl
theorem words_again (l : List (List UInt8)) (h : ∀ w ∈ l, wordOk w) : wordsL (againL l) = l := by
  rw [wordsL, againL_wat l h]; simp [flush]
theorem againL_len (l : List (List UInt8)) : (againL l).length = 1 + sumLen l + 3 * l.length := by
  induction l with
  | nil => rfl
  | cons w l ih =>
    simp only [againL, List.length_cons, List.flatMap_cons, List.length_append, sumLen, List.map_cons, List.foldr_cons, List.length_nil] at *
    omega
end Go.Proofs.YtakebbphielbfaaDoor
