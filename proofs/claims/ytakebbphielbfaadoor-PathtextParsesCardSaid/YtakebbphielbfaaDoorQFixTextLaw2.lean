/- What Parse does, as a function of bytes; a coordinate's text is read back. No program in sight. -/
import Derived.Test.YtakebbphielbfaaDoorQFixTextLaw
import Derived.Lib.IndexMore
import Derived.Lib.Strings
set_option linter.unusedVariables false
namespace Go.Proofs.YtakebbphielbfaaDoor
open Go

/-- any number's text: none out of room -/
def textA (a : Int) : List UInt8 := if -2147483648 ≤ a ∧ a ≤ 2147483648 then textL a else []
def finR (s : List UInt8) (m : Int) : Int × Int := if textA m = s ∧ s ≠ [] then (m, 0) else (0, 20)
/-- what Parse answers: the number, and the error's number -/
def parseR (s : List UInt8) : Int × Int :=
  match Lib.atoiAll (Lib.cut (Lib.trimPrefix s [45]) [46]).1 with
  | .ok v =>
    if v < 0 ∨ 2147483648 < v ∨ 8 < (Lib.cut (Lib.trimPrefix s [45]) [46]).2.1.length then (0, 20)
    else
      finR s (if Lib.hasPrefix s [45] then -(v * 256 + (lowV (Lib.cut (Lib.trimPrefix s [45]) [46]).2.1 * 256).tdiv ((10 ^ (Lib.cut (Lib.trimPrefix s [45]) [46]).2.1.length : Nat) : Int)) else v * 256 + (lowV (Lib.cut (Lib.trimPrefix s [45]) [46]).2.1 * 256).tdiv ((10 ^ (Lib.cut (Lib.trimPrefix s [45]) [46]).2.1.length : Nat) : Int))
  | _ => (0, 20)

theorem textL_ne (a : Int) : textL a ≠ [] := by
  unfold textL
  have := dec_ne (a.natAbs / 256)
  cases h : Lib.decDigits (a.natAbs / 256) with
  | nil => exact absurd h this
  | cons c r => simp
theorem finR_or (s : List UInt8) (m : Int) : finR s m = (0, 20) ∨ (finR s m = (m, 0) ∧ (-2147483648 ≤ m ∧ m ≤ 2147483648) ∧ textL m = s) := by
  unfold finR
  split
  · rename_i h
    right
    obtain ⟨h1, h2⟩ := h
    unfold textA at h1
    split at h1
    · rename_i h3; exact ⟨rfl, h3, h1⟩
    · exact absurd h1.symm h2
  · exact .inl rfl
theorem parseR_or (s : List UInt8) : parseR s = (0, 20) ∨ ∃ m, parseR s = (m, 0) ∧ (-2147483648 ≤ m ∧ m ≤ 2147483648) ∧ textL m = s := by
  unfold parseR
  split
  · split
    · exact .inl rfl
    · rcases finR_or s _ with h | h
      · exact .inl h
      · exact .inr ⟨_, h⟩
  · exact .inl rfl

theorem prefix_no (q : Nat) (rest : List UInt8) : Lib.hasPrefix (Lib.decDigits q ++ rest) [45] = false := by
  cases h : Lib.decDigits q with
  | nil => exact absurd h (dec_ne q)
  | cons c r =>
    have hc := dec_dig q c (by rw [h]; simp)
    unfold isDig at hc
    unfold Lib.hasPrefix
    simp only [List.cons_append, List.isPrefixOf]
    have : (45 == c) = false := by
      rw [Bool.eq_false_iff]
      intro e
      have e2 : (45 : UInt8) = c := by simpa using e
      rw [← e2] at hc
      exact absurd hc.1 (by decide)
    rw [this]; rfl

theorem index_dig : ∀ (l rest : List UInt8), (∀ c ∈ l, isDig c) → Lib.index (l ++ 46 :: rest) [46] = l.length ∧ Lib.index l [46] = -1 := by
  intro l
  induction l with
  | nil =>
    intro rest _
    refine ⟨?_, by unfold Lib.index; rfl⟩
    unfold Lib.index
    simp [List.isPrefixOf]
  | cons c r ih =>
    intro rest h
    have hc := h c (by simp)
    unfold isDig at hc
    have hne : (46 == c) = false := by
      rw [Bool.eq_false_iff]
      intro e
      have e2 : (46 : UInt8) = c := by simpa using e
      rw [← e2] at hc
      exact absurd hc.1 (by decide)
    obtain ⟨h1, h2⟩ := ih rest (fun x hx => h x (by simp [hx]))
    constructor
    · rw [List.cons_append]
      unfold Lib.index
      simp only [List.isPrefixOf, hne, Bool.false_and, Bool.false_eq_true, if_false, h1]
      rw [if_neg (by simp)]
      simp
    · unfold Lib.index
      simp only [List.isPrefixOf, hne, Bool.false_and, Bool.false_eq_true, if_false, h2]
      rfl
theorem cut_dec (q : Nat) (f : List UInt8) : (Lib.cut (Lib.decDigits q ++ 46 :: f) [46]).1 = Lib.decDigits q ∧ (Lib.cut (Lib.decDigits q ++ 46 :: f) [46]).2.1 = f ∧ (Lib.cut (Lib.decDigits q) [46]).1 = Lib.decDigits q ∧ (Lib.cut (Lib.decDigits q) [46]).2.1 = [] := by
  obtain ⟨h1, h2⟩ := index_dig (Lib.decDigits q) f (dec_dig q)
  unfold Lib.cut
  rw [h1, h2]
  rw [if_pos (by omega), if_neg (by omega)]
  refine ⟨?_, ?_, rfl, rfl⟩
  · simp
  · simp only [Int.toNat_natCast, List.length_singleton]
    rw [← List.drop_drop, List.drop_left]
    rfl

/-- a coordinate's text is read back -/
theorem parse_text (a : Int) (h : -2147483648 ≤ a ∧ a ≤ 2147483648) : parseR (textL a) = (a, 0) := by
  have hl := frac_len' ⟨a.natAbs % 256, by omega⟩
  simp only [] at hl
  have hb : ∀ l, textL a = (if a < 0 then [45] else []) ++ l → (Lib.hasPrefix l [45] = false) → Lib.trimPrefix (textL a) [45] = l ∧ Lib.hasPrefix (textL a) [45] = decide (a < 0) := by
    intro l hl hp
    rw [hl]
    by_cases hn : a < 0
    · rw [if_pos hn]
      have : Lib.hasPrefix ([45] ++ l) [45] = true := by unfold Lib.hasPrefix; simp [List.isPrefixOf]
      unfold Lib.trimPrefix
      rw [this]
      simp [hn]
    · rw [if_neg hn, List.nil_append]
      unfold Lib.trimPrefix
      rw [hp]
      simp [hn]
  have key : ∀ l w p : List UInt8, textL a = (if a < 0 then [45] else []) ++ l → Lib.hasPrefix l [45] = false → (Lib.cut l [46]).1 = w → (Lib.cut l [46]).2.1 = p → Lib.atoiAll w = .ok ((a.natAbs / 256 : Nat) : Int) → p.length ≤ 8 → (lowV p * 256).tdiv ((10 ^ p.length : Nat) : Int) = ((a.natAbs % 256 : Nat) : Int) → parseR (textL a) = (a, 0) := by
    intro l w p h1 h2 h3 h4 h5 h6 h7
    obtain ⟨k1, k2⟩ := hb l h1 h2
    unfold parseR
    rw [k1, k2, h3, h4, h5]
    dsimp only
    rw [if_neg (by omega), h7]
    have hm : (if decide (a < 0) = true then -(((a.natAbs / 256 : Nat) : Int) * 256 + ((a.natAbs % 256 : Nat) : Int)) else ((a.natAbs / 256 : Nat) : Int) * 256 + ((a.natAbs % 256 : Nat) : Int)) = a := by
      by_cases hn : a < 0
      · rw [if_pos (by simpa using hn)]; omega
      · rw [if_neg (by simpa using hn)]; omega
    rw [hm]
    unfold finR textA
    rw [if_pos h, if_pos ⟨rfl, textL_ne a⟩]
  by_cases hr : a.natAbs % 256 = 0
  · refine key (Lib.decDigits (a.natAbs / 256)) _ _ (by unfold textL; rw [if_pos hr, List.append_nil]) (by have := prefix_no (a.natAbs / 256) []; rwa [List.append_nil] at this) (cut_dec _ []).2.2.1 (cut_dec _ []).2.2.2 (atoi_dec _ (by omega)) (by simp) (by rw [hr]; rfl)
  · refine key (Lib.decDigits (a.natAbs / 256) ++ 46 :: fracL (a.natAbs % 256)) _ _ (by unfold textL; rw [if_neg hr]) (prefix_no _ _) (cut_dec _ _).1 (cut_dec _ _).2.1 (atoi_dec _ (by omega)) hl.1 (low_back (by omega))

end Go.Proofs.YtakebbphielbfaaDoor
