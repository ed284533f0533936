import Derived.Test.YtakebbphielbfaaDoorQWl
import Derived.Test.YtakebbphielbfaaDoorQFixTextLaw2
namespace Go.Proofs.YtakebbphielbfaaDoor
set_option linter.unusedVariables false
set_option linter.unusedSimpArgs false

abbrev Pt := Int × Int
def inR (a : Int) : Prop := -2147483648 ≤ a ∧ a ≤ 2147483648
instance (a : Int) : Decidable (inR a) := by unfold inR; infer_instance
def inP (p : Pt) : Prop := inR p.1 ∧ inR p.2
instance (p : Pt) : Decidable (inP p) := by unfold inP; infer_instance

structure Sg where
  k : Int
  a : Pt
  b : Pt
  c : Pt
deriving DecidableEq

def noS : Sg := ⟨0, (0, 0), (0, 0), (0, 0)⟩
def needL (k : Int) : Nat := if k = 1 ∨ k = 2 then 1 else if k = 3 then 2 else if k = 4 then 3 else 0
def zeroFrom (s : Sg) (m : Nat) : Bool := decide ((m ≤ 0 → s.a = (0, 0)) ∧ (m ≤ 1 → s.b = (0, 0)) ∧ (m ≤ 2 → s.c = (0, 0)))
def roomTo (s : Sg) (m : Nat) : Bool := decide ((0 < m → inP s.a) ∧ (1 < m → inP s.b) ∧ (2 < m → inP s.c))
/-- the check of one segment -/
def check1 (o : Bool) (s : Sg) : Int :=
  if s.k < 1 ∨ 5 < s.k ∨ (o = false ∧ s.k ≠ 1) then 33 else if zeroFrom s (needL s.k) = false then 33 else if roomTo s (needL s.k) = false then 30 else 0
def checkL : Bool → List Sg → Int
  | _, [] => 0
  | o, s :: r => if check1 o s ≠ 0 then check1 o s else checkL (decide (s.k ≠ 5)) r
def openL : Bool → List Sg → Bool
  | o, [] => o
  | _, s :: r => openL (decide (s.k ≠ 5)) r
theorem openL_snoc (o : Bool) (p : List Sg) (s : Sg) : openL o (p ++ [s]) = decide (s.k ≠ 5) := by
  induction p generalizing o with
  | nil => rfl
  | cons x p ih => exact ih _
theorem checkL_snoc {o : Bool} {p : List Sg} {s : Sg} (hp : checkL o p = 0) (hs : check1 (openL o p) s = 0) : checkL o (p ++ [s]) = 0 := by
  induction p generalizing o with
  | nil => simp only [openL] at hs; simp [checkL, hs]
  | cons x p ih =>
    unfold checkL at hp
    split at hp
    · rename_i h; exact absurd hp h
    · rename_i h
      simp only [List.cons_append]
      unfold checkL
      rw [if_neg h]
      exact ih hp hs

/-- the number at a place, more than another -/
def num1 (ws : List (List UInt8)) (at_ : Nat) (more : Int) : Int × Int :=
  if at_ < ws.length then
    (if (parseR (ws.getD at_ [])).2 = 0 then (if inR ((parseR (ws.getD at_ [])).1 + more) then ((parseR (ws.getD at_ [])).1 + more, 0) else (0, 10)) else (0, 20))
  else (0, 20)
theorem num1_or (ws : List (List UInt8)) (i : Nat) (m : Int) : ((num1 ws i m).2 = 0 ∧ i < ws.length ∧ inR (num1 ws i m).1) ∨ ((num1 ws i m).2 ≠ 0 ∧ (num1 ws i m).1 = 0) := by
  unfold num1
  split
  · split
    · split
      · rename_i h; exact .inl ⟨rfl, by assumption, h⟩
      · exact .inr ⟨by decide, rfl⟩
    · exact .inr ⟨by decide, rfl⟩
  · exact .inr ⟨by decide, rfl⟩

/-- some points from a place on: the error, the place, the points -/
def ptsL (ws : List (List UInt8)) (fr : Pt) : Nat → Nat → List Pt → Int × Nat × List Pt
  | 0, i, acc => (0, i, acc)
  | m + 1, i, acc =>
    if (num1 ws i fr.1).2 ≠ 0 then ((num1 ws i fr.1).2, i, acc)
    else if (num1 ws (i + 1) fr.2).2 ≠ 0 then ((num1 ws (i + 1) fr.2).2, i + 1, acc)
    else ptsL ws fr m (i + 2) (acc ++ [((num1 ws i fr.1).1, (num1 ws (i + 1) fr.2).1)])

theorem ptsL_ok (ws : List (List UInt8)) (fr : Pt) : ∀ m i acc, i ≤ ws.length → (∀ x ∈ acc, inP x) →
    ((ptsL ws fr m i acc).1 = 0 → (ptsL ws fr m i acc).2.1 = i + 2 * m ∧ (ptsL ws fr m i acc).2.2.length = acc.length + m ∧ ∀ x ∈ (ptsL ws fr m i acc).2.2, inP x) ∧
    i ≤ (ptsL ws fr m i acc).2.1 ∧ (ptsL ws fr m i acc).2.1 ≤ ws.length := by
  intro m
  induction m with
  | zero => intro i acc hi hacc; simp only [ptsL]; exact ⟨fun _ => ⟨by omega, by omega, hacc⟩, by omega, hi⟩
  | succ m ih =>
    intro i acc hi hacc
    unfold ptsL
    rcases num1_or ws i fr.1 with ⟨h1, h2, h3⟩ | ⟨h1, _⟩
    · rw [if_neg (by simp [h1])]
      rcases num1_or ws (i + 1) fr.2 with ⟨g1, g2, g3⟩ | ⟨g1, _⟩
      · rw [if_neg (by simp [g1])]
        obtain ⟨e1, e2, e3⟩ := ih (i + 2) (acc ++ [((num1 ws i fr.1).1, (num1 ws (i + 1) fr.2).1)]) (by omega) (by
          intro x hx
          rcases List.mem_append.1 hx with hx | hx
          · exact hacc x hx
          · simp at hx; subst hx; exact ⟨h3, g3⟩)
        refine ⟨fun he => ?_, by omega, e3⟩
        obtain ⟨a, b, c⟩ := e1 he
        rw [List.length_append, List.length_singleton] at b
        exact ⟨by omega, by omega, c⟩
      · rw [if_pos g1]
        exact ⟨fun h => absurd h g1, by simp only []; omega, by simp only []; omega⟩
    · rw [if_pos h1]
      exact ⟨fun h => absurd h h1, by simp only []; omega, by simp only []; omega⟩

structure Rd where
  at_ : Nat
  p : List Sg
  now : Pt
  bg : Pt

def mkSg (k : Int) (l : List Pt) : Sg := ⟨k, l.getD 0 (0, 0), l.getD 1 (0, 0), l.getD 2 (0, 0)⟩
def lastP (l : List Pt) : Pt := l.getD (l.length - 1) (0, 0)
/-- a segment of a kind -/
def groupL (ws : List (List UInt8)) (k : Int) (small : Bool) (st : Rd) : Int × Rd :=
  if (ptsL ws (if small then st.now else (0, 0)) (needL k) st.at_ []).1 ≠ 0 then
    ((ptsL ws (if small then st.now else (0, 0)) (needL k) st.at_ []).1, { st with at_ := (ptsL ws (if small then st.now else (0, 0)) (needL k) st.at_ []).2.1 })
  else
    (0, ⟨(ptsL ws (if small then st.now else (0, 0)) (needL k) st.at_ []).2.1, st.p ++ [mkSg k (ptsL ws (if small then st.now else (0, 0)) (needL k) st.at_ []).2.2],
      lastP (ptsL ws (if small then st.now else (0, 0)) (needL k) st.at_ []).2.2, if k = 1 then lastP (ptsL ws (if small then st.now else (0, 0)) (needL k) st.at_ []).2.2 else st.bg⟩)

def isNum (ws : List (List UInt8)) (i : Nat) : Bool := decide (i < ws.length) && !letB ((ws.getD i []).getD 0 0)
def groupsL (ws : List (List UInt8)) : Nat → Int → Bool → Rd → Int × Rd
  | 0, _, _, st => (0, st)
  | f + 1, k, small, st =>
    if (groupL ws k small st).1 ≠ 0 then groupL ws k small st
    else if isNum ws (groupL ws k small st).2.at_ then groupsL ws f (if k = 1 then 2 else k) small (groupL ws k small st).2
    else (0, (groupL ws k small st).2)
/-- a letter's kind -/
def kindL (c : UInt8) : Int :=
  if c = 77 ∨ c = 109 then 1 else if c = 76 ∨ c = 108 then 2 else if c = 81 ∨ c = 113 then 3 else if c = 67 ∨ c = 99 then 4 else if c = 90 ∨ c = 122 then 5 else 0
/-- a word as a letter: its kind; 0: it is none -/
def kindW (w : List UInt8) : Int := if w.length = 1 then kindL (w.getD 0 0) else 0
def commandL (ws : List (List UInt8)) (st : Rd) : Int × Rd :=
  if kindW (ws.getD st.at_ []) = 0 then (20, st)
  else if kindW (ws.getD st.at_ []) ≠ 1 ∧ openL false st.p = false then (33, st)
  else if kindW (ws.getD st.at_ []) = 5 then (0, ⟨st.at_ + 1, st.p ++ [⟨5, (0, 0), (0, 0), (0, 0)⟩], st.bg, st.bg⟩)
  else groupsL ws (ws.length + 1) (kindW (ws.getD st.at_ [])) (decide (97 ≤ ((ws.getD st.at_ []).getD 0 0).toNat)) { st with at_ := st.at_ + 1 }
def readL (ws : List (List UInt8)) : Nat → Rd → Int × Rd
  | 0, st => (0, st)
  | f + 1, st =>
    if st.at_ < ws.length then (if (commandL ws st).1 ≠ 0 then commandL ws st else readL ws f (commandL ws st).2) else (0, st)
def rd0 : Rd := ⟨0, [], (0, 0), (0, 0)⟩
def readT (ws : List (List UInt8)) : Int × Rd := readL ws (ws.length + 1) rd0

structure RdOk (ws : List (List UInt8)) (st : Rd) : Prop where
  le : st.at_ ≤ ws.length
  now : inP st.now
  bg : inP st.bg
  ok : checkL false st.p = 0
  few : st.p.length ≤ st.at_

theorem need_pos {k : Int} (h : 1 ≤ k ∧ k ≤ 4) : 1 ≤ needL k ∧ needL k ≤ 3 := by
  unfold needL
  split
  · omega
  · split
    · omega
    · split <;> omega

theorem list1 {l : List Pt} (h : l.length = 1) : ∃ a, l = [a] := List.length_eq_one_iff.1 h
theorem list2 {l : List Pt} (h : l.length = 2) : ∃ a b, l = [a, b] := by
  match l, h with
  | [a, b], _ => exact ⟨a, b, rfl⟩
theorem list3 {l : List Pt} (h : l.length = 3) : ∃ a b c, l = [a, b, c] := by
  match l, h with
  | [a, b, c], _ => exact ⟨a, b, c, rfl⟩

theorem mk_ok {k : Int} {l : List Pt} {o : Bool} (hk : 1 ≤ k ∧ k ≤ 4) (ho : o = true ∨ k = 1) (hl : l.length = needL k) (hp : ∀ x ∈ l, inP x) : check1 o (mkSg k l) = 0 ∧ inP (lastP l) := by
  have h3 : k = 1 ∨ k = 2 ∨ k = 3 ∨ k = 4 := by omega
  have hbad : ¬ (k < 1 ∨ 5 < k ∨ (o = false ∧ k ≠ 1)) := by
    rintro (h | h | ⟨h, g⟩)
    · omega
    · omega
    · rcases ho with e | e
      · rw [e] at h; cases h
      · exact g e
  have key : ∀ (s : Sg), s.k = k → zeroFrom s (needL k) = true → roomTo s (needL k) = true → check1 o s = 0 := by
    intro s e h1 h2
    unfold check1
    rw [e, if_neg hbad, h1, h2]
    rfl
  have n1 : needL 1 = 1 := rfl
  have n2 : needL 2 = 1 := rfl
  have n3 : needL 3 = 2 := rfl
  have n4 : needL 4 = 3 := rfl
  rcases h3 with rfl | rfl | rfl | rfl
  · obtain ⟨a, rfl⟩ := list1 (by simpa [n1] using hl)
    have h1 := hp a (by simp)
    exact ⟨key _ rfl (by simp [zeroFrom, n1, mkSg]) (by simp [roomTo, n1, mkSg, h1]), by simpa [lastP] using h1⟩
  · obtain ⟨a, rfl⟩ := list1 (by simpa [n2] using hl)
    have h1 := hp a (by simp)
    exact ⟨key _ rfl (by simp [zeroFrom, n2, mkSg]) (by simp [roomTo, n2, mkSg, h1]), by simpa [lastP] using h1⟩
  · obtain ⟨a, b, rfl⟩ := list2 (by simpa [n3] using hl)
    have h1 := hp a (by simp)
    have h2 := hp b (by simp)
    exact ⟨key _ rfl (by simp [zeroFrom, n3, mkSg]) (by simp [roomTo, n3, mkSg, h1, h2]), by simpa [lastP] using h2⟩
  · obtain ⟨a, b, c, rfl⟩ := list3 (by simpa [n4] using hl)
    have h1 := hp a (by simp)
    have h2 := hp b (by simp)
    have h3 := hp c (by simp)
    exact ⟨key _ rfl (by simp [zeroFrom, n4, mkSg]) (by simp [roomTo, n4, mkSg, h1, h2, h3]), by simpa [lastP] using h3⟩

theorem group_ok {ws : List (List UInt8)} {k : Int} {small : Bool} {st : Rd} (h : RdOk ws st) (hk : 1 ≤ k ∧ k ≤ 4) (ho : openL false st.p = true ∨ k = 1) :
    st.at_ ≤ (groupL ws k small st).2.at_ ∧ (groupL ws k small st).2.at_ ≤ ws.length ∧
    ((groupL ws k small st).1 = 0 → RdOk ws (groupL ws k small st).2 ∧ st.at_ < (groupL ws k small st).2.at_ ∧ openL false (groupL ws k small st).2.p = true) := by
  obtain ⟨e1, e2, e3⟩ := ptsL_ok ws (if small then st.now else (0, 0)) (needL k) st.at_ [] h.le (by simp)
  unfold groupL
  by_cases hz : (ptsL ws (if small then st.now else (0, 0)) (needL k) st.at_ []).1 = 0
  · obtain ⟨a1, a2, a3⟩ := e1 hz
    rw [if_neg (by simp [hz])]
    have hn := need_pos hk
    obtain ⟨b1, b2⟩ := mk_ok (l := (ptsL ws (if small then st.now else (0, 0)) (needL k) st.at_ []).2.2) hk ho (by simpa using a2) a3
    refine ⟨e2, e3, fun _ => ⟨⟨e3, b2, ?_, checkL_snoc h.ok b1, ?_⟩, ?_, ?_⟩⟩
    · dsimp only
      split
      · exact b2
      · exact h.bg
    · have := h.few
      simp only [List.length_append, List.length_singleton]
      omega
    · dsimp only; omega
    · rw [openL_snoc]
      have : ¬ k = 5 := by omega
      simp [mkSg, this]
  · rw [if_pos hz]
    exact ⟨e2, e3, fun h => absurd h hz⟩

theorem groups_ok {ws : List (List UInt8)} : ∀ (f : Nat) {k : Int} {small : Bool} {st : Rd}, RdOk ws st → (1 ≤ k ∧ k ≤ 4) → (openL false st.p = true ∨ k = 1) →
    st.at_ ≤ (groupsL ws f k small st).2.at_ ∧ (groupsL ws f k small st).2.at_ ≤ ws.length ∧ ((groupsL ws f k small st).1 = 0 → RdOk ws (groupsL ws f k small st).2) := by
  intro f
  induction f with
  | zero => intro k small st h _ _; exact ⟨Nat.le_refl _, h.le, fun _ => h⟩
  | succ f ih =>
    intro k small st h hk ho
    obtain ⟨a, b, c⟩ := group_ok (small := small) h hk ho
    unfold groupsL
    by_cases hz : (groupL ws k small st).1 = 0
    · rw [if_neg (by simp [hz])]
      obtain ⟨c1, c2, c3⟩ := c hz
      split
      · obtain ⟨d1, d2, d3⟩ := ih (small := small) (k := if k = 1 then 2 else k) c1 (by split <;> omega) (.inl c3)
        exact ⟨by omega, d2, d3⟩
      · exact ⟨a, b, fun _ => c1⟩
    · rw [if_pos hz]
      exact ⟨a, b, fun e => absurd e hz⟩

theorem kindL_range (c : UInt8) : 0 ≤ kindL c ∧ kindL c ≤ 5 := by
  unfold kindL; repeat (first | split | omega)
theorem kindW_range (w : List UInt8) : 0 ≤ kindW w ∧ kindW w ≤ 5 := by
  unfold kindW; split
  · exact kindL_range _
  · omega

theorem command_ok {ws : List (List UInt8)} {st : Rd} (h : RdOk ws st) (hlt : st.at_ < ws.length) :
    st.at_ ≤ (commandL ws st).2.at_ ∧ (commandL ws st).2.at_ ≤ ws.length ∧ ((commandL ws st).1 = 0 → RdOk ws (commandL ws st).2 ∧ st.at_ < (commandL ws st).2.at_) := by
  have hr := kindW_range (ws.getD st.at_ [])
  unfold commandL
  by_cases h0 : kindW (ws.getD st.at_ []) = 0
  · rw [if_pos h0]; exact ⟨Nat.le_refl _, h.le, fun e => by cases e⟩
  · rw [if_neg h0]
    by_cases h1 : kindW (ws.getD st.at_ []) ≠ 1 ∧ openL false st.p = false
    · rw [if_pos h1]; exact ⟨Nat.le_refl _, h.le, fun e => by cases e⟩
    · rw [if_neg h1]
      have ho : openL false st.p = true ∨ kindW (ws.getD st.at_ []) = 1 := by
        by_cases e : kindW (ws.getD st.at_ []) = 1
        · exact .inr e
        · refine .inl ?_
          cases hh : openL false st.p with
          | true => rfl
          | false => exact absurd ⟨e, hh⟩ h1
      by_cases h5 : kindW (ws.getD st.at_ []) = 5
      · rw [if_pos h5]
        refine ⟨by dsimp only; omega, by dsimp only; omega, fun _ => ⟨⟨by dsimp only; omega, h.bg, h.bg, checkL_snoc h.ok ?_, ?_⟩, by dsimp only; omega⟩⟩
        · rcases ho with e | e
          · rw [e]; rfl
          · omega
        · have := h.few
          simp only [List.length_append, List.length_singleton]; omega
      · rw [if_neg h5]
        have h' : RdOk ws { st with at_ := st.at_ + 1 } := ⟨by dsimp only; omega, h.now, h.bg, h.ok, by have := h.few; dsimp only; omega⟩
        obtain ⟨a, b, c⟩ := groups_ok (ws.length + 1) (k := kindW (ws.getD st.at_ [])) (small := decide (97 ≤ ((ws.getD st.at_ []).getD 0 0).toNat)) h' (by omega) ho
        dsimp only at a
        exact ⟨by omega, b, fun e => ⟨c e, by omega⟩⟩

theorem read_ok {ws : List (List UInt8)} : ∀ (f : Nat) {st : Rd}, RdOk ws st → (readL ws f st).2.at_ ≤ ws.length ∧ ((readL ws f st).1 = 0 → RdOk ws (readL ws f st).2) := by
  intro f
  induction f with
  | zero => intro st h; exact ⟨h.le, fun _ => h⟩
  | succ f ih =>
    intro st h
    unfold readL
    split
    · rename_i hlt
      obtain ⟨a, b, c⟩ := command_ok h hlt
      by_cases hz : (commandL ws st).1 = 0
      · rw [if_neg (by simp [hz])]
        exact ih (c hz).1
      · rw [if_pos hz]
        exact ⟨b, fun e => absurd e hz⟩
    · exact ⟨h.le, fun _ => h⟩
theorem rd0_ok (ws : List (List UInt8)) : RdOk ws rd0 := ⟨Nat.zero_le _, by decide, by decide, rfl, Nat.le_refl _⟩
theorem readT_ok (ws : List (List UInt8)) : (readT ws).2.at_ ≤ ws.length ∧ ((readT ws).1 = 0 → RdOk ws (readT ws).2) := read_ok _ (rd0_ok ws)
end Go.Proofs.YtakebbphielbfaaDoor
