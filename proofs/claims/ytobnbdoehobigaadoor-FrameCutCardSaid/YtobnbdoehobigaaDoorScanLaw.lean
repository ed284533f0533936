import Derived.Test.YtobnbdoehobigaaDoorRefFrame
set_option linter.unusedVariables false
set_option linter.unusedSimpArgs false
namespace Go.Proofs.YtobnbdoehobigaaDoor
open Go Go.RowKit

theorem list_4 {α : Type} (l : List α) (h : l.length = 4) : ∃ a b c d, l = [a, b, c, d] := by
  match l, h with
  | [a, b, c, d], _ => exact ⟨a, b, c, d, rfl⟩
theorem list_8 {α : Type} (l : List α) (h : l.length = 8) : ∃ a b c d e f g i, l = [a, b, c, d, e, f, g, i] := by
  match l, h with
  | [a, b, c, d, e, f, g, i], _ => exact ⟨a, b, c, d, e, f, g, i, rfl⟩

theorem be4_beV (l : List Nat) (h : l.length = 4) (hb : ∀ i, l.getD i 0 < 256) : be4 (beV l) = l := by
  obtain ⟨a, b, c, d, rfl⟩ := list_4 l h
  have h0 := hb 0
  have h1 := hb 1
  have h2 := hb 2
  have h3 := hb 3
  simp at h0 h1 h2 h3
  simp only [be4, beV, List.foldl_cons, List.foldl_nil, List.cons.injEq, and_true]
  omega

theorem be8_beV (l : List Nat) (h : l.length = 8) (hb : ∀ i, l.getD i 0 < 256) : be8 (beV l) = l := by
  obtain ⟨a, b, c, d, e, f, g, i, rfl⟩ := list_8 l h
  have h0 := hb 0
  have h1 := hb 1
  have h2 := hb 2
  have h3 := hb 3
  have h4 := hb 4
  have h5 := hb 5
  have h6 := hb 6
  have h7 := hb 7
  simp at h0 h1 h2 h3 h4 h5 h6 h7
  simp only [be8, beV, List.foldl_cons, List.foldl_nil, List.cons.injEq, and_true]
  omega

theorem getD_take_lt {l : List Nat} (hb : ∀ i, l.getD i 0 < 256) (n : Nat) : ∀ i, (l.take n).getD i 0 < 256 := fun i => by
  rw [List.getD_eq_getElem?_getD, List.getElem?_take]
  split
  · rw [← List.getD_eq_getElem?_getD]; exact hb i
  · decide
theorem getD_drop_lt {l : List Nat} (hb : ∀ i, l.getD i 0 < 256) (n : Nat) : ∀ i, (l.drop n).getD i 0 < 256 := fun i => by
  rw [getD_drop]; exact hb _

/-- a list in its parts -/
theorem parts (b : List Nat) (n : Nat) (h : n + 17 ≤ b.length) : b.take (13 + n) = b.take 4 ++ (b.drop 4).take 8 ++ [b.getD 12 0] ++ (b.drop 13).take n := by
  have e1 : b.take (13 + n) = b.take 12 ++ (b.drop 12).take (1 + n) := by rw [← List.take_add]; congr 1; omega
  have e2 : b.take 12 = b.take 4 ++ (b.drop 4).take 8 := by rw [← List.take_add]
  have e3 : (b.drop 12).take (1 + n) = [b.getD 12 0] ++ (b.drop 13).take n := by
    rw [List.take_add, List.drop_drop]
    congr 1
    rw [show (1 : Nat) = 0 + 1 by rfl, List.take_succ_eq_append_getElem (by simp; omega)]
    simp [List.getD_eq_getElem?_getD, List.getElem?_eq_getElem (show 12 < b.length by omega)]
  rw [e1, e2, e3]
  simp

theorem parts2 (b : List Nat) (n : Nat) : b.take (17 + n) = b.take (13 + n) ++ (b.drop (13 + n)).take 4 := by rw [← List.take_add]; congr 1; omega

/-- the frame of a record stands at the head of bytes just if the record is read there -/
theorem frame_of_one {b : List Nat} {s k : Nat} {d : List Nat} (hb : ∀ i, b.getD i 0 < 256) (h : oneL b = some (s, k, d)) : frameL s k d = b.take (17 + d.length) ∧ d = (b.drop 13).take (beV (b.take 4)) ∧ k = b.getD 12 0 ∧ d.length = beV (b.take 4) ∧ s < 18446744073709551616 := by
  unfold oneL at h
  split at h
  · cases h
  rename_i h13
  split at h
  · cases h
  rename_i hw
  split at h
  · cases h
  rename_i hs
  simp only [Option.some.injEq, Prod.mk.injEq] at h
  obtain ⟨rfl, rfl, rfl⟩ := h
  obtain ⟨n, hn⟩ : ∃ n, beV (b.take 4) = n := ⟨_, rfl⟩
  rw [hn] at hw hs ⊢
  have hl : n + 17 ≤ b.length := by omega
  have hdl : ((b.drop 13).take n).length = n := by simp; omega
  have h4 : be4 n = b.take 4 := by rw [← hn]; exact be4_beV _ (by simp; omega) (getD_take_lt hb 4)
  have h8 : be8 (beV ((b.drop 4).take 8)) = (b.drop 4).take 8 := be8_beV _ (by simp; omega) (getD_take_lt (getD_drop_lt hb 4) 8)
  have hh : headL (beV ((b.drop 4).take 8)) (b.getD 12 0) ((b.drop 13).take n) = b.take (13 + n) := by
    unfold headL
    rw [hdl, h4, h8, parts b n hl]
  have hc : be4 (4294967295 - crc 4294967295 (b.take (13 + n))) = (b.drop (13 + n)).take 4 := by
    have : beV ((b.drop (13 + n)).take 4) = 4294967295 - crc 4294967295 (b.take (13 + n)) := by simpa using hs
    rw [← this]
    exact be4_beV _ (by simp; omega) (getD_take_lt (getD_drop_lt hb _) 4)
  refine ⟨?_, rfl, rfl, hdl, ?_⟩
  · unfold frameL
    rw [hh, hc, hdl, parts2]
  · have h := beV_lt ((b.drop 4).take 8) (getD_take_lt (getD_drop_lt hb 4) 8) 8 (by simp; omega)
    rw [List.take_take, Nat.min_self] at h
    exact h

theorem one_of_frame {b : List Nat} {s k : Nat} {d : List Nat} (hb : ∀ i, b.getD i 0 < 256) (hd : d.length ≤ 1048576) (hs : s < 18446744073709551616) (hk : k < 256) (hdb : ∀ i, d.getD i 0 < 256) (h : frameL s k d = b.take (17 + d.length)) : oneL b = some (s, k, d) := by
  have h1 := one_frame s k d (b.drop (17 + d.length)) hd hs (crc_head s k d hk hdb)
  rw [h, List.take_append_drop] at h1
  exact h1

/-! ### when the document's reading ends -/
theorem stop_short {b : List Nat} {f : Nat} {sq : Int} (h : b.length < 17) : scanF f b sq = ([], 0) := by
  refine scanF_none ?_
  unfold oneL
  split
  · rfl
  · rw [if_pos (.inr (by omega))]
theorem stop_neg {b : List Nat} {f : Nat} {sq : Int} (h : sq < 0) : scanF f b sq = ([], 0) := by
  cases hb : oneL b with
  | none => exact scanF_none hb
  | some p =>
    obtain ⟨s, k, d⟩ := p
    exact scanF_stop hb (by omega)
theorem stop_wide {b : List Nat} {f n : Nat} {sq : Int} (hn : beV (b.take 4) = n) (h : 1048576 < n ∨ b.length < n + 17) : scanF f b sq = ([], 0) := by
  refine scanF_none ?_
  by_cases h13 : b.length < 13
  · exact one_short h13
  · exact one_wide h13 hn h
theorem stop_frame {b : List Nat} {f n s : Nat} (hb : ∀ i, b.getD i 0 < 256) (hn : beV (b.take 4) = n) (hs : s ≤ 9223372036854775807) (h : frameL s (b.getD 12 0) ((b.drop 13).take n) ≠ b.take (17 + n)) : scanF f b (s : Int) = ([], 0) := by
  cases ho : oneL b with
  | none => exact scanF_none ho
  | some p =>
    obtain ⟨s', k, d⟩ := p
    refine scanF_stop ho ?_
    obtain ⟨h1, h2, h3, h4, h5⟩ := frame_of_one hb ho
    by_cases hw : wrap64 (s' : Int) < 0
    · exact .inl hw
    · refine .inr fun e => h ?_
      have : s' = s := by unfold wrap64 at hw e; omega
      subst this
      rw [← hn, ← h3, ← h2, h1, h4]
theorem next_frame {b : List Nat} {f n s : Nat} (hb : ∀ i, b.getD i 0 < 256) (hn : beV (b.take 4) = n) (hn2 : n ≤ 1048576) (hl : n + 17 ≤ b.length) (hs : s ≤ 9223372036854775807) (h : frameL s (b.getD 12 0) ((b.drop 13).take n) = b.take (17 + n)) :
    scanF (f + 1) b (s : Int) = (((s : Int), b.getD 12 0, (b.drop 13).take n) :: (scanF f (b.drop (n + 17)) (wrap64 ((s : Int) + 1))).1, n + 17 + (scanF f (b.drop (n + 17)) (wrap64 ((s : Int) + 1))).2) := by
  have hdl : ((b.drop 13).take n).length = n := by simp; omega
  have ho := one_of_frame (b := b) (s := s) (k := b.getD 12 0) (d := (b.drop 13).take n) hb (by omega) (by omega) (hb 12) (getD_take_lt (getD_drop_lt hb 13) n) (by rw [hdl]; exact h)
  have hw : wrap64 (s : Int) = (s : Int) := by unfold wrap64; omega
  rw [scanF_next ho (by rw [hw]; omega), hdl]

end Go.Proofs.YtobnbdoehobigaaDoor
