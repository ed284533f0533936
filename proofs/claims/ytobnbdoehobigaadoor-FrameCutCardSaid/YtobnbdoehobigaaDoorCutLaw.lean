import Derived.Test.YtobnbdoehobigaaDoorScW
set_option linter.unusedVariables false
set_option linter.unusedSimpArgs false
namespace Go.Proofs.YtobnbdoehobigaaDoor
open Go Go.RowKit

/-- the frames of texts, from a number on -/
def frs : Nat → List (List Nat) → List Nat
  | _, [] => []
  | i, d :: T => frameL (7 + i) i d ++ frs (i + 1) T
def lenF (T : List (List Nat)) : Nat := (T.map fun d => d.length + 17).sum

theorem frs_len (T : List (List Nat)) : ∀ i, (frs i T).length = lenF T := by
  induction T with
  | nil => intro i; rfl
  | cons d T ih => intro i; simp only [frs, List.length_append, frame_len, ih, lenF, List.map_cons, List.sum_cons]

theorem frs_snoc (T : List (List Nat)) (d : List Nat) : ∀ i, frs i (T ++ [d]) = frs i T ++ frameL (7 + (i + T.length)) (i + T.length) d := by
  induction T with
  | nil => intro i; simp [frs]
  | cons x T ih =>
    intro i
    simp only [List.cons_append, frs, ih, List.append_assoc, List.length_cons]
    rw [show i + 1 + T.length = i + (T.length + 1) by omega]

theorem lenF_snoc (T : List (List Nat)) (d : List Nat) : lenF (T ++ [d]) = lenF T + (d.length + 17) := by
  simp [lenF]

def cntF : Nat → List (List Nat) → Nat
  | _, [] => 0
  | c, d :: T => if d.length + 17 ≤ c then 1 + cntF (c - (d.length + 17)) T else 0
def endF : Nat → List (List Nat) → Nat
  | _, [] => 0
  | c, d :: T => if d.length + 17 ≤ c then (d.length + 17) + endF (c - (d.length + 17)) T else 0

theorem take4_frame (s k : Nat) (d r : List Nat) (c : Nat) (hc : 4 ≤ c) : ((frameL s k d ++ r).take c).take 4 = be4 d.length := by
  rw [List.take_take, Nat.min_eq_left hc]
  obtain ⟨a0, a1, a2, a3, s0, s1, s2, s3, s4, s5, s6, s7, e4, e8, e⟩ := head_parts s k d (be4 (4294967295 - crc 4294967295 (headL s k d)) ++ r)
  have hF : frameL s k d ++ r = headL s k d ++ (be4 (4294967295 - crc 4294967295 (headL s k d)) ++ r) := by unfold frameL; rw [List.append_assoc]
  rw [hF, e, e4]; rfl

/-- frames that are cut off are read as far as they are whole -/
theorem scan_cut (f : Nat) : ∀ (T : List (List Nat)) (i c : Nat), ((frs i T).take c).length < f → i + T.length ≤ 100 → (∀ d ∈ T, d.length ≤ 200 ∧ ∀ j, d.getD j 0 < 256) →
    (scanF f ((frs i T).take c) ((7 + i : Nat) : Int)).1.length = cntF c T ∧ (scanF f ((frs i T).take c) ((7 + i : Nat) : Int)).2 = endF c T := by
  induction f with
  | zero => intro T i c h; omega
  | succ f ih =>
    intro T i c hf hi hT
    cases T with
    | nil => simp [frs, scanF_none one_nil, cntF, endF]
    | cons d T =>
      obtain ⟨hd, hb⟩ := hT d (by simp)
      simp only [List.length_cons] at hi
      simp only [frs, cntF, endF]
      by_cases hc : d.length + 17 ≤ c
      · have e : (frameL (7 + i) i d ++ frs (i + 1) T).take c = frameL (7 + i) i d ++ (frs (i + 1) T).take (c - (d.length + 17)) := by
          rw [List.take_append, frame_len, List.take_of_length_le (by rw [frame_len]; exact hc)]
        have h1 := one_frame (7 + i) i d ((frs (i + 1) T).take (c - (d.length + 17))) (by omega) (by omega) (crc_head _ _ _ (by omega) hb)
        have hw : wrap64 (((7 + i : Nat)) : Int) = ((7 + i : Nat) : Int) := by unfold wrap64; omega
        have hw2 : wrap64 (((7 + i : Nat)) + 1 : Int) = ((7 + (i + 1) : Nat) : Int) := by unfold wrap64; omega
        have hf2 : ((frs (i + 1) T).take (c - (d.length + 17))).length < f := by
          have h := congrArg List.length e
          rw [List.length_append, frame_len] at h
          simp only [frs] at hf
          omega
        rw [e, scanF_next h1 (by rw [hw]; omega), drop_frame, hw2, if_pos hc, if_pos hc]
        obtain ⟨h2, h3⟩ := ih T (i + 1) (c - (d.length + 17)) hf2 (by omega) (fun x hx => hT x (by simp [hx]))
        exact ⟨by rw [List.length_cons, h2]; omega, by rw [h3]⟩
      · rw [if_neg hc, if_neg hc]
        have hlen : ((frameL (7 + i) i d ++ frs (i + 1) T).take c).length = c := by
          rw [List.length_take, List.length_append, frame_len]; omega
        have : scanF (f + 1) ((frameL (7 + i) i d ++ frs (i + 1) T).take c) ((7 + i : Nat) : Int) = ([], 0) := by
          by_cases h17 : c < 17
          · exact stop_short (by omega)
          · exact stop_wide (n := d.length) (by rw [take4_frame _ _ _ _ _ (by omega), beV_be4 _ (by omega)]) (.inr (by omega))
        rw [this]
        simp

/-- with another number at first none is -/
theorem scan_eight (f : Nat) (T : List (List Nat)) (hT : ∀ d ∈ T, d.length ≤ 200 ∧ ∀ j, d.getD j 0 < 256) : scanF f (frs 0 T) 8 = ([], 0) := by
  cases T with
  | nil => exact scanF_none one_nil
  | cons d T =>
    obtain ⟨hd, hb⟩ := hT d (by simp)
    exact scanF_stop (one_frame (7 + 0) 0 d (frs 1 T) (by omega) (by omega) (crc_head _ _ _ (by omega) hb)) (.inr (by unfold wrap64; omega))

/-- the ends, gone through one by one -/
theorem cut_step (T : List (List Nat)) (c n : Nat) (hn : n < T.length) (hc : lenF (T.take n) ≤ c) :
    (lenF (T.take (n + 1)) ≤ c → cntF (c - lenF (T.take n)) (T.drop n) = 1 + cntF (c - lenF (T.take (n + 1))) (T.drop (n + 1)) ∧ lenF (T.take n) + endF (c - lenF (T.take n)) (T.drop n) = lenF (T.take (n + 1)) + endF (c - lenF (T.take (n + 1))) (T.drop (n + 1))) ∧
    (¬ lenF (T.take (n + 1)) ≤ c → cntF (c - lenF (T.take n)) (T.drop n) = 0 ∧ endF (c - lenF (T.take n)) (T.drop n) = 0) := by
  have h1 := take_succ_getD T n [] hn
  have h2 := drop_getD T n [] hn
  have h3 : lenF (T.take (n + 1)) = lenF (T.take n) + ((T.getD n []).length + 17) := by rw [h1, lenF_snoc]
  constructor
  · intro h
    rw [h2]
    simp only [cntF, endF]
    rw [if_pos (by omega), if_pos (by omega), h3, show c - lenF (T.take n) - ((T.getD n []).length + 17) = c - (lenF (T.take n) + ((T.getD n []).length + 17)) by omega]
    exact ⟨rfl, by omega⟩
  · intro h
    rw [h2]
    simp only [cntF, endF]
    rw [if_neg (by omega), if_neg (by omega)]
    exact ⟨rfl, rfl⟩

end Go.Proofs.YtobnbdoehobigaaDoor
