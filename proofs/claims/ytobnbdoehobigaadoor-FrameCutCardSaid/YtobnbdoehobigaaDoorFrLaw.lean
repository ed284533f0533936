import Derived.Test.YtobnbdoehobigaaDoorScanB
set_option linter.unusedVariables false
set_option linter.unusedSimpArgs false
namespace Go.Proofs.YtobnbdoehobigaaDoor
open Go Go.RowKit

theorem beV_be4 (n : Nat) (h : n < 4294967296) : beV (be4 n) = n := by
  simp only [be4, beV, List.foldl_cons, List.foldl_nil]
  omega

theorem beV_be8 (n : Nat) (h : n < 18446744073709551616) : beV (be8 n) = n := by
  simp only [be8, beV, List.foldl_cons, List.foldl_nil]
  omega

theorem frame_len (s k : Nat) (d : List Nat) : (frameL s k d).length = d.length + 17 := by
  simp [frameL, headL, be4, be8]

theorem head_parts (s k : Nat) (d r : List Nat) : ∃ a0 a1 a2 a3 s0 s1 s2 s3 s4 s5 s6 s7, be4 d.length = [a0, a1, a2, a3] ∧ be8 s = [s0, s1, s2, s3, s4, s5, s6, s7] ∧
    headL s k d ++ r = a0 :: a1 :: a2 :: a3 :: s0 :: s1 :: s2 :: s3 :: s4 :: s5 :: s6 :: s7 :: k :: (d ++ r) :=
  ⟨_, _, _, _, _, _, _, _, _, _, _, _, rfl, rfl, by simp [headL, be4, be8]⟩

theorem one_frame (s k : Nat) (d r : List Nat) (hd : d.length ≤ 1048576) (hs : s < 18446744073709551616) (hc : crc 4294967295 (headL s k d) < 4294967296) : oneL (frameL s k d ++ r) = some (s, k, d) := by
  have hlen : (frameL s k d ++ r).length = d.length + 17 + r.length := by rw [List.length_append, frame_len]
  have h4 := beV_be4 d.length (by omega)
  have h8 := beV_be8 s hs
  have hcs := beV_be4 (4294967295 - crc 4294967295 (headL s k d)) (by omega)
  have hl4 : (be4 (4294967295 - crc 4294967295 (headL s k d))).length = 4 := rfl
  have hhl : (headL s k d).length = 13 + d.length := by simp [headL, be4, be8]; omega
  obtain ⟨a0, a1, a2, a3, s0, s1, s2, s3, s4, s5, s6, s7, e4, e8, e⟩ := head_parts s k d (be4 (4294967295 - crc 4294967295 (headL s k d)) ++ r)
  have hF : frameL s k d ++ r = headL s k d ++ (be4 (4294967295 - crc 4294967295 (headL s k d)) ++ r) := by unfold frameL; rw [List.append_assoc]
  have t4 : (frameL s k d ++ r).take 4 = be4 d.length := by rw [hF, e, e4]; rfl
  have t8 : ((frameL s k d ++ r).drop 4).take 8 = be8 s := by rw [hF, e, e8]; rfl
  have tk : (frameL s k d ++ r).getD 12 0 = k := by rw [hF, e]; rfl
  have td : ((frameL s k d ++ r).drop 13).take d.length = d := by
    rw [hF, e]
    show (d ++ _).take d.length = d
    rw [List.take_left]
  have tc : (frameL s k d ++ r).take (13 + d.length) = headL s k d := by rw [hF, ← hhl, List.take_left]
  have ts : ((frameL s k d ++ r).drop (13 + d.length)).take 4 = be4 (4294967295 - crc 4294967295 (headL s k d)) := by
    rw [hF, ← hhl, List.drop_left, ← hl4, List.take_left]
  unfold oneL
  rw [t4, h4, if_neg (by omega), if_neg (by omega), ts, hcs, tc, if_neg (by simp), t8, h8, tk, td]

theorem drop_frame (s k : Nat) (d r : List Nat) : (frameL s k d ++ r).drop (d.length + 17) = r := by
  rw [← frame_len s k d, List.drop_left]

theorem crc_head (s k : Nat) (d : List Nat) (hk : k < 256) (hd : ∀ i, d.getD i 0 < 256) : crc 4294967295 (headL s k d) < 4294967296 := by
  refine crc_lt _ _ (by decide) (fun x hx => ?_)
  unfold headL at hx
  rcases List.mem_append.1 hx with hx | hx
  · rcases List.mem_append.1 hx with hx | hx
    · rcases List.mem_append.1 hx with hx | hx
      · obtain ⟨i, hi, rfl⟩ := List.getElem_of_mem hx
        have := be4_lt d.length i
        rwa [List.getD_eq_getElem?_getD, List.getElem?_eq_getElem hi] at this
      · obtain ⟨i, hi, rfl⟩ := List.getElem_of_mem hx
        have := be8_lt s i
        rwa [List.getD_eq_getElem?_getD, List.getElem?_eq_getElem hi] at this
    · simp at hx; omega
  · obtain ⟨i, hi, rfl⟩ := List.getElem_of_mem hx
    have := hd i
    rwa [List.getD_eq_getElem?_getD, List.getElem?_eq_getElem hi] at this

/-- one record's frame alone is read as it -/
theorem scan_frame (s k : Nat) (d : List Nat) (hd : d.length ≤ 1048576) (hs : s ≤ 9223372036854775807) (hk : k < 256) (hb : ∀ i, d.getD i 0 < 256) (f : Nat) :
    scanF (f + 1) (frameL s k d) (s : Int) = ([((s : Int), k, d)], d.length + 17) := by
  have h1 := one_frame s k d [] hd (by omega) (crc_head s k d hk hb)
  have h2 := drop_frame s k d []
  rw [List.append_nil] at h1 h2
  have hw : wrap64 (s : Int) = (s : Int) := by unfold wrap64; omega
  rw [scanF_next h1 (by rw [hw]; omega), h2, scanF_none one_nil]
  simp

end Go.Proofs.YtobnbdoehobigaaDoor
