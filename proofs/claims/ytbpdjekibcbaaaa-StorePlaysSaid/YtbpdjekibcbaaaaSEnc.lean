import Derived.Test.YtbpdjekibcbaaaaSNum2
namespace Go.Proofs.Ytbpdjekibcbaaaa
open Go.RowKit
set_option linter.unusedVariables false
set_option linter.unusedSimpArgs false

/-- the bytes of a header -/
def hdrL (gen half snap log size : Nat) : List Nat := beR gen 8 ++ (half :: (beR snap 4 ++ (beR log 4 ++ (List.replicate (size - 25) 0 ++ beR gen 8))))
def EncB (gen half snap log size : Int) : Prop := 32 ≤ size ∧ 0 ≤ gen ∧ 0 ≤ half ∧ half ≤ 1 ∧ 0 ≤ snap ∧ snap ≤ 2147483648 ∧ 0 ≤ log ∧ log ≤ 2147483648
instance (gen half snap log size : Int) : Decidable (EncB gen half snap log size) := by unfold EncB; infer_instance

theorem hdr_len (gen half snap log size : Nat) (h : 32 ≤ size) : (hdrL gen half snap log size).length = size := by
  unfold hdrL; simp [beR_len]; omega
theorem layL_at (p q r : List Nat) {off k : Nat} (n : Nat) (hp : p.length = off) (hq : q.length = k) : layL (p ++ (q ++ r)) off k n = p ++ (beR n k ++ r) := by
  subst hp; subst hq
  unfold layL
  rw [List.take_left, ← List.append_assoc p q r, ← List.length_append, List.drop_left]
theorem zeros_parts {size : Nat} (h : 32 ≤ size) : List.replicate size 0 = List.replicate 8 0 ++ ((0 : Nat) :: (List.replicate 4 0 ++ (List.replicate 4 0 ++ (List.replicate (size - 25) 0 ++ List.replicate 8 0)))) := by
  have e : size = 8 + (1 + (4 + (4 + ((size - 25) + 8)))) := by omega
  conv => lhs; rw [e]
  simp only [← List.replicate_append_replicate]
  rfl
theorem hdr_laid (gen half snap log size : Nat) (h : 32 ≤ size) :
    layL (layL (layL ((layL (List.replicate size 0) 0 8 gen).set 8 half) 9 4 snap) 13 4 log) (size - 8) 8 gen = hdrL gen half snap log size := by
  rw [zeros_parts h]
  have e1 := layL_at [] (List.replicate 8 0) ((0 : Nat) :: (List.replicate 4 0 ++ (List.replicate 4 0 ++ (List.replicate (size - 25) 0 ++ List.replicate 8 0)))) (off := 0) (k := 8) gen rfl (by simp)
  simp only [List.nil_append] at e1
  rw [e1, set_mid _ _ half 0 (by simp [beR_len])]
  have e2 := layL_at (beR gen 8 ++ [half]) (List.replicate 4 0) (List.replicate 4 0 ++ (List.replicate (size - 25) 0 ++ List.replicate 8 0)) (off := 9) (k := 4) snap (by simp [beR_len]) (by simp)
  simp only [List.append_assoc, List.cons_append, List.nil_append] at e2
  rw [e2]
  have e3 := layL_at (beR gen 8 ++ half :: beR snap 4) (List.replicate 4 0) (List.replicate (size - 25) 0 ++ List.replicate 8 0) (off := 13) (k := 4) log (by simp [beR_len]) (by simp)
  simp only [List.append_assoc, List.cons_append, List.nil_append] at e3
  rw [e3]
  have e4 := layL_at (beR gen 8 ++ half :: (beR snap 4 ++ (beR log 4 ++ List.replicate (size - 25) 0))) (List.replicate 8 0) [] (off := size - 8) (k := 8) gen (by simp [beR_len]; omega) (by simp)
  simp only [List.append_assoc, List.cons_append, List.nil_append, List.append_nil] at e4
  rw [e4]
  rfl

def hdrV (gen half snap log : Int) : Value := .agg #[.int .i64 gen, .int .i64 half, .int .i64 snap, .int .i64 log]
def I64 (x : Int) : Prop := -9223372036854775808 ≤ x ∧ x ≤ 9223372036854775807

set_option maxRecDepth 100000 in
set_option maxHeartbeats 3200000 in
theorem encode_no (gen half snap log size : Int) (w : World) (h : ¬ EncB gen half snap log size) :
    Calls Try.prog 7 #[.agg #[.int .i64 gen, .int .i64 half, .int .i64 snap, .int .i64 log], .int .i64 size] w fun e w' => e = .returned (.slice none 0 0) ∧ Ext w w' := by
  have H := Lib.hid h
  clear h
  go_enter Try.func7, Try.ntmps7
  by_cases h1 : size < 32
  · go_wp2; go_ret; exact ⟨rfl, (Ext.refl w).alloc _⟩
  · by_cases h2 : min gen (min half (min snap log)) < 0
    · go_wp2; go_ret; exact ⟨rfl, (Ext.refl w).alloc _⟩
    · by_cases h3 : 1 < half
      · go_wp2; go_ret; exact ⟨rfl, (Ext.refl w).alloc _⟩
      · by_cases h4 : 2147483648 < max snap log
        · go_wp2; go_ret; exact ⟨rfl, (Ext.refl w).alloc _⟩
        · exfalso
          apply H.out
          unfold EncB
          omega

/-- the bytes while they are laid, and the header's own block -/
def EncSt (w : World) (q : Nat) (gen half snap log : Nat) (size : Nat) (g cap : Nat) (l : List Nat) (wr : World) : Prop :=
  Own w.heap.size wr (some ⟨g, 0, none⟩) size cap l ∧ Ext w wr ∧ q ≠ g ∧ w.heap.size ≤ g ∧ q < wr.heap.size ∧ wr.heap[q]? = some (.cells #[.int .i64 (gen : Int), .int .i64 (half : Int), .int .i64 (snap : Int), .int .i64 (log : Int)] 23 (0, 0))

theorem EncSt.keep {w : World} {q gen half snap log size g cap : Nat} {l l' : List Nat} {wr wx : World} (h : EncSt w q gen half snap log size g cap l wr) (ho : Own w.heap.size wx (some ⟨g, 0, none⟩) size cap l') (hk : Keep wr wx (fun b => b = g)) : EncSt w q gen half snap log size g cap l' wx :=
  ⟨ho, Keep.toExt h.2.1 hk (fun k hk => by subst hk; exact h.2.2.2.1), h.2.2.1, h.2.2.2.1, Nat.lt_of_lt_of_le h.2.2.2.2.1 hk.size, by rw [hk.block q h.2.2.2.2.1 h.2.2.1]; exact h.2.2.2.2.2⟩

theorem EncSt.ext {w : World} {q gen half snap log size g cap : Nat} {l : List Nat} {wr wx : World} (h : EncSt w q gen half snap log size g cap l wr) (he : Ext wr wx) : EncSt w q gen half snap log size g cap l wx :=
  ⟨h.1.ext he, h.2.1.trans he, h.2.2.1, h.2.2.2.1, Nat.lt_of_lt_of_le h.2.2.2.2.1 he.size, he.heapAt h.2.2.2.2.2⟩
theorem EncSt.cells {w : World} {q gen half snap log size g cap : Nat} {l : List Nat} {wr : World} (h : EncSt w q gen half snap log size g cap l wr) :
    wr.cell? ⟨q, 0, none⟩ = some (.int .i64 (gen : Int)) ∧ wr.cell? ⟨q, 1, none⟩ = some (.int .i64 (half : Int)) ∧ wr.cell? ⟨q, 2, none⟩ = some (.int .i64 (snap : Int)) ∧ wr.cell? ⟨q, 3, none⟩ = some (.int .i64 (log : Int)) ∧ q < wr.heap.size :=
  ⟨cell_of_row wr q 0 _ _ (0, 0) h.2.2.2.2.2, cell_of_row wr q 1 _ _ (0, 0) h.2.2.2.2.2, cell_of_row wr q 2 _ _ (0, 0) h.2.2.2.2.2, cell_of_row wr q 3 _ _ (0, 0) h.2.2.2.2.2, h.2.2.2.2.1⟩

set_option maxRecDepth 100000 in
set_option maxHeartbeats 3200000 in
theorem encode_yes (gen half snap log size : Nat) (w : World) (hs : 32 ≤ size ∧ size ≤ 600) (hg : gen ≤ 9223372036854775807) (hh : half ≤ 1) (hsn : snap ≤ 2147483648) (hl : log ≤ 2147483648) :
    Calls Try.prog 7 #[.agg #[.int .i64 (gen : Int), .int .i64 (half : Int), .int .i64 (snap : Int), .int .i64 (log : Int)], .int .i64 (size : Int)] w fun e w' => ∃ A cap, e = .returned (.slice A size cap) ∧ Own w.heap.size w' A size cap (hdrL gen half snap log size) ∧ Ext w w' := by
  go_enter Try.func7, Try.ntmps7
  have h1 : ¬ (size : Int) < 32 := by omega
  have h2 : ¬ min (gen : Int) (min (half : Int) (min (snap : Int) (log : Int))) < 0 := by omega
  have h3 : ¬ (1 : Int) < (half : Int) := by omega
  have h4 : ¬ (2147483648 : Int) < max (snap : Int) (log : Int) := by omega
  have MK := zeros_u8 size (by omega)
  go_wp2
  obtain ⟨q, hq⟩ : ∃ q, w.heap.size = q := ⟨_, rfl⟩
  have E1 : Ext w (w.alloc (.cells #[.int .i64 (gen : Int), .int .i64 (half : Int), .int .i64 (snap : Int), .int .i64 (log : Int)] 23)) := (Ext.refl w).alloc _
  have ST : EncSt w q gen half snap log size (q + 1) size (List.replicate size 0) ((w.alloc (.cells #[.int .i64 (gen : Int), .int .i64 (half : Int), .int .i64 (snap : Int), .int .i64 (log : Int)] 23)).alloc (.cells (madeCells #[.int .u8 0] size) 5)) := by
    have h9 := (own_zeros (w.alloc (.cells #[.int .i64 (gen : Int), .int .i64 (half : Int), .int .i64 (snap : Int), .int .i64 (log : Int)] 23)) size (by omega)).mono E1.size
    have e9 : (w.alloc (.cells #[.int .i64 (gen : Int), .int .i64 (half : Int), .int .i64 (snap : Int), .int .i64 (log : Int)] 23)).heap.size = q + 1 := by simp [hq]
    rw [e9] at h9
    refine ⟨h9, E1.alloc _, by omega, by omega, by simp; omega, ?_⟩
    subst hq
    simp only [World.alloc]
    rw [Array.getElem?_push_lt (by simp), Array.getElem_push_eq]
  rw [hq]
  clear E1 MK
  obtain ⟨w1, hw1⟩ : ∃ w1, (w.alloc (.cells #[.int .i64 (gen : Int), .int .i64 (half : Int), .int .i64 (snap : Int), .int .i64 (log : Int)] 23)).alloc (.cells (madeCells #[.int .u8 0] size) 5) = w1 := ⟨_, rfl⟩
  rw [hw1] at ST ⊢
  clear hw1
  have S1 := Lib.hid ST
  obtain ⟨d0, d1, d2, d3, qq⟩ := ST.cells
  clear ST
  refine region_tail 4 (by kernel_rfl) (by kernel_rfl) ?_
  simp only [List.take_succ_cons, List.take_zero, List.drop_succ_cons, List.drop_zero]
  iterate 4 (go_big_quiet_step (fail))
  refine wpQuiet_nil ?_
  intro wx hE
  have T1 := Lib.hid (S1.out.ext hE)
  clear d0 d1 d2 d3 qq S1 hE
  go_wp2_with fail
  refine (lay_any (q + 1) size size 0 8 size gen (List.replicate size 0) wx T1.out.1 (by simp; omega) (by omega) hg (by omega)).mono ?_
  rintro e w1 ⟨⟨v, rfl⟩, hO, hK⟩
  have S1 := Lib.hid (T1.out.keep hO hK)
  clear hO hK T1
  obtain ⟨d0, d1, d2, d3, qq⟩ := S1.out.cells
  have ll1 : (layL (List.replicate size 0) 0 8 gen).length = size := by rw [layL_len _ _ _ _ (by simp; omega)]; simp
  obtain ⟨hst1, hcl, hfr⟩ := S1.out.1.stored 8 half (by rw [ll1]; omega) (by omega)
  have S2 := Lib.hid (S1.out.keep hst1 Keep.setCell)
  clear hst1 S1
  go_wp2
  obtain ⟨w1, hw1⟩ : ∃ w2, w1.setCell ⟨q + 1, 8, none⟩ (.int .u8 (half : Int)) = w2 := ⟨_, rfl⟩
  rw [hw1] at S2 ⊢
  clear hw1 hcl hfr d0 d1 d2 d3 qq
  have S1 := S2
  clear S2
  have ll2 : ((layL (List.replicate size 0) 0 8 gen).set 8 half).length = size := by rw [List.length_set]; exact ll1
  obtain ⟨d0, d1, d2, d3, qq⟩ := S1.out.cells
  refine region_tail 4 (by kernel_rfl) (by kernel_rfl) ?_
  simp only [List.take_succ_cons, List.take_zero, List.drop_succ_cons, List.drop_zero]
  iterate 4 (go_big_quiet_step (fail))
  refine wpQuiet_nil ?_
  intro wx hE
  have T1 := Lib.hid (S1.out.ext hE)
  clear d0 d1 d2 d3 qq S1 hE
  go_wp2_with fail
  refine (lay_any (q + 1) size size 9 4 (size - 9) snap ((layL (List.replicate size 0) 0 8 gen).set 8 half) wx T1.out.1 (by rw [ll2]; omega) (by omega) (by omega) (by omega)).mono ?_
  rintro e w1 ⟨⟨v, rfl⟩, hO, hK⟩
  have S1 := Lib.hid (T1.out.keep hO hK)
  clear hO hK T1
  obtain ⟨d0, d1, d2, d3, qq⟩ := S1.out.cells
  have ll3 : (layL ((layL (List.replicate size 0) 0 8 gen).set 8 half) 9 4 snap).length = size := by rw [layL_len _ _ _ _ (by rw [ll2]; omega)]; exact ll2
  go_wp2
  refine region_tail 4 (by kernel_rfl) (by kernel_rfl) ?_
  simp only [List.take_succ_cons, List.take_zero, List.drop_succ_cons, List.drop_zero]
  iterate 4 (go_big_quiet_step (fail))
  refine wpQuiet_nil ?_
  intro wx hE
  have T1 := Lib.hid (S1.out.ext hE)
  clear d0 d1 d2 d3 qq S1 hE
  go_wp2_with fail
  refine (lay_any (q + 1) size size 13 4 (size - 13) log (layL ((layL (List.replicate size 0) 0 8 gen).set 8 half) 9 4 snap) wx T1.out.1 (by rw [ll3]; omega) (by omega) (by omega) (by omega)).mono ?_
  rintro e w1 ⟨⟨v, rfl⟩, hO, hK⟩
  have S1 := Lib.hid (T1.out.keep hO hK)
  clear hO hK T1
  obtain ⟨d0, d1, d2, d3, qq⟩ := S1.out.cells
  have ll4 : (layL (layL ((layL (List.replicate size 0) 0 8 gen).set 8 half) 9 4 snap) 13 4 log).length = size := by rw [layL_len _ _ _ _ (by rw [ll3]; omega)]; exact ll3
  obtain ⟨m, hm⟩ : ∃ m, size - 8 = m := ⟨_, rfl⟩
  have hmi : (size : Int) - 8 = (m : Int) := by omega
  have hml : m ≤ size := by omega
  have hm8 : size - m = 8 := by omega
  go_wp2
  refine region_tail 6 (by kernel_rfl) (by kernel_rfl) ?_
  simp only [List.take_succ_cons, List.take_zero, List.drop_succ_cons, List.drop_zero]
  iterate 6 (go_big_quiet_step (fail))
  refine wpQuiet_nil ?_
  intro wx hE
  have T1 := Lib.hid (S1.out.ext hE)
  clear d0 d1 d2 d3 qq S1 hE
  go_wp2_with fail
  refine (lay_any (q + 1) size size m 8 8 gen (layL (layL ((layL (List.replicate size 0) 0 8 gen).set 8 half) 9 4 snap) 13 4 log) wx T1.out.1 (by rw [ll4]; omega) (by omega) hg (by omega)).mono ?_
  rintro e w1 ⟨⟨v, rfl⟩, hO, hK⟩
  have S1 := Lib.hid (T1.out.keep hO hK)
  clear hO hK T1
  obtain ⟨d0, d1, d2, d3, qq⟩ := S1.out.cells
  go_wp2
  go_ret
  have hL := hdr_laid gen half snap log size hs.1
  rw [hm] at hL
  have h9 := S1.out.1
  rw [hL] at h9
  exact ⟨_, _, rfl, h9, S1.out.2.1⟩

end Go.Proofs.Ytbpdjekibcbaaaa
