import Derived.Test.YtbpdjekibcbaaaaSAwake
namespace Go.Proofs.Ytbpdjekibcbaaaa
open Go.RowKit
set_option linter.unusedVariables false
set_option linter.unusedSimpArgs false

theorem f_take (l : List Nat) : fGen (l.take 24) = fGen l ∧ fHalf (l.take 24) = fHalf l ∧ fSnap (l.take 24) = fSnap l ∧ fLog (l.take 24) = fLog l := by
  refine ⟨?_, ?_, ?_, ?_⟩
  · unfold fGen; rw [List.take_take]; rfl
  · unfold fHalf; rw [List.getD_eq_getElem?_getD, List.getElem?_take, if_pos (by omega), ← List.getD_eq_getElem?_getD]
  · unfold fSnap; rw [List.drop_take, List.take_take]; rfl
  · unfold fLog; rw [List.drop_take, List.take_take]; rfl
theorem hdr_head (gen half snap log size : Nat) : (hdrL gen half snap log size).take 8 = beR gen 8 := by
  unfold hdrL; exact List.take_left' (beR_len _ _)
theorem hdr_tail (gen half snap log : Nat) : (hdrL gen half snap log 32).drop 24 = beR gen 8 := by
  have e : hdrL gen half snap log 32 = (beR gen 8 ++ (half :: (beR snap 4 ++ (beR log 4 ++ List.replicate (32 - 25) 0)))) ++ beR gen 8 := by unfold hdrL; simp
  rw [e]
  exact List.drop_left' (by simp [beR_len])
theorem beR_inj {m n k : Nat} (h : beR m k = beR n k) (hm : m < 256 ^ k) (hn : n < 256 ^ k) : m = n := by
  rw [← beV_beR m k hm, h, beV_beR n k hn]

/-- a torn header is the elder, the younger, or none -/
theorem torn_law (a0 a1 a2 a3 b0 b1 b2 b3 n : Nat) (cap : Int) (ha : a0 ≤ 9223372036854775807 ∧ a2 ≤ 2147483648 ∧ a3 ≤ 2147483648) (hb : b0 ≤ 9223372036854775807 ∧ b2 ≤ 2147483648 ∧ b3 ≤ 2147483648) (hne : a0 ≠ b0) (hn : n ≤ 32)
    (h : HdrOk ((hdrL b0 b1 b2 b3 32).take n ++ (hdrL a0 a1 a2 a3 32).drop n) cap) :
    (fun l => (fGen l = a0 ∧ fHalf l = a1 ∧ fSnap l = a2 ∧ fLog l = a3) ∨ (fGen l = b0 ∧ fHalf l = b1 ∧ fSnap l = b2 ∧ fLog l = b3)) ((hdrL b0 b1 b2 b3 32).take n ++ (hdrL a0 a1 a2 a3 32).drop n) := by
  have la := hdr_len a0 a1 a2 a3 32 (by omega)
  have lb := hdr_len b0 b1 b2 b3 32 (by omega)
  have pa := hdr_parts a0 a1 a2 a3 32 (by omega) (by omega) (by omega)
  have pb := hdr_parts b0 b1 b2 b3 32 (by omega) (by omega) (by omega)
  obtain ⟨M, hM⟩ : ∃ M, (hdrL b0 b1 b2 b3 32).take n ++ (hdrL a0 a1 a2 a3 32).drop n = M := ⟨_, rfl⟩
  rw [hM] at h ⊢
  have hl : M.length = 32 := by rw [← hM]; simp [la, lb]; omega
  have hk := h.2.2.2.2.2.2.2.2
  have hg := h.2.2.1
  rw [hl] at hk
  have ht : M.take 8 = beR (fGen M) 8 := by rw [← hk]; rw [hdr_head, hk]
  have hd : M.drop 24 = beR (fGen M) 8 := by
    have := hdr_tail (fGen M) (fHalf M) (fSnap M) (fLog M)
    rwa [hk] at this
  have lt8 : ∀ x : Nat, x ≤ 9223372036854775807 → x < 256 ^ 8 := fun x hx => by
    have : (256 : Nat) ^ 8 = 18446744073709551616 := by decide
    omega
  by_cases h8 : n ≤ 24
  · have hd2 : M.drop 24 = beR a0 8 := by
      rw [← hM, List.drop_append, List.drop_of_length_le (by simp; omega), List.nil_append, List.drop_drop, List.length_take, lb, Nat.min_eq_left (by omega), show n + (24 - n) = 24 by omega]
      exact hdr_tail a0 a1 a2 a3
    have e0 : fGen M = a0 := beR_inj (hd.symm.trans hd2) (lt8 _ hg) (lt8 _ ha.1)
    by_cases h9 : n ≤ 8
    · left
      have e1 : M.drop 8 = (hdrL a0 a1 a2 a3 32).drop 8 := by
        rw [← hM, List.drop_append, List.drop_of_length_le (by simp; omega), List.nil_append, List.drop_drop, List.length_take, lb, Nat.min_eq_left (by omega), show n + (8 - n) = 8 by omega]
      have e2 : M = hdrL a0 a1 a2 a3 32 := by
        rw [← List.take_append_drop 8 M, ht, e0, e1, ← hdr_head a0 a1 a2 a3 32, List.take_append_drop]
      rw [e2]
      exact pa
    · exfalso
      have ht2 : M.take 8 = beR b0 8 := by
        rw [← hM, List.take_append_of_le_length (by simp [lb]; omega), List.take_take, Nat.min_eq_left (by omega)]
        exact hdr_head _ _ _ _ _
      have e3 : fGen M = b0 := beR_inj (ht.symm.trans ht2) (lt8 _ hg) (lt8 _ hb.1)
      omega
  · right
    have e : M.take 24 = (hdrL b0 b1 b2 b3 32).take 24 := by
      rw [← hM, List.take_append_of_le_length (by simp [lb]; omega), List.take_take, Nat.min_eq_left (by omega)]
    have f1 := f_take M
    have f2 := f_take (hdrL b0 b1 b2 b3 32)
    rw [← e] at f2
    exact ⟨by rw [← f1.1, f2.1, pb.1], by rw [← f1.2.1, f2.2.1, pb.2.1], by rw [← f1.2.2.1, f2.2.2.1, pb.2.2.1], by rw [← f1.2.2.2, f2.2.2.2, pb.2.2.2]⟩

theorem addr_add' (b o i : Nat) : (⟨b, o, none⟩ : Addr).add i = ⟨b, o + i, none⟩ := by unfold Addr.add; split <;> simp_all
/-- bytes behind an empty slice of the call's own -/
theorem run_app_e {base : Nat} {w : World} {g : Nat} {m : List Nat} {x : Value} (ty : TypeId) (hv : Own base w (some ⟨g, 0, none⟩) 0 0 []) (hx : Bytes w x m) (hlen : m.length ≤ 70368744177664) (hbase : base ≤ w.heap.size) :
    ∃ A' n' cap' w', (Builtin.append_ #[24, 24] ty #[.slice (some ⟨g, 0, none⟩) 0 0, x]).run Try.prog w = .ok (.slice A' n' cap') w' ∧ Own base w' A' n' cap' m ∧ Ext w w' := by
  obtain ⟨A', n', cap', w', hr, hO, hg⟩ := run_app ty hv hx (by simpa using hlen) hbase
  refine ⟨A', n', cap', w', hr, by simpa using hO, ?_⟩
  obtain ⟨hn, hv, hb⟩ := hv
  obtain ⟨X, c, rfl, h2, h3, h4, h5, h6⟩ := hx
  obtain ⟨i0, hi, hz0, hz1, hz2⟩ := info_parts infoU8
  cases X with
  | none =>
    have hc := h4 rfl
    subst hc
    have hm : m = [] := List.eq_nil_of_length_eq_zero (by omega)
    subst hm
    have hr2 := run_append_owned_none (P := Try.prog) (w := w) base 24 ty 5 i0 1 Try.underlying24 hi _ 0 _ hv
    rw [show ([] : List Nat).length = 0 from rfl] at hr
    rw [hr2] at hr
    simp only [Result.ok.injEq] at hr
    rw [← hr.2]
    exact Ext.refl w
  | some a =>
    have hcells : ∀ j u, (m.map byteV)[j]? = some u → w.cell? (a.add j) = some u := by
      intro j u hj
      have hj1 : j < m.length := by have := (List.getElem?_eq_some_iff.1 hj).1; simpa using this
      obtain ⟨b, off, e1, e2, e3⟩ := h6 (by omega)
      simp only [Option.some.injEq] at e1
      subst e1
      have e4 := e3 j hj1
      rw [show (⟨b, off, none⟩ : Addr).add j = ⟨b, off + j, none⟩ from addr_add' b off j]
      rw [e4, ← hj, List.getElem?_map, List.getD_eq_getElem?_getD, List.getElem?_eq_getElem hj1]
      rfl
    have hone : ∀ u ∈ m.map byteV, u.oneCell' = true := by intro u hu; obtain ⟨y, _, rfl⟩ := List.mem_map.1 hu; rfl
    rcases hv.2 with ⟨hnil, hn0⟩ | ⟨g', cap1, cur, hsl, hb1, hg1, hnc, hcm, hcs, htake⟩
    · simp at hnil
    · simp only [Value.slice.injEq, Option.some.injEq, Addr.mk.injEq, and_true, true_and] at hsl
      obtain ⟨rfl, rfl⟩ := hsl
      by_cases hm : m.length = 0
      · have hml : m = [] := List.eq_nil_of_length_eq_zero hm
        subst hml
        have hr2 := run_append_room (P := Try.prog) w 24 ty 5 i0 Try.underlying24 hi g 0 0 cur hg1 a 0 c [] (by simp) (by intro j u hj; simp at hj) (by simp) (by omega) (by simp)
        rw [show ([] : List Nat).length = 0 from rfl] at hr
        rw [hr2] at hr
        simp only [Result.ok.injEq] at hr
        rw [← hr.2]
        have : w.setRow g (cur.toList.take (0 * i0.size) ++ [] ++ cur.toList.drop (0 * i0.size + ([] : List Value).length)).toArray = w := by
          simp
          exact setRow_self w g cur 5 (0, 0) hg1
        rw [this]
        exact Ext.refl w
      · have hr2 := run_append_grow (P := Try.prog) w 24 ty 5 i0 (.int .u8 0) Try.underlying24 hi hz0 ⟨g, 0, none⟩ 0 0 [] (by simp) (by intro j u hj; simp at hj) a m.length c (m.map byteV) (by simp [hz1]) hcells (by omega) (by omega) (growslice_fits (by omega) (by rw [hz2]; omega))
        rw [hr2] at hr
        simp only [Result.ok.injEq] at hr
        rw [← hr.2]
        exact (Ext.drew w).alloc _

end Go.Proofs.Ytbpdjekibcbaaaa
