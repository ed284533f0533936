import Derived.Test.YtbpdjekibcbaaaaSDec
namespace Go.Proofs.Ytbpdjekibcbaaaa
open Go.RowKit
set_option linter.unusedVariables false
set_option linter.unusedSimpArgs false

theorem beR_lt' (n k : Nat) : ∀ x ∈ beR n k, x < 256 := by
  induction k with
  | zero => intro x hx; simp [beR] at hx
  | succ k ih =>
    intro x hx
    simp only [beR, List.mem_cons] at hx
    rcases hx with rfl | hx
    · omega
    · exact ih x hx
theorem hdr_lt (gen half snap log size : Nat) (hh : half < 256) : ∀ i, (hdrL gen half snap log size).getD i 0 < 256 := by
  apply lt_of_all
  simp only [hdrL, List.all_append, List.all_cons, Bool.and_eq_true, List.all_eq_true, decide_eq_true_eq]
  exact ⟨beR_lt' _ _, hh, beR_lt' _ _, beR_lt' _ _, fun x hx => by rw [List.eq_of_mem_replicate hx]; omega, beR_lt' _ _⟩

set_option maxRecDepth 100000 in
set_option maxHeartbeats 3200000 in
theorem refDecode_any (v : Value) (l : List Nat) (cap : Int) (w : World) (hb : Bytes w v l) (hl : l.length ≤ 600) (hc : I64 cap) :
    Calls Try.prog 10 #[v, .int .i64 cap] w fun e w' => e = .returned (decOut l cap) ∧ Ext w w' := by
  have BB := Lib.hid hb
  obtain ⟨A, ca, rfl, h1, h2, h3, h4, h5⟩ := hb
  have HB := Lib.hid h4
  by_cases hs : l.length < 32
  · have hs' : (l.length : Int) < 32 := by omega
    have e1 : decOut l cap = hdrOut 0 0 0 0 false := by unfold decOut; rw [if_neg (by unfold HdrOk; omega)]
    rw [e1]
    unfold hdrOut
    obtain ⟨N, hN⟩ : ∃ N, l.length = N := ⟨_, rfl⟩
    rw [hN] at hs' ⊢
    clear h1 h2 h3 h4 h5 BB HB hl hs hN
    go_enter Try.func10, Try.ntmps10
    go_wp2
    refine bodyPost_ret (v := .tuple #[.agg #[.int .i64 0, .int .i64 0, .int .i64 0, .int .i64 0], .bool false]) (by simp [results, Try.results10, go_sem]) rfl ⟨rfl, ?_⟩
    (repeat (first | exact Ext.refl _ | apply Ext.alloc | apply Ext.ext | (refine Ext.setCell ?_ (by simp) _)))
  · obtain ⟨b, off, rfl, hbl, hc5⟩ := h5 (by omega)
    obtain ⟨N, hN⟩ : ∃ N, l.length = N := ⟨_, rfl⟩
    rw [hN] at hs hl h1 hc5 BB ⊢
    have HN := Lib.hid hN
    have hgl := fGen_lt h4 (by omega)
    have hsl := fSnap_lt h4 (by omega)
    have hll := fLog_lt h4 (by omega)
    have hhl : fHalf l < 256 := h4 8
    obtain ⟨G, hG⟩ : ∃ G, numI (l.take 8) = G := ⟨_, rfl⟩
    obtain ⟨x0, hhf⟩ : ∃ x, fHalf l = x := ⟨_, rfl⟩
    obtain ⟨sn, hsn⟩ : ∃ x, fSnap l = x := ⟨_, rfl⟩
    obtain ⟨lg, hlg⟩ : ∃ x, fLog l = x := ⟨_, rfl⟩
    have c8 := hc5 8 (by omega)
    rw [show l.getD 8 0 = x0 from hhf] at c8
    have B8 := Lib.hid (BB.out.sub 0 8 (by omega))
    have B4 := Lib.hid (BB.out.sub 9 4 (by omega))
    have C4 := Lib.hid (BB.out.sub 13 4 (by omega))
    rw [List.drop_zero, Nat.add_zero, Nat.sub_zero] at B8
    have W := Lib.hid (And.intro hG (And.intro hhf (And.intro hsn (And.intro hlg hgl))))
    have hGl : G < 9223372036854775808 := by rw [← hG]; unfold numI; split <;> omega
    rw [hhf] at hhl
    rw [hsn] at hsl
    rw [hlg] at hll
    have HC := Lib.hid hc
    have W1 : Hid (numI (l.take 8) = G) := Lib.hid hG
    have W2 : Hid (numI ((l.drop 9).take 4) = (sn : Int)) := Lib.hid (by unfold numI; rw [show beV ((l.drop 9).take 4) = sn from hsn]; split <;> omega)
    have W3 : Hid (numI ((l.drop 13).take 4) = (lg : Int)) := Lib.hid (by unfold numI; rw [show beV ((l.drop 13).take 4) = lg from hlg]; split <;> omega)
    have HOK : Hid (HdrOk l cap ↔ (¬ G < 1 ∧ ¬ 1 < (x0 : Int) ∧ ¬ 2147483648 < (sn : Int) ∧ ¬ 2147483648 < (lg : Int) ∧ ¬ cap < (sn : Int) ∧ ¬ cap - (sn : Int) < (lg : Int) ∧ hdrL G.toNat x0 sn lg N = l)) := by
      refine Lib.hid ?_
      unfold HdrOk
      rw [hhf, hsn, hlg, HN.out]
      have hGG := W1.out
      have hgl' : beV (l.take 8) < 18446744073709551616 := hgl
      unfold numI at hGG
      by_cases hg1 : G < 1
      · have : ¬ (1 ≤ fGen l ∧ fGen l ≤ 9223372036854775807) := by unfold fGen; split at hGG <;> omega
        constructor
        · intro h; exact absurd ⟨h.2.1, h.2.2.1⟩ this
        · intro h; exact absurd hg1 h.1
      · have e1 : G = (fGen l : Int) := by unfold fGen; split at hGG <;> omega
        have e2 : fGen l ≤ 9223372036854775807 := by unfold fGen; split at hGG <;> omega
        have e3 : G.toNat = fGen l := by omega
        rw [e3]
        constructor
        · intro h; exact ⟨hg1, by omega, by omega, by omega, by omega, by omega, h.2.2.2.2.2.2.2.2⟩
        · intro h; exact ⟨by omega, by omega, e2, by omega, by omega, by omega, by omega, by omega, h.2.2.2.2.2.2⟩
    have HVAL : Hid (HdrOk l cap → decOut l cap = .tuple #[.agg #[.int .i64 G, .int .i64 (x0 : Int), .int .i64 (sn : Int), .int .i64 (lg : Int)], .bool true]) := by
      refine Lib.hid fun h => ?_
      unfold decOut
      rw [if_pos h, hhf, hsn, hlg]
      have hGG := W1.out
      unfold numI at hGG
      have h1 := h.2.1
      have h2 := h.2.2.1
      have e1 : G = (fGen l : Int) := by unfold fGen at h1 h2 ⊢; split at hGG <;> omega
      rw [e1]; rfl
    have HNO : Hid (¬ HdrOk l cap → decOut l cap = .tuple #[.agg #[.int .i64 0, .int .i64 0, .int .i64 0, .int .i64 0], .bool false]) := Lib.hid fun h => by unfold decOut; rw [if_neg h]; rfl
    obtain ⟨DO, hDO⟩ : ∃ x, decOut l cap = x := ⟨_, rfl⟩
    rw [hDO] at HVAL HNO ⊢
    clear hDO
    have n8 : 8 ≤ ca := by omega
    have n13 : 13 ≤ ca := by omega
    have n17 : 17 ≤ ca := by omega
    clear h4 hG hhf hsn hlg hgl hc5 h3 hN hc
    go_enter Try.func10, Try.ntmps10
    go_wp2
    obtain ⟨q, hq⟩ : ∃ q, w.heap.size = q := ⟨_, rfl⟩
    obtain ⟨wb, hwb⟩ : ∃ wb, w.alloc (.cells #[.int .i64 0, .int .i64 0, .int .i64 0, .int .i64 0] 33) = wb := ⟨_, rfl⟩
    have EQ : Hid (Ext w wb) := Lib.hid (by rw [← hwb]; exact (Ext.refl w).alloc _)
    have hqb : wb.heap.size = q + 1 := by rw [← hwb, ← hq]; simp
    have hqc : wb.heap[q]? = some (.cells #[.int .i64 0, .int .i64 0, .int .i64 0, .int .i64 0] 33 (0, 0)) := by
      rw [← hwb, ← hq]; simp only [World.alloc]; rw [Array.getElem?_push_size]
    rw [hwb, hq]
    have HQ := Lib.hid hq
    have HB2 := Lib.hid hqb
    have HQC := Lib.hid hqc
    have k8 : ∀ g, (wb.ext g).cell? ⟨b, off + 8, none⟩ = some (.int .u8 (x0 : Int)) := fun g => ((EQ.out.trans ⟨g, rfl⟩).cell hbl).trans c8
    clear hwb hq hqb hqc
    refine region_flow 15 [13, 20, 23, 6] (fun t v => match t with | 13 => v = .int .i64 G | 20 => v = .int .i64 (sn : Int) | 23 => v = .int .i64 (lg : Int) | 6 => ∃ g, v = .pointer (some ⟨g, 0, none⟩) | _ => False)
      (fun t v w' => match t with | 6 => ∃ g, v = .pointer (some ⟨g, 0, none⟩) ∧ q < g ∧ w'.heap[g]? = some (.cells #[.int .i64 0, .int .i64 0, .int .i64 0, .int .i64 0] 33 (0, 0)) | _ => True) (by kernel_rfl) (by kernel_rfl) ?hq ?hu ?hR ?h
    case hq => intro t v h; split at h <;> simp_all
    case hu => intro t h; split at h <;> simp_all [undef]
    case hR =>
      intro t v wx wy _ hR he
      split at hR
      · obtain ⟨g, e, h1, h2⟩ := hR; exact ⟨g, e, h1, he.heapAt h2⟩
      · trivial
    case h =>
      dsimp only [List.take, List.drop]
      iterate 2 (refine Flow.plain rfl rfl ?_; go_big_quiet_step (fail); refine wpQuiet_nil ?_)
      refine Flow.call Try.call28 [.slice (some ⟨b, off, none⟩) 8 ca] rfl rfl rfl ?_ (fun wx hx hf => (refNumber_any _ (l.take 8) wx (B8.out.ext (EQ.out.trans hx)) (by simp; omega)).mono ?_) ?_
      · exact ⟨_, rfl⟩
      · rintro e w' ⟨rfl, hE⟩
        exact ⟨_, rfl, hE, by show Value.int _ _ = _; rw [W1.out], trivial⟩
      rintro v rfl
      simp only [Act.put, List.setIfInBounds_toArray, List.set_cons_zero, List.set_cons_succ]
      iterate 6 (refine Flow.plain rfl rfl ?_; go_big_quiet_step (fail); refine wpQuiet_nil ?_)
      refine Flow.call Try.call28 [.slice (some ⟨b, off + 9, none⟩) 4 (ca - 9)] rfl rfl rfl ?_ (fun wx hx hf => (refNumber_any _ ((l.drop 9).take 4) wx (B4.out.ext (EQ.out.trans hx)) (by simp; omega)).mono ?_) ?_
      · exact ⟨_, rfl⟩
      · rintro e w' ⟨rfl, hE⟩
        exact ⟨_, rfl, hE, by show Value.int _ _ = _; rw [W2.out], trivial⟩
      rintro v rfl
      simp only [Act.put, List.setIfInBounds_toArray, List.set_cons_zero, List.set_cons_succ]
      iterate 2 (refine Flow.plain rfl rfl ?_; go_big_quiet_step (fail); refine wpQuiet_nil ?_)
      refine Flow.call Try.call28 [.slice (some ⟨b, off + 13, none⟩) 4 (ca - 13)] rfl rfl rfl ?_ (fun wx hx hf => (refNumber_any _ ((l.drop 13).take 4) wx (C4.out.ext (EQ.out.trans hx)) (by simp; omega)).mono ?_) ?_
      · exact ⟨_, rfl⟩
      · rintro e w' ⟨rfl, hE⟩
        exact ⟨_, rfl, hE, by show Value.int _ _ = _; rw [W3.out], trivial⟩
      rintro v rfl
      simp only [Act.put, List.setIfInBounds_toArray, List.set_cons_zero, List.set_cons_succ]
      iterate 1 (refine Flow.plain rfl rfl ?_; go_big_quiet_step (fail); refine wpQuiet_nil ?_)
      refine Flow.make 6 rfl rfl rfl ⟨_, 0, rfl⟩ (fun wx hx hf => ?_) ?_
      · refine ⟨_, _, ?hrun, (Ext.refl wx).alloc (.cells #[.int .i64 0, .int .i64 0, .int .i64 0, .int .i64 0] 33), ⟨wx.heap.size, rfl⟩, wx.heap.size, rfl, by have := HB2.out; have := hx.size; omega, by simp only [World.alloc]; rw [Array.getElem?_push_size]⟩
        case hrun => simp [execOp, go_sem]
      rintro v ⟨g, rfl⟩
      simp only [Act.put, List.setIfInBounds_toArray, List.set_cons_zero, List.set_cons_succ]
      refine Flow.nil fun w5 hx5 hf => ?_
      obtain ⟨g2, e2, hgq, hblk⟩ := hf 6 (by simp) ⟨g, rfl⟩
      simp [Act.eval] at e2
      subst e2
      have hgs : g < w5.heap.size := (Array.getElem?_eq_some_iff.1 hblk).1
      have d0 : w5.cell? ⟨g, 0, none⟩ = some (.int .i64 0) := cell_of_row w5 g 0 _ _ (0, 0) hblk
      have d1 : w5.cell? ⟨g, 1, none⟩ = some (.int .i64 0) := cell_of_row w5 g 1 _ _ (0, 0) hblk
      have d2 : w5.cell? ⟨g, 2, none⟩ = some (.int .i64 0) := cell_of_row w5 g 2 _ _ (0, 0) hblk
      have d3 : w5.cell? ⟨g, 3, none⟩ = some (.int .i64 0) := cell_of_row w5 g 3 _ _ (0, 0) hblk
      have fz : ∀ j, w5.frozen? ⟨g, j, none⟩ = false := fun j => by simp [World.frozen?, hblk]
      have E5 : Ext w w5 := EQ.out.trans hx5
      obtain ⟨w6, HW⟩ : ∃ w6, (((w5.setCell ⟨g, 0, none⟩ (.int .i64 G)).setCell ⟨g, 1, none⟩ (.int .i64 (x0 : Int))).setCell ⟨g, 2, none⟩ (.int .i64 (sn : Int))).setCell ⟨g, 3, none⟩ (.int .i64 (lg : Int)) = w6 := ⟨_, rfl⟩
      have hqw : w.heap.size ≤ g := by have := HQ.out; omega
      have E6 : Hid (Ext w w6) := Lib.hid (by rw [← HW]; exact (((E5.setCell hqw _).setCell hqw _).setCell hqw _).setCell hqw _)
      have hz6 : w6.heap.size = w5.heap.size := by rw [← HW]; simp
      have i0 : w6.cell? ⟨g, 0, none⟩ = some (.int .i64 G) := by rw [← HW]; simp [go_sem, d0, d1, d2, d3, fz, hgs]
      have i1 : w6.cell? ⟨g, 1, none⟩ = some (.int .i64 (x0 : Int)) := by rw [← HW]; simp [go_sem, d0, d1, d2, d3, fz, hgs]
      have i2 : w6.cell? ⟨g, 2, none⟩ = some (.int .i64 (sn : Int)) := by rw [← HW]; simp [go_sem, d0, d1, d2, d3, fz, hgs]
      have i3 : w6.cell? ⟨g, 3, none⟩ = some (.int .i64 (lg : Int)) := by rw [← HW]; simp [go_sem, d0, d1, d2, d3, fz, hgs]
      have hgq6 : g ≠ q := by omega
      have hq6 : w6.heap[q]? = some (.cells #[.int .i64 0, .int .i64 0, .int .i64 0, .int .i64 0] 33 (0, 0)) := by
        rw [← HW, setCell_heap hgq6.symm, setCell_heap hgq6.symm, setCell_heap hgq6.symm, setCell_heap hgq6.symm]
        exact hx5.heapAt HQC.out
      have hg6 : g < w6.heap.size := by rw [hz6]; exact hgs
      have z0 : w6.cell? ⟨q, 0, none⟩ = some (.int .i64 0) := cell_of_row w6 q 0 _ _ (0, 0) hq6
      have z1 : w6.cell? ⟨q, 1, none⟩ = some (.int .i64 0) := cell_of_row w6 q 1 _ _ (0, 0) hq6
      have z2 : w6.cell? ⟨q, 2, none⟩ = some (.int .i64 0) := cell_of_row w6 q 2 _ _ (0, 0) hq6
      have z3 : w6.cell? ⟨q, 3, none⟩ = some (.int .i64 0) := cell_of_row w6 q 3 _ _ (0, 0) hq6
      have fq : ∀ j, w6.frozen? ⟨q, j, none⟩ = false := fun j => by simp [World.frozen?, hq6]
      have hq6s : q < w6.heap.size := by omega
      have HQ6 := Lib.hid hq6
      clear hf hblk hx5 E5 hq6 HQC HB2
      by_cases c1 : G < 1
      · obtain rfl := HNO.out (fun h => by have := (HOK.out.1 h).1; omega)
        go_wp2_with (rw [HW])
        refine bodyPost_ret (v := .tuple #[.agg #[.int .i64 0, .int .i64 0, .int .i64 0, .int .i64 0], .bool false]) (by simp [results, Try.results10, go_sem, z0, z1, z2, z3, fq, hq6s]) rfl ⟨rfl, ?_⟩
        have := HQ.out
        (repeat (first | exact E6.out | (refine Ext.setCell ?_ (by simp; omega) _)))
      · skip
        by_cases c2 : 1 < (x0 : Int)
        · obtain rfl := HNO.out (fun h => by have := (HOK.out.1 h).2.1; omega)
          go_wp2_with (rw [HW])
          refine bodyPost_ret (v := .tuple #[.agg #[.int .i64 0, .int .i64 0, .int .i64 0, .int .i64 0], .bool false]) (by simp [results, Try.results10, go_sem, z0, z1, z2, z3, fq, hq6s]) rfl ⟨rfl, ?_⟩
          have := HQ.out
          (repeat (first | exact E6.out | (refine Ext.setCell ?_ (by simp; omega) _)))
        · skip
          by_cases c3 : 2147483648 < (sn : Int)
          · obtain rfl := HNO.out (fun h => by have := (HOK.out.1 h).2.2.1; omega)
            go_wp2_with (rw [HW])
            refine bodyPost_ret (v := .tuple #[.agg #[.int .i64 0, .int .i64 0, .int .i64 0, .int .i64 0], .bool false]) (by simp [results, Try.results10, go_sem, z0, z1, z2, z3, fq, hq6s]) rfl ⟨rfl, ?_⟩
            have := HQ.out
            (repeat (first | exact E6.out | (refine Ext.setCell ?_ (by simp; omega) _)))
          · skip
            by_cases c4 : 2147483648 < (lg : Int)
            · obtain rfl := HNO.out (fun h => by have := (HOK.out.1 h).2.2.2.1; omega)
              go_wp2_with (rw [HW])
              refine bodyPost_ret (v := .tuple #[.agg #[.int .i64 0, .int .i64 0, .int .i64 0, .int .i64 0], .bool false]) (by simp [results, Try.results10, go_sem, z0, z1, z2, z3, fq, hq6s]) rfl ⟨rfl, ?_⟩
              have := HQ.out
              (repeat (first | exact E6.out | (refine Ext.setCell ?_ (by simp; omega) _)))
            · skip
              by_cases c5 : cap < (sn : Int)
              · obtain rfl := HNO.out (fun h => by have := (HOK.out.1 h).2.2.2.2.1; omega)
                go_wp2_with (rw [HW])
                refine bodyPost_ret (v := .tuple #[.agg #[.int .i64 0, .int .i64 0, .int .i64 0, .int .i64 0], .bool false]) (by simp [results, Try.results10, go_sem, z0, z1, z2, z3, fq, hq6s]) rfl ⟨rfl, ?_⟩
                have := HQ.out
                (repeat (first | exact E6.out | (refine Ext.setCell ?_ (by simp; omega) _)))
              · skip
                have hw64 : wrap64 (cap - (sn : Int)) = cap - (sn : Int) := by have := HC.out; unfold I64 at this; unfold wrap64; omega
                by_cases c6 : cap - (sn : Int) < (lg : Int)
                · obtain rfl := HNO.out (fun h => by have := (HOK.out.1 h).2.2.2.2.2.1; omega)
                  go_wp2_with (rw [HW])
                  refine bodyPost_ret (v := .tuple #[.agg #[.int .i64 0, .int .i64 0, .int .i64 0, .int .i64 0], .bool false]) (by simp [results, Try.results10, go_sem, z0, z1, z2, z3, fq, hq6s]) rfl ⟨rfl, ?_⟩
                  have := HQ.out
                  (repeat (first | exact E6.out | (refine Ext.setCell ?_ (by simp; omega) _)))
                · skip
                  go_wp2_with (rw [HW])
                  clear d0 d1 d2 d3 fz HW
                  obtain ⟨G2, rfl⟩ := Int.eq_ofNat_of_zero_le (show 0 ≤ G by omega)
                  have HREF : Hid (∀ wx, Ext w6 wx → Calls Try.prog 8 #[.int .i64 (G2 : Int), .int .i64 (x0 : Int), .int .i64 (sn : Int), .int .i64 (lg : Int), .int .i64 (N : Int)] wx fun e w' => ∃ A cap, e = .returned (.slice A N cap) ∧ Own wx.heap.size w' A N cap (hdrL G2 x0 sn lg N) ∧ Ext wx w') := Lib.hid fun wx _ => refHeader_any G2 x0 sn lg N wx (by omega) (by omega) (by omega) (by omega) (by omega)
                  have EQ7 : Hid (HdrOk l cap ↔ hdrL G2 x0 sn lg N = l) := Lib.hid (by rw [HOK.out, Int.toNat_natCast]; exact ⟨fun h => h.2.2.2.2.2.2, fun h => ⟨by omega, by omega, by omega, by omega, by omega, by omega, h⟩⟩)
                  clear HOK
                  have HL := Lib.hid (show ∀ i, (hdrL G2 x0 sn lg N).getD i 0 < 256 from (hdr_lt G2 x0 sn lg N (by omega)))
                  have SE := str_eq (hdrL G2 x0 sn lg N) l HL.out HB.out
                  obtain ⟨s1, hs1⟩ : ∃ s, strOf (hdrL G2 x0 sn lg N) = s := ⟨_, rfl⟩
                  obtain ⟨s2, hs2⟩ : ∃ s, strOf l = s := ⟨_, rfl⟩
                  have HS1 := Lib.hid hs1
                  have v2 : ∀ g', (convert 24 9 (.slice (some ⟨b, off, none⟩) N ca)).run Try.prog (w6.ext g') = .ok (.string s2) (w6.ext g') := fun g' => by rw [← hs2]; exact conv_bytes (BB.out.ext (E6.out.trans ⟨g', rfl⟩))
                  rw [hs1, hs2] at SE
                  clear hs1 hs2
                  obtain ⟨d, hd⟩ : ∃ d, decide (hdrL G2 x0 sn lg N = l) = !d := ⟨!decide (hdrL G2 x0 sn lg N = l), by rw [Bool.not_not]⟩
                  rw [hd] at SE
                  have HD := Lib.hid hd
                  clear hd
                  have e0 : ∀ g', (w6.ext g').cell? ⟨g, 0, none⟩ = some (.int .i64 (G2 : Int)) := fun g' => (Ext.cell (⟨g', rfl⟩ : Ext w6 (w6.ext g')) hg6).trans i0
                  have e1 : ∀ g', (w6.ext g').cell? ⟨g, 1, none⟩ = some (.int .i64 (x0 : Int)) := fun g' => (Ext.cell (⟨g', rfl⟩ : Ext w6 (w6.ext g')) hg6).trans i1
                  have e2 : ∀ g', (w6.ext g').cell? ⟨g, 2, none⟩ = some (.int .i64 (sn : Int)) := fun g' => (Ext.cell (⟨g', rfl⟩ : Ext w6 (w6.ext g')) hg6).trans i2
                  have e3 : ∀ g', (w6.ext g').cell? ⟨g, 3, none⟩ = some (.int .i64 (lg : Int)) := fun g' => (Ext.cell (⟨g', rfl⟩ : Ext w6 (w6.ext g')) hg6).trans i3
                  refine region_flow 15 [69] (fun t v => match t with | 69 => ∃ A c, v = .slice A N c | _ => False) (fun t v w' => match t with | 69 => ∃ A c, v = .slice A N c ∧ Bytes w' (.slice A N c) (hdrL G2 x0 sn lg N) | _ => True) (by kernel_rfl) (by kernel_rfl) ?hq ?hu ?hR ?h
                  case hq => intro t v h; split at h <;> simp_all
                  case hu => intro t h; split at h <;> simp_all [undef]
                  case hR =>
                    intro t v wx wy _ hR he
                    split at hR
                    · obtain ⟨A, c, e, h1⟩ := hR; exact ⟨A, c, e, h1.ext he⟩
                    · trivial
                  case h =>
                    dsimp only [List.take, List.drop]
                    iterate 10 (refine Flow.plain rfl rfl ?_; go_big_quiet_step (fail); refine wpQuiet_nil ?_)
                    refine Flow.call Try.call8 [.int .i64 (G2 : Int), .int .i64 (x0 : Int), .int .i64 (sn : Int), .int .i64 (lg : Int), .int .i64 (N : Int)] rfl rfl rfl ?_ (fun wx hx hf => (HREF.out wx hx).mono ?_) ?_
                    · exact ⟨.slice none N 0, _, _, rfl⟩
                    · rintro e w' ⟨A, c, rfl, hO, hE⟩
                      exact ⟨_, rfl, hE, ⟨A, c, rfl⟩, A, c, rfl, hO.bytes⟩
                    rintro v ⟨A, c, rfl⟩
                    simp only [Act.put, List.setIfInBounds_toArray, List.set_cons_zero, List.set_cons_succ]
                    refine Flow.use (.string s1) rfl rfl (fun wx hx hf => ?_) ?_
                    · obtain ⟨A2, c2, e, hB⟩ := hf.at 69 (by kernel_rfl) ⟨A, c, rfl⟩
                      refine run_conv 24 9 (.tmp 69) rfl ?_
                      rw [e, ← HS1.out]
                      exact conv_bytes hB
                    simp only [Act.put, List.setIfInBounds_toArray, List.set_cons_zero, List.set_cons_succ]
                    iterate 3 (refine Flow.plain rfl rfl ?_; go_big_quiet_step (fail); refine wpQuiet_nil ?_)
                    refine Flow.nil fun w7 hx7 hf => ?_
                    have E7 := Lib.hid (E6.out.trans hx7)
                    have i0' := (hx7.cell hg6).trans i0
                    have i1' := (hx7.cell hg6).trans i1
                    have i2' := (hx7.cell hg6).trans i2
                    have i3' := (hx7.cell hg6).trans i3
                    have hq7 := hx7.heapAt HQ6.out
                    have z0' : w7.cell? ⟨q, 0, none⟩ = some (.int .i64 0) := cell_of_row w7 q 0 _ _ (0, 0) hq7
                    have z1' : w7.cell? ⟨q, 1, none⟩ = some (.int .i64 0) := cell_of_row w7 q 1 _ _ (0, 0) hq7
                    have z2' : w7.cell? ⟨q, 2, none⟩ = some (.int .i64 0) := cell_of_row w7 q 2 _ _ (0, 0) hq7
                    have z3' : w7.cell? ⟨q, 3, none⟩ = some (.int .i64 0) := cell_of_row w7 q 3 _ _ (0, 0) hq7
                    have fq' : ∀ j, w7.frozen? ⟨q, j, none⟩ = false := fun j => by simp [World.frozen?, hq7]
                    have hq7s : q < w7.heap.size := (Array.getElem?_eq_some_iff.1 hq7).1
                    clear hf hx7 hq7 i0 i1 i2 i3 z0 z1 z2 z3 fq hq6s hg6 HQ6 e0 e1 e2 e3 v2 HL HS1
                    clear SE
                    cases d with
                    | false =>
                      have hEq := of_decide_eq_true HD.out
                      obtain rfl := HVAL.out (EQ7.out.2 hEq)
                      clear HD hEq HVAL HNO EQ7 h5 hw64 hz6 k8 B8 B4 C4 W W1 W2 W3 HREF c8 c1 c2 c3 c4 c5 c6 BB HB HC HN hs hl hhl hsl hll
                      dsimp only [wpList, Exit.then, Bool.not_true, Bool.not_false]
                      go_wp2
                      refine bodyPost_ret (v := .tuple #[.agg #[.int .i64 (G2 : Int), .int .i64 (x0 : Int), .int .i64 (sn : Int), .int .i64 (lg : Int)], .bool true]) (by simp [results, Try.results10, go_sem, z0', z1', z2', z3', fq', hq7s]) rfl ⟨rfl, ?_⟩
                      have := HQ.out
                      (repeat (first | exact E7.out | (refine Ext.setCell ?_ (by simp; omega) _)))
                    | true =>
                      have hEq := of_decide_eq_false HD.out
                      obtain rfl := HNO.out (fun h => hEq (EQ7.out.1 h))
                      clear HD hEq HVAL HNO EQ7 h5 hw64 hz6 k8 B8 B4 C4 W W1 W2 W3 HREF c8 c1 c2 c3 c4 c5 c6 BB HB HC HN hs hl hhl hsl hll
                      dsimp only [wpList, Exit.then, Bool.not_true, Bool.not_false]
                      go_wp2
                      refine bodyPost_ret (v := .tuple #[.agg #[.int .i64 0, .int .i64 0, .int .i64 0, .int .i64 0], .bool false]) (by simp [results, Try.results10, go_sem, z0', z1', z2', z3', fq', hq7s]) rfl ⟨rfl, ?_⟩
                      have := HQ.out
                      (repeat (first | exact E7.out | (refine Ext.setCell ?_ (by simp; omega) _)))

end Go.Proofs.Ytbpdjekibcbaaaa
