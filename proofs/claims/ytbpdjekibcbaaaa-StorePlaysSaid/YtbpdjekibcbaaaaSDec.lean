import Derived.Test.YtbpdjekibcbaaaaSRefH
namespace Go.Proofs.Ytbpdjekibcbaaaa
open Go.RowKit
set_option linter.unusedVariables false
set_option linter.unusedSimpArgs false

/-- the four numbers that bytes tell -/
def fGen (l : List Nat) : Nat := beV (l.take 8)
def fHalf (l : List Nat) : Nat := l.getD 8 0
def fSnap (l : List Nat) : Nat := beV ((l.drop 9).take 4)
def fLog (l : List Nat) : Nat := beV ((l.drop 13).take 4)
def HdrOk (l : List Nat) (cap : Int) : Prop :=
  32 ≤ l.length ∧ 1 ≤ fGen l ∧ fGen l ≤ 9223372036854775807 ∧ fHalf l ≤ 1 ∧ fSnap l ≤ 2147483648 ∧ fLog l ≤ 2147483648 ∧ (fSnap l : Int) ≤ cap ∧ (fLog l : Int) ≤ cap - (fSnap l : Int) ∧ hdrL (fGen l) (fHalf l) (fSnap l) (fLog l) l.length = l
instance (l : List Nat) (cap : Int) : Decidable (HdrOk l cap) := by unfold HdrOk; infer_instance

theorem lt_take {l : List Nat} (hb : ∀ i, l.getD i 0 < 256) (n : Nat) : ∀ i, (l.take n).getD i 0 < 256 := by
  intro i
  rw [List.getD_eq_getElem?_getD, List.getElem?_take]
  split
  · rw [← List.getD_eq_getElem?_getD]; exact hb i
  · decide
theorem lt_drop {l : List Nat} (hb : ∀ i, l.getD i 0 < 256) (n : Nat) : ∀ i, (l.drop n).getD i 0 < 256 := by
  intro i; rw [getD_drop]; exact hb _
theorem beV_lt' {l : List Nat} (hb : ∀ i, l.getD i 0 < 256) {n : Nat} (hn : l.length = n) : beV l < 256 ^ n := by
  have := beV_lt l hb l.length (Nat.le_refl _)
  rw [List.take_length] at this
  rw [← hn]; exact this
theorem fGen_lt {l : List Nat} (hb : ∀ i, l.getD i 0 < 256) (h : 32 ≤ l.length) : fGen l < 18446744073709551616 := beV_lt' (n := 8) (lt_take hb 8) (by simp; omega)
theorem fSnap_lt {l : List Nat} (hb : ∀ i, l.getD i 0 < 256) (h : 32 ≤ l.length) : fSnap l < 4294967296 := beV_lt' (n := 4) (lt_take (lt_drop hb 9) 4) (by simp; omega)
theorem fLog_lt {l : List Nat} (hb : ∀ i, l.getD i 0 < 256) (h : 32 ≤ l.length) : fLog l < 4294967296 := beV_lt' (n := 4) (lt_take (lt_drop hb 13) 4) (by simp; omega)

theorem bequal_any (v v' : Value) (a b : List Nat) (w : World) (ha : Bytes w v a) (hb : Bytes w v' b) :
    Calls Try.prog 27 #[v, v'] w fun e w' => e = .returned (.bool (decide (a = b))) ∧ w' = w := by
  have C1 := conv_bytes ha
  have C2 := conv_bytes hb
  have S := str_eq a b (by obtain ⟨_, _, _, _, _, _, h, _⟩ := ha; exact h) (by obtain ⟨_, _, _, _, _, _, h, _⟩ := hb; exact h)
  obtain ⟨A, c, rfl, _⟩ := ha
  obtain ⟨B, d, rfl, _⟩ := hb
  obtain ⟨s1, hs1⟩ : ∃ s, strOf a = s := ⟨_, rfl⟩
  obtain ⟨s2, hs2⟩ : ∃ s, strOf b = s := ⟨_, rfl⟩
  rw [hs1] at C1 S
  rw [hs2] at C2 S
  go_enter Try.func27, Try.ntmps27
  go_wp2
  go_ret
  exact ⟨rfl, rfl⟩

/-- encoded, whatever it is -/
theorem encode_any (gen half snap log : Int) (size : Nat) (w : World) (hs : 32 ≤ size ∧ size ≤ 600) (hg : gen ≤ 9223372036854775807) :
    Calls Try.prog 7 #[.agg #[.int .i64 gen, .int .i64 half, .int .i64 snap, .int .i64 log], .int .i64 (size : Int)] w fun e w' => ∃ v l, e = .returned v ∧ Bytes w' v l ∧ Ext w w' ∧ l = (if EncB gen half snap log size then hdrL gen.toNat half.toNat snap.toNat log.toNat size else []) := by
  by_cases h : EncB gen half snap log size
  · have h2 := h
    unfold EncB at h2
    obtain ⟨g, rfl⟩ := Int.eq_ofNat_of_zero_le h2.2.1
    obtain ⟨hf, rfl⟩ := Int.eq_ofNat_of_zero_le h2.2.2.1
    obtain ⟨sn, rfl⟩ := Int.eq_ofNat_of_zero_le h2.2.2.2.2.1
    obtain ⟨lg, rfl⟩ := Int.eq_ofNat_of_zero_le h2.2.2.2.2.2.2.1
    refine (encode_yes g hf sn lg size w hs (by omega) (by omega) (by omega) (by omega)).mono ?_
    rintro e w' ⟨A, cap, rfl, hO, hE⟩
    rw [if_pos h]
    exact ⟨_, _, rfl, hO.bytes, hE, rfl⟩
  · refine (encode_no gen half snap log size w h).mono ?_
    rintro e w' ⟨rfl, hE⟩
    rw [if_neg h]
    exact ⟨_, _, rfl, (Own.nil 0 w').bytes, hE, rfl⟩

def hdrOut (g h s n : Int) (ok : Bool) : Value := .tuple #[.agg #[.int .i64 g, .int .i64 h, .int .i64 s, .int .i64 n], .bool ok]
def decOut (l : List Nat) (cap : Int) : Value := if HdrOk l cap then hdrOut (fGen l) (fHalf l) (fSnap l) (fLog l) true else hdrOut 0 0 0 0 false

set_option maxRecDepth 100000 in
set_option maxHeartbeats 3200000 in
theorem decode_any (v : Value) (l : List Nat) (cap : Int) (w : World) (hb : Bytes w v l) (hl : l.length ≤ 600) (hc : I64 cap) :
    Calls Try.prog 9 #[v, .int .i64 cap] w fun e w' => e = .returned (decOut l cap) ∧ Ext w w' := by
  have BB := Lib.hid hb
  obtain ⟨A, ca, rfl, h1, h2, h3, h4, h5⟩ := hb
  have HB := Lib.hid h4
  by_cases hs : l.length < 32
  · have hs' : (l.length : Int) < 32 := by omega
    have e1 : decOut l cap = hdrOut 0 0 0 0 false := by unfold decOut; rw [if_neg (by unfold HdrOk; omega)]
    rw [e1]
    unfold hdrOut
    obtain ⟨N, hN⟩ : ∃ N, l.length = N := ⟨_, rfl⟩
    rw [hN] at hs' ⊢
    clear h1 h2 h3 h4 h5 BB HB hl hs hN
    go_enter Try.func9, Try.ntmps9
    go_wp2
    refine bodyPost_ret (v := .tuple #[.agg #[.int .i64 0, .int .i64 0, .int .i64 0, .int .i64 0], .bool false]) (by simp [results, Try.results9, go_sem]) rfl ⟨rfl, ?_⟩
    (repeat (first | exact Ext.refl _ | apply Ext.alloc | apply Ext.ext | (refine Ext.setCell ?_ (by simp) _)))
  · obtain ⟨b, off, rfl, hbl, hc5⟩ := h5 (by omega)
    obtain ⟨N, hN⟩ : ∃ N, l.length = N := ⟨_, rfl⟩
    rw [hN] at hs hl h1 hc5 BB ⊢
    have HN := Lib.hid hN
    have hgl := fGen_lt h4 (by omega)
    have hsl := fSnap_lt h4 (by omega)
    have hll := fLog_lt h4 (by omega)
    have hhl : fHalf l < 256 := h4 8
    obtain ⟨G, hG⟩ : ∃ G, IntKind.i64.wrap (fGen l : Int) = G := ⟨_, rfl⟩
    obtain ⟨x0, hhf⟩ : ∃ x, fHalf l = x := ⟨_, rfl⟩
    obtain ⟨sn, hsn⟩ : ∃ x, fSnap l = x := ⟨_, rfl⟩
    obtain ⟨lg, hlg⟩ : ∃ x, fLog l = x := ⟨_, rfl⟩
    have c8 := hc5 8 (by omega)
    rw [show l.getD 8 0 = x0 from hhf] at c8
    have B8 := Lib.hid (BB.out.sub 0 8 (by omega))
    have B4 := Lib.hid (BB.out.sub 9 4 (by omega))
    have C4 := Lib.hid (BB.out.sub 13 4 (by omega))
    rw [List.drop_zero, Nat.add_zero, Nat.sub_zero] at B8
    have W := Lib.hid (And.intro hG (And.intro hhf (And.intro hsn (And.intro hlg hgl))))
    have hGl : G < 9223372036854775808 := by rw [← hG, IntKind.wrap_i64]; omega
    rw [hhf] at hhl
    rw [hsn] at hsl
    rw [hlg] at hll
    have HC := Lib.hid hc
    have W1 : Hid (IntKind.i64.wrap (beV (l.take 8) : Int) = G) := Lib.hid hG
    have W2 : Hid (IntKind.i64.wrap (beV ((l.drop 9).take 4) : Int) = (sn : Int)) := Lib.hid (by rw [show beV ((l.drop 9).take 4) = sn from hsn, IntKind.wrap_i64]; omega)
    have W3 : Hid (IntKind.i64.wrap (beV ((l.drop 13).take 4) : Int) = (lg : Int)) := Lib.hid (by rw [show beV ((l.drop 13).take 4) = lg from hlg, IntKind.wrap_i64]; omega)
    have HOK : Hid (HdrOk l cap ↔ (¬ G < 1 ∧ ¬ cap < (sn : Int) ∧ ¬ cap - (sn : Int) < (lg : Int) ∧ (if EncB G x0 sn lg N then hdrL G.toNat (x0 : Int).toNat (sn : Int).toNat (lg : Int).toNat N else []) = l)) := by
      refine Lib.hid ?_
      unfold HdrOk
      rw [hhf, hsn, hlg, HN.out]
      have hGG := W1.out
      have hgl' : beV (l.take 8) < 18446744073709551616 := hgl
      rw [IntKind.wrap_i64] at hGG
      by_cases hg1 : G < 1
      · have : ¬ (1 ≤ fGen l ∧ fGen l ≤ 9223372036854775807) := by unfold fGen; omega
        constructor
        · intro h; exact absurd ⟨h.2.1, h.2.2.1⟩ this
        · intro h; exact absurd hg1 h.1
      · have e1 : G = (fGen l : Int) := by unfold fGen; omega
        have e2 : fGen l ≤ 9223372036854775807 := by unfold fGen; omega
        have e3 : G.toNat = fGen l := by omega
        by_cases he : EncB G x0 sn lg N
        · rw [if_pos he, e3, Int.toNat_natCast, Int.toNat_natCast, Int.toNat_natCast]
          unfold EncB at he
          constructor
          · intro h; exact ⟨hg1, by omega, by omega, h.2.2.2.2.2.2.2.2⟩
          · intro h; exact ⟨by omega, by omega, e2, by omega, by omega, by omega, by omega, by omega, h.2.2.2⟩
        · rw [if_neg he]
          constructor
          · intro h; exact absurd (by unfold EncB; omega) he
          · intro h
            have h9 := congrArg List.length h.2.2.2
            rw [HN.out] at h9
            simp at h9
            omega
    have HVAL : Hid (HdrOk l cap → decOut l cap = .tuple #[.agg #[.int .i64 G, .int .i64 (x0 : Int), .int .i64 (sn : Int), .int .i64 (lg : Int)], .bool true]) := by
      refine Lib.hid fun h => ?_
      unfold decOut
      rw [if_pos h, hhf, hsn, hlg]
      have hGG := W1.out
      rw [IntKind.wrap_i64] at hGG
      have h1 := h.2.1
      have h2 := h.2.2.1
      have e1 : G = (fGen l : Int) := by unfold fGen at h1 h2 ⊢; omega
      rw [e1]; rfl
    have HNO : Hid (¬ HdrOk l cap → decOut l cap = .tuple #[.agg #[.int .i64 0, .int .i64 0, .int .i64 0, .int .i64 0], .bool false]) := Lib.hid fun h => by unfold decOut; rw [if_neg h]; rfl
    obtain ⟨DO, hDO⟩ : ∃ x, decOut l cap = x := ⟨_, rfl⟩
    rw [hDO] at HVAL HNO ⊢
    clear hDO
    have n8 : 8 ≤ ca := by omega
    have n13 : 13 ≤ ca := by omega
    have n17 : 17 ≤ ca := by omega
    clear h4 hG hhf hsn hlg hgl hc5 h3 hN hc
    go_enter Try.func9, Try.ntmps9
    go_wp2
    obtain ⟨q, hq⟩ : ∃ q, w.heap.size = q := ⟨_, rfl⟩
    obtain ⟨wb, hwb⟩ : ∃ wb, w.alloc (.cells #[.int .i64 0, .int .i64 0, .int .i64 0, .int .i64 0] 23) = wb := ⟨_, rfl⟩
    have EQ : Hid (Ext w wb) := Lib.hid (by rw [← hwb]; exact (Ext.refl w).alloc _)
    have hqb : wb.heap.size = q + 1 := by rw [← hwb, ← hq]; simp
    have hqc : wb.heap[q]? = some (.cells #[.int .i64 0, .int .i64 0, .int .i64 0, .int .i64 0] 23 (0, 0)) := by
      rw [← hwb, ← hq]; simp only [World.alloc]; rw [Array.getElem?_push_size]
    rw [hwb, hq]
    have HQ := Lib.hid hq
    have HB2 := Lib.hid hqb
    have HQC := Lib.hid hqc
    have k8 : ∀ g, (wb.ext g).cell? ⟨b, off + 8, none⟩ = some (.int .u8 (x0 : Int)) := fun g => ((EQ.out.trans ⟨g, rfl⟩).cell hbl).trans c8
    clear hwb hq hqb hqc
    refine region_flow 15 [13, 20, 23, 6] (fun t v => match t with | 13 => v = .int .i64 G | 20 => v = .int .i64 (sn : Int) | 23 => v = .int .i64 (lg : Int) | 6 => ∃ g, v = .pointer (some ⟨g, 0, none⟩) | _ => False)
      (fun t v w' => match t with | 6 => ∃ g, v = .pointer (some ⟨g, 0, none⟩) ∧ q < g ∧ w'.heap[g]? = some (.cells #[.int .i64 0, .int .i64 0, .int .i64 0, .int .i64 0] 23 (0, 0)) | _ => True) (by kernel_rfl) (by kernel_rfl) ?hq ?hu ?hR ?h
    case hq => intro t v h; split at h <;> simp_all
    case hu => intro t h; split at h <;> simp_all [undef]
    case hR =>
      intro t v wx wy _ hR he
      split at hR
      · obtain ⟨g, e, h1, h2⟩ := hR; exact ⟨g, e, h1, he.heapAt h2⟩
      · trivial
    case h =>
      dsimp only [List.take, List.drop]
      iterate 2 (refine Flow.plain rfl rfl ?_; go_big_quiet_step (fail); refine wpQuiet_nil ?_)
      refine Flow.call Try.call26 [.slice (some ⟨b, off, none⟩) 8 ca] rfl rfl rfl ?_ (fun wx hx hf => (read_any _ (l.take 8) wx (B8.out.ext (EQ.out.trans hx)) (by simp; omega)).mono ?_) ?_
      · exact ⟨_, rfl⟩
      · rintro e w' ⟨rfl, hE⟩
        exact ⟨_, rfl, hE, by show Value.int _ _ = _; rw [W1.out], trivial⟩
      rintro v rfl
      simp only [Act.put, List.setIfInBounds_toArray, List.set_cons_zero, List.set_cons_succ]
      iterate 6 (refine Flow.plain rfl rfl ?_; go_big_quiet_step (fail); refine wpQuiet_nil ?_)
      refine Flow.call Try.call26 [.slice (some ⟨b, off + 9, none⟩) 4 (ca - 9)] rfl rfl rfl ?_ (fun wx hx hf => (read_any _ ((l.drop 9).take 4) wx (B4.out.ext (EQ.out.trans hx)) (by simp; omega)).mono ?_) ?_
      · exact ⟨_, rfl⟩
      · rintro e w' ⟨rfl, hE⟩
        exact ⟨_, rfl, hE, by show Value.int _ _ = _; rw [W2.out], trivial⟩
      rintro v rfl
      simp only [Act.put, List.setIfInBounds_toArray, List.set_cons_zero, List.set_cons_succ]
      iterate 2 (refine Flow.plain rfl rfl ?_; go_big_quiet_step (fail); refine wpQuiet_nil ?_)
      refine Flow.call Try.call26 [.slice (some ⟨b, off + 13, none⟩) 4 (ca - 13)] rfl rfl rfl ?_ (fun wx hx hf => (read_any _ ((l.drop 13).take 4) wx (C4.out.ext (EQ.out.trans hx)) (by simp; omega)).mono ?_) ?_
      · exact ⟨_, rfl⟩
      · rintro e w' ⟨rfl, hE⟩
        exact ⟨_, rfl, hE, by show Value.int _ _ = _; rw [W3.out], trivial⟩
      rintro v rfl
      simp only [Act.put, List.setIfInBounds_toArray, List.set_cons_zero, List.set_cons_succ]
      iterate 1 (refine Flow.plain rfl rfl ?_; go_big_quiet_step (fail); refine wpQuiet_nil ?_)
      refine Flow.make 6 rfl rfl rfl ⟨_, 0, rfl⟩ (fun wx hx hf => ?_) ?_
      · refine ⟨_, _, ?hrun, (Ext.refl wx).alloc (.cells #[.int .i64 0, .int .i64 0, .int .i64 0, .int .i64 0] 23), ⟨wx.heap.size, rfl⟩, wx.heap.size, rfl, by have := HB2.out; have := hx.size; omega, by simp only [World.alloc]; rw [Array.getElem?_push_size]⟩
        case hrun => simp [execOp, go_sem]
      rintro v ⟨g, rfl⟩
      simp only [Act.put, List.setIfInBounds_toArray, List.set_cons_zero, List.set_cons_succ]
      refine Flow.nil fun w5 hx5 hf => ?_
      obtain ⟨g2, e2, hgq, hblk⟩ := hf 6 (by simp) ⟨g, rfl⟩
      simp [Act.eval] at e2
      subst e2
      have hgs : g < w5.heap.size := (Array.getElem?_eq_some_iff.1 hblk).1
      have d0 : w5.cell? ⟨g, 0, none⟩ = some (.int .i64 0) := cell_of_row w5 g 0 _ _ (0, 0) hblk
      have d1 : w5.cell? ⟨g, 1, none⟩ = some (.int .i64 0) := cell_of_row w5 g 1 _ _ (0, 0) hblk
      have d2 : w5.cell? ⟨g, 2, none⟩ = some (.int .i64 0) := cell_of_row w5 g 2 _ _ (0, 0) hblk
      have d3 : w5.cell? ⟨g, 3, none⟩ = some (.int .i64 0) := cell_of_row w5 g 3 _ _ (0, 0) hblk
      have fz : ∀ j, w5.frozen? ⟨g, j, none⟩ = false := fun j => by simp [World.frozen?, hblk]
      have E5 : Ext w w5 := EQ.out.trans hx5
      obtain ⟨w6, HW⟩ : ∃ w6, (((w5.setCell ⟨g, 0, none⟩ (.int .i64 G)).setCell ⟨g, 1, none⟩ (.int .i64 (x0 : Int))).setCell ⟨g, 2, none⟩ (.int .i64 (sn : Int))).setCell ⟨g, 3, none⟩ (.int .i64 (lg : Int)) = w6 := ⟨_, rfl⟩
      have hqw : w.heap.size ≤ g := by have := HQ.out; omega
      have E6 : Hid (Ext w w6) := Lib.hid (by rw [← HW]; exact (((E5.setCell hqw _).setCell hqw _).setCell hqw _).setCell hqw _)
      have hz6 : w6.heap.size = w5.heap.size := by rw [← HW]; simp
      have i0 : w6.cell? ⟨g, 0, none⟩ = some (.int .i64 G) := by rw [← HW]; simp [go_sem, d0, d1, d2, d3, fz, hgs]
      have i1 : w6.cell? ⟨g, 1, none⟩ = some (.int .i64 (x0 : Int)) := by rw [← HW]; simp [go_sem, d0, d1, d2, d3, fz, hgs]
      have i2 : w6.cell? ⟨g, 2, none⟩ = some (.int .i64 (sn : Int)) := by rw [← HW]; simp [go_sem, d0, d1, d2, d3, fz, hgs]
      have i3 : w6.cell? ⟨g, 3, none⟩ = some (.int .i64 (lg : Int)) := by rw [← HW]; simp [go_sem, d0, d1, d2, d3, fz, hgs]
      have hgq6 : g ≠ q := by omega
      have hq6 : w6.heap[q]? = some (.cells #[.int .i64 0, .int .i64 0, .int .i64 0, .int .i64 0] 23 (0, 0)) := by
        rw [← HW, setCell_heap hgq6.symm, setCell_heap hgq6.symm, setCell_heap hgq6.symm, setCell_heap hgq6.symm]
        exact hx5.heapAt HQC.out
      have hg6 : g < w6.heap.size := by rw [hz6]; exact hgs
      have z0 : w6.cell? ⟨q, 0, none⟩ = some (.int .i64 0) := cell_of_row w6 q 0 _ _ (0, 0) hq6
      have z1 : w6.cell? ⟨q, 1, none⟩ = some (.int .i64 0) := cell_of_row w6 q 1 _ _ (0, 0) hq6
      have z2 : w6.cell? ⟨q, 2, none⟩ = some (.int .i64 0) := cell_of_row w6 q 2 _ _ (0, 0) hq6
      have z3 : w6.cell? ⟨q, 3, none⟩ = some (.int .i64 0) := cell_of_row w6 q 3 _ _ (0, 0) hq6
      have fq : ∀ j, w6.frozen? ⟨q, j, none⟩ = false := fun j => by simp [World.frozen?, hq6]
      have hq6s : q < w6.heap.size := by omega
      have HQ6 := Lib.hid hq6
      clear hf hblk hx5 E5 hq6 HQC HB2
      by_cases c1 : G < 1
      · obtain rfl := HNO.out (fun h => by have := (HOK.out.1 h).1; omega)
        go_wp2_with (rw [HW])
        refine bodyPost_ret (v := .tuple #[.agg #[.int .i64 0, .int .i64 0, .int .i64 0, .int .i64 0], .bool false]) (by simp [results, Try.results9, go_sem, z0, z1, z2, z3, fq, hq6s]) rfl ⟨rfl, ?_⟩
        have := HQ.out
        (repeat (first | exact E6.out | (refine Ext.setCell ?_ (by simp; omega) _)))
      · by_cases c2 : cap < (sn : Int)
        · obtain rfl := HNO.out (fun h => by have := (HOK.out.1 h).2.1; omega)
          go_wp2_with (rw [HW])
          refine bodyPost_ret (v := .tuple #[.agg #[.int .i64 0, .int .i64 0, .int .i64 0, .int .i64 0], .bool false]) (by simp [results, Try.results9, go_sem, z0, z1, z2, z3, fq, hq6s]) rfl ⟨rfl, ?_⟩
          have := HQ.out
          (repeat (first | exact E6.out | (refine Ext.setCell ?_ (by simp; omega) _)))
        · have hw64 : wrap64 (cap - (sn : Int)) = cap - (sn : Int) := by have := HC.out; unfold I64 at this; unfold wrap64; omega
          by_cases c3 : cap - (sn : Int) < (lg : Int)
          · obtain rfl := HNO.out (fun h => by have := (HOK.out.1 h).2.2.1; omega)
            go_wp2_with (rw [HW])
            refine bodyPost_ret (v := .tuple #[.agg #[.int .i64 0, .int .i64 0, .int .i64 0, .int .i64 0], .bool false]) (by simp [results, Try.results9, go_sem, z0, z1, z2, z3, fq, hq6s]) rfl ⟨rfl, ?_⟩
            have := HQ.out
            (repeat (first | exact E6.out | (refine Ext.setCell ?_ (by simp; omega) _)))
          · go_wp2_with (rw [HW])
            clear d0 d1 d2 d3 fz HW
            refine (encode_any G x0 sn lg N w6 (by omega) (by omega)).mono ?_
            rintro e w7 ⟨v7, l7, rfl, hb7, hE7, hl7⟩
            have EQ7 : Hid (HdrOk l cap ↔ l7 = l) := Lib.hid (by rw [HOK.out, ← hl7]; exact ⟨fun h => h.2.2.2, fun h => ⟨by omega, by omega, by omega, h⟩⟩)
            clear hl7 HOK
            have B7 := Lib.hid hb7
            have E7 := Lib.hid (E6.out.trans hE7)
            have j0 : ∀ wx, Ext w7 wx → wx.cell? ⟨g, 0, none⟩ = some (.int .i64 G) ∧ wx.cell? ⟨g, 1, none⟩ = some (.int .i64 (x0 : Int)) ∧ wx.cell? ⟨g, 2, none⟩ = some (.int .i64 (sn : Int)) ∧ wx.cell? ⟨g, 3, none⟩ = some (.int .i64 (lg : Int)) ∧ wx.heap[q]? = some (.cells #[.int .i64 0, .int .i64 0, .int .i64 0, .int .i64 0] 23 (0, 0)) := fun wx he =>
              ⟨((hE7.trans he).cell hg6).trans i0, ((hE7.trans he).cell hg6).trans i1, ((hE7.trans he).cell hg6).trans i2, ((hE7.trans he).cell hg6).trans i3, (hE7.trans he).heapAt HQ6.out⟩
            have J0 := Lib.hid j0
            clear j0 hb7 i0 i1 i2 i3 z0 z1 z2 z3 fq hq6s hg6 HQ6
            go_wp2_with fail
            refine (bequal_any _ _ l7 l w7 B7.out (BB.out.ext E7.out)).mono ?_
            rintro e w8 ⟨rfl, rfl⟩
            obtain ⟨i0, i1, i2, i3, hq7⟩ := J0.out w8 (Ext.refl _)
            have z0 : w8.cell? ⟨q, 0, none⟩ = some (.int .i64 0) := cell_of_row w8 q 0 _ _ (0, 0) hq7
            have z1 : w8.cell? ⟨q, 1, none⟩ = some (.int .i64 0) := cell_of_row w8 q 1 _ _ (0, 0) hq7
            have z2 : w8.cell? ⟨q, 2, none⟩ = some (.int .i64 0) := cell_of_row w8 q 2 _ _ (0, 0) hq7
            have z3 : w8.cell? ⟨q, 3, none⟩ = some (.int .i64 0) := cell_of_row w8 q 3 _ _ (0, 0) hq7
            have fq : ∀ j, w8.frozen? ⟨q, j, none⟩ = false := fun j => by simp [World.frozen?, hq7]
            have hq6s : q < w8.heap.size := (Array.getElem?_eq_some_iff.1 hq7).1
            clear hq7
            by_cases hEq : l7 = l
            · have hd : decide (l7 = l) = true := decide_eq_true hEq
              rw [hd]
              obtain rfl := HVAL.out (EQ7.out.2 hEq)
              clear hd hEq HVAL HNO EQ7
              go_wp2
              refine bodyPost_ret (v := .tuple #[.agg #[.int .i64 G, .int .i64 (x0 : Int), .int .i64 (sn : Int), .int .i64 (lg : Int)], .bool true]) (by simp [results, Try.results9, go_sem, z0, z1, z2, z3, fq, hq6s]) rfl ⟨rfl, ?_⟩
              have := HQ.out
              (repeat (first | exact E7.out | (refine Ext.setCell ?_ (by simp; omega) _)))
            · have hd : decide (l7 = l) = false := decide_eq_false hEq
              rw [hd]
              obtain rfl := HNO.out (fun h => hEq (EQ7.out.1 h))
              clear hd hEq HVAL HNO EQ7
              go_wp2
              refine bodyPost_ret (v := .tuple #[.agg #[.int .i64 0, .int .i64 0, .int .i64 0, .int .i64 0], .bool false]) (by simp [results, Try.results9, go_sem, z0, z1, z2, z3, fq, hq6s]) rfl ⟨rfl, ?_⟩
              have := HQ.out
              (repeat (first | exact E7.out | (refine Ext.setCell ?_ (by simp; omega) _)))

end Go.Proofs.Ytbpdjekibcbaaaa
