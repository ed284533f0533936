import Derived.Test.YtbpdjekibcbaaaaSTearL
import Derived.Test.YtbpdjekibcbaaaaSDec2
namespace Go.Proofs.Ytbpdjekibcbaaaa
open Go.RowKit
set_option linter.unusedVariables false
set_option linter.unusedSimpArgs false
set_option maxRecDepth 100000


set_option maxHeartbeats 51200000 in
theorem heads_no (a0 a1 a2 a3 sz cp : Int) (Av : Option Addr) (N cv : Nat) (bl : List Nat) (w : World) (hcp : I64 cp) (hB : Bytes w (.slice Av N cv) bl) (hN : N = bl.length) (h6 : ¬ 600 < sz) (h7 : ¬ 600 < N) (hno : ¬ EncB a0 a1 a2 a3 sz) :
    Calls Try.prog 3 #[.agg #[.int .i64 a0, .int .i64 a1, .int .i64 a2, .int .i64 a3, .int .i64 sz, .int .i64 cp, .slice Av N cv]] w fun e w' => e = .returned (.bool true) ∧ Ext w w' := by
  have AW := Lib.hid (fun wx => awake_any wx)
  have BZ := Lib.hid hB
  have HNL : Hid (bl.length ≤ 600) := Lib.hid (by omega)
  have h7' : ¬ (600 : Int) < (N : Int) := by omega
  have HNO := Lib.hid hno
  have EN := Lib.hid (fun wx => encode_no a0 a1 a2 a3 sz wx hno)
  clear hB hN hno
  go_enter Try.func3, Try.ntmps3
  go_wp2_with fail
  obtain ⟨q, hq⟩ : ∃ q, w.heap.size = q := ⟨_, rfl⟩
  obtain ⟨wb, hwb⟩ : ∃ wb, (w.alloc (.cells #[.int .i64 a0, .int .i64 a1, .int .i64 a2, .int .i64 a3, .int .i64 sz, .int .i64 cp, .slice Av N cv] 26)).alloc (.cells #[.int .i64 a0, .int .i64 a1, .int .i64 a2, .int .i64 a3] 23) = wb := ⟨_, rfl⟩
  have EB : Hid (Ext w wb) := Lib.hid (by rw [← hwb]; exact ((Ext.refl w).alloc _).alloc _)
  have QB : Hid (wb.heap[q]? = some (.cells #[.int .i64 a0, .int .i64 a1, .int .i64 a2, .int .i64 a3, .int .i64 sz, .int .i64 cp, .slice Av N cv] 26 (0, 0))) := Lib.hid (by
    rw [← hwb, ← hq]; simp only [World.alloc]; rw [Array.getElem?_push_lt (by simp), Array.getElem_push_eq])
  have RB : Hid (wb.heap[q + 1]? = some (.cells #[.int .i64 a0, .int .i64 a1, .int .i64 a2, .int .i64 a3] 23 (0, 0))) := Lib.hid (by
    rw [← hwb, ← hq]
    have : w.heap.size + 1 = (w.alloc (.cells #[.int .i64 a0, .int .i64 a1, .int .i64 a2, .int .i64 a3, .int .i64 sz, .int .i64 cp, .slice Av N cv] 26)).heap.size := by simp
    rw [this]
    exact heap_alloc_new _ _)
  rw [hwb, hq]
  clear hwb hq
  refine (EN.out wb).mono ?_
  rintro e wk ⟨rfl, hE⟩
  have EK := Lib.hid (EB.out.trans hE)
  have QK := Lib.hid (hE.heapAt QB.out)
  have RK := Lib.hid (hE.heapAt RB.out)
  have LB : Hid (Bytes wk (.slice none 0 0) [] ∧ ([] : List Nat).length ≤ 600) := Lib.hid ⟨(Own.nil 0 wk).bytes, by simp⟩
  clear hE EB QB RB EN
  have q0 : wk.cell? ⟨q, 0, none⟩ = some (.int .i64 a0) := cell_of_row wk q 0 _ _ (0, 0) QK.out
  have q4 : wk.cell? ⟨q, 4, none⟩ = some (.int .i64 sz) := cell_of_row wk q 4 _ _ (0, 0) QK.out
  have q5 : wk.cell? ⟨q, 5, none⟩ = some (.int .i64 cp) := cell_of_row wk q 5 _ _ (0, 0) QK.out
  have q6 : wk.cell? ⟨q, 6, none⟩ = some (.slice Av N cv) := cell_of_row wk q 6 _ _ (0, 0) QK.out
  have r0 : wk.cell? ⟨q + 1, 0, none⟩ = some (.int .i64 a0) := cell_of_row wk (q + 1) 0 _ _ (0, 0) RK.out
  have r1 : wk.cell? ⟨q + 1, 1, none⟩ = some (.int .i64 a1) := cell_of_row wk (q + 1) 1 _ _ (0, 0) RK.out
  have r2 : wk.cell? ⟨q + 1, 2, none⟩ = some (.int .i64 a2) := cell_of_row wk (q + 1) 2 _ _ (0, 0) RK.out
  have r3 : wk.cell? ⟨q + 1, 3, none⟩ = some (.int .i64 a3) := cell_of_row wk (q + 1) 3 _ _ (0, 0) RK.out
  have qs : q < wk.heap.size := (Array.getElem?_eq_some_iff.1 QK.out).1
  have rs : q + 1 < wk.heap.size := (Array.getElem?_eq_some_iff.1 RK.out).1
  by_cases c0 : sz < 32
  · go_wp2_with fail
    clear q0 q4 q5 q6 r0 r1 r2 r3 qs rs RK
    obtain ⟨g, hg⟩ : ∃ g, wk.heap.size = g := ⟨_, rfl⟩
    obtain ⟨wg, hwg⟩ : ∃ wg, wk.alloc (.cells #[.slice none 0 0, .slice Av N cv] 24) = wg := ⟨_, rfl⟩
    have EG : Ext wk wg := by rw [← hwg]; exact (Ext.refl _).alloc _
    have EL : Hid (∀ i, i < 2 → ∃ x l, wg.cell? ⟨g, i, none⟩ = some x ∧ Bytes wg x l ∧ l.length ≤ 600) := Lib.hid (by
      intro i hi
      have hrow : wg.heap[g]? = some (.cells #[.slice none 0 0, .slice Av N cv] 24 (0, 0)) := by rw [← hwg, ← hg]; exact heap_alloc_new _ _
      match i, hi with
      | 0, _ => exact ⟨.slice none 0 0, ([] : List Nat), cell_of_row _ g 0 _ _ (0, 0) hrow, LB.out.1.ext EG, LB.out.2⟩
      | 1, _ => exact ⟨.slice Av N cv, bl, cell_of_row _ g 1 _ _ (0, 0) hrow, BZ.out.ext (EK.out.trans EG), HNL.out⟩)
    have EWG := Lib.hid (EK.out.trans EG)
    have hgl : g < wg.heap.size := by rw [← hwg, ← hg]; simp
    have QG : Hid (wg.heap[q]? = some (.cells #[.int .i64 a0, .int .i64 a1, .int .i64 a2, .int .i64 a3, .int .i64 sz, .int .i64 cp, .slice Av N cv] 26 (0, 0))) := Lib.hid (EG.heapAt QK.out)
    rw [hwg, hg]
    clear hwg hg EG EK LB QK
    go_loopw [88] (fun t88 wr => ∃ i : Nat, i ≤ 2 ∧ t88 = .int .i64 (i : Int) ∧ Hid (Ext wg wr)) (fun t88 _ => 2 - (intOf t88).toNat)
    case atStart => exact ⟨0, by omega, rfl, Lib.hid (Ext.refl _)⟩
    case round =>
      obtain ⟨i, hi, rfl, ER⟩ := hrel
      by_cases hlt : i < 2
      · have hlt' : (i : Int) < 2 := by omega
        obtain ⟨x, l, hx, hB, hl6⟩ := EL.out i hlt
        have hx' := (ER.out.cell hgl).trans hx
        have k5 := cell_of_row _ q 5 _ _ (0, 0) (ER.out.heapAt QG.out)
        simp only [List.getElem?_toArray, List.getElem?_cons_zero, List.getElem?_cons_succ] at k5
        have hgr : g < wr.heap.size := Nat.lt_of_lt_of_le hgl ER.out.size
        have DC := Lib.hid (decode_any x l cp wr (hB.ext ER.out) hl6 hcp)
        have RD := Lib.hid (fun wx (he : Ext wr wx) => refDecode_any x l cp wx (hB.ext (ER.out.trans he)) hl6 hcp)
        clear hB hx hl6
        go_wp2_with fail
        refine DC.out.mono ?_
        rintro e w1 ⟨rfl, hE⟩
        have E1 := Lib.hid hE
        have k6 := cell_of_row _ q 5 _ _ (0, 0) ((ER.out.trans hE).heapAt QG.out)
        simp only [List.getElem?_toArray, List.getElem?_cons_zero, List.getElem?_cons_succ] at k6
        have hq1 : q < w1.heap.size := (Array.getElem?_eq_some_iff.1 ((ER.out.trans hE).heapAt QG.out)).1
        clear hE DC k5 hx' hgr
        obtain ⟨x0, x1, x2, x3, ok, hdo⟩ : ∃ x0 x1 x2 x3 ok, decOut l cp = .tuple #[.agg #[.int .i64 x0, .int .i64 x1, .int .i64 x2, .int .i64 x3], .bool ok] ∧ (ok = false → x0 = 0 ∧ x1 = 0 ∧ x2 = 0 ∧ x3 = 0) := by
          unfold decOut hdrOut
          split
          · exact ⟨_, _, _, _, _, rfl, fun h => by cases h⟩
          · exact ⟨_, _, _, _, _, rfl, fun _ => ⟨rfl, rfl, rfl, rfl⟩⟩
        rw [hdo.1] at RD ⊢
        have hz0 := hdo.2
        clear hdo
        cases ok with
        | true =>
          clear hz0
          go_wp2_with fail
          obtain ⟨g7, hg7⟩ : ∃ g7, w1.heap.size = g7 := ⟨_, rfl⟩
          obtain ⟨w2, hw2⟩ : ∃ w2, w1.alloc (.cells #[.int .i64 x0, .int .i64 x1, .int .i64 x2, .int .i64 x3] 23) = w2 := ⟨_, rfl⟩
          have E2 : Hid (Ext wr w2) := Lib.hid (by rw [← hw2]; exact E1.out.alloc _)
          have h7 : w2.heap[g7]? = some (.cells #[.int .i64 x0, .int .i64 x1, .int .i64 x2, .int .i64 x3] 23 (0, 0)) := by rw [← hw2, ← hg7]; exact heap_alloc_new _ _
          rw [hw2, hg7]
          clear hw2 hg7 E1
          refine (RD.out w2 E2.out).mono ?_
          rintro e w3 ⟨rfl, hE⟩
          have E3 := Lib.hid (E2.out.trans hE)
          have h8 := hE.heapAt h7
          have n0 : w3.cell? ⟨g7, 0, none⟩ = some (.int .i64 x0) := cell_of_row w3 g7 0 _ _ (0, 0) h8
          have n1 : w3.cell? ⟨g7, 1, none⟩ = some (.int .i64 x1) := cell_of_row w3 g7 1 _ _ (0, 0) h8
          have n2 : w3.cell? ⟨g7, 2, none⟩ = some (.int .i64 x2) := cell_of_row w3 g7 2 _ _ (0, 0) h8
          have n3 : w3.cell? ⟨g7, 3, none⟩ = some (.int .i64 x3) := cell_of_row w3 g7 3 _ _ (0, 0) h8
          have h7s : g7 < w3.heap.size := (Array.getElem?_eq_some_iff.1 h8).1
          clear hE h7 h8 RD E2 k6 hq1
          go_wp2
          go_roundw
          case rel => exact ⟨i + 1, by omega, by go_num, Lib.hid ((ER.out.trans E3.out).alloc _)⟩
          case measure => simp [intOf]; omega
        | false =>
          obtain ⟨rfl, rfl, rfl, rfl⟩ := hz0 rfl
          go_wp2_with fail
          obtain ⟨g7, hg7⟩ : ∃ g7, w1.heap.size = g7 := ⟨_, rfl⟩
          obtain ⟨w2, hw2⟩ : ∃ w2, w1.alloc (.cells #[.int .i64 0, .int .i64 0, .int .i64 0, .int .i64 0] 23) = w2 := ⟨_, rfl⟩
          have E2 : Hid (Ext wr w2) := Lib.hid (by rw [← hw2]; exact E1.out.alloc _)
          have h7 : w2.heap[g7]? = some (.cells #[.int .i64 0, .int .i64 0, .int .i64 0, .int .i64 0] 23 (0, 0)) := by rw [← hw2, ← hg7]; exact heap_alloc_new _ _
          rw [hw2, hg7]
          clear hw2 hg7 E1
          refine (RD.out w2 E2.out).mono ?_
          rintro e w3 ⟨rfl, hE⟩
          have E3 := Lib.hid (E2.out.trans hE)
          have h8 := hE.heapAt h7
          have n0 : w3.cell? ⟨g7, 0, none⟩ = some (.int .i64 0) := cell_of_row w3 g7 0 _ _ (0, 0) h8
          have n1 : w3.cell? ⟨g7, 1, none⟩ = some (.int .i64 0) := cell_of_row w3 g7 1 _ _ (0, 0) h8
          have n2 : w3.cell? ⟨g7, 2, none⟩ = some (.int .i64 0) := cell_of_row w3 g7 2 _ _ (0, 0) h8
          have n3 : w3.cell? ⟨g7, 3, none⟩ = some (.int .i64 0) := cell_of_row w3 g7 3 _ _ (0, 0) h8
          have h7s : g7 < w3.heap.size := (Array.getElem?_eq_some_iff.1 h8).1
          clear hE h7 h8 RD E2 k6 hq1
          go_wp2
          go_roundw
          case rel => exact ⟨i + 1, by omega, by go_num, Lib.hid ((ER.out.trans E3.out).alloc _)⟩
          case measure => simp [intOf]; omega
      · have hlt' : ¬ (i : Int) < 2 := by omega
        have EZ := Lib.hid (EWG.out.trans ER.out)
        go_wp2_with fail
        refine (AW.out _).mono ?_
        rintro e w9 ⟨rfl, hE⟩
        have E9 := Lib.hid (EZ.out.trans hE)
        clear hE
        go_wp2
        go_ret
        exact ⟨rfl, E9.out⟩
  · skip
    by_cases c1 : a0 < 0
    · go_wp2_with fail
      clear q0 q4 q5 q6 r0 r1 r2 r3 qs rs RK
      obtain ⟨g, hg⟩ : ∃ g, wk.heap.size = g := ⟨_, rfl⟩
      obtain ⟨wg, hwg⟩ : ∃ wg, wk.alloc (.cells #[.slice none 0 0, .slice Av N cv] 24) = wg := ⟨_, rfl⟩
      have EG : Ext wk wg := by rw [← hwg]; exact (Ext.refl _).alloc _
      have EL : Hid (∀ i, i < 2 → ∃ x l, wg.cell? ⟨g, i, none⟩ = some x ∧ Bytes wg x l ∧ l.length ≤ 600) := Lib.hid (by
        intro i hi
        have hrow : wg.heap[g]? = some (.cells #[.slice none 0 0, .slice Av N cv] 24 (0, 0)) := by rw [← hwg, ← hg]; exact heap_alloc_new _ _
        match i, hi with
        | 0, _ => exact ⟨.slice none 0 0, ([] : List Nat), cell_of_row _ g 0 _ _ (0, 0) hrow, LB.out.1.ext EG, LB.out.2⟩
        | 1, _ => exact ⟨.slice Av N cv, bl, cell_of_row _ g 1 _ _ (0, 0) hrow, BZ.out.ext (EK.out.trans EG), HNL.out⟩)
      have EWG := Lib.hid (EK.out.trans EG)
      have hgl : g < wg.heap.size := by rw [← hwg, ← hg]; simp
      have QG : Hid (wg.heap[q]? = some (.cells #[.int .i64 a0, .int .i64 a1, .int .i64 a2, .int .i64 a3, .int .i64 sz, .int .i64 cp, .slice Av N cv] 26 (0, 0))) := Lib.hid (EG.heapAt QK.out)
      rw [hwg, hg]
      clear hwg hg EG EK LB QK
      go_loopw [88] (fun t88 wr => ∃ i : Nat, i ≤ 2 ∧ t88 = .int .i64 (i : Int) ∧ Hid (Ext wg wr)) (fun t88 _ => 2 - (intOf t88).toNat)
      case atStart => exact ⟨0, by omega, rfl, Lib.hid (Ext.refl _)⟩
      case round =>
        obtain ⟨i, hi, rfl, ER⟩ := hrel
        by_cases hlt : i < 2
        · have hlt' : (i : Int) < 2 := by omega
          obtain ⟨x, l, hx, hB, hl6⟩ := EL.out i hlt
          have hx' := (ER.out.cell hgl).trans hx
          have k5 := cell_of_row _ q 5 _ _ (0, 0) (ER.out.heapAt QG.out)
          simp only [List.getElem?_toArray, List.getElem?_cons_zero, List.getElem?_cons_succ] at k5
          have hgr : g < wr.heap.size := Nat.lt_of_lt_of_le hgl ER.out.size
          have DC := Lib.hid (decode_any x l cp wr (hB.ext ER.out) hl6 hcp)
          have RD := Lib.hid (fun wx (he : Ext wr wx) => refDecode_any x l cp wx (hB.ext (ER.out.trans he)) hl6 hcp)
          clear hB hx hl6
          go_wp2_with fail
          refine DC.out.mono ?_
          rintro e w1 ⟨rfl, hE⟩
          have E1 := Lib.hid hE
          have k6 := cell_of_row _ q 5 _ _ (0, 0) ((ER.out.trans hE).heapAt QG.out)
          simp only [List.getElem?_toArray, List.getElem?_cons_zero, List.getElem?_cons_succ] at k6
          have hq1 : q < w1.heap.size := (Array.getElem?_eq_some_iff.1 ((ER.out.trans hE).heapAt QG.out)).1
          clear hE DC k5 hx' hgr
          obtain ⟨x0, x1, x2, x3, ok, hdo⟩ : ∃ x0 x1 x2 x3 ok, decOut l cp = .tuple #[.agg #[.int .i64 x0, .int .i64 x1, .int .i64 x2, .int .i64 x3], .bool ok] ∧ (ok = false → x0 = 0 ∧ x1 = 0 ∧ x2 = 0 ∧ x3 = 0) := by
            unfold decOut hdrOut
            split
            · exact ⟨_, _, _, _, _, rfl, fun h => by cases h⟩
            · exact ⟨_, _, _, _, _, rfl, fun _ => ⟨rfl, rfl, rfl, rfl⟩⟩
          rw [hdo.1] at RD ⊢
          have hz0 := hdo.2
          clear hdo
          cases ok with
          | true =>
            clear hz0
            go_wp2_with fail
            obtain ⟨g7, hg7⟩ : ∃ g7, w1.heap.size = g7 := ⟨_, rfl⟩
            obtain ⟨w2, hw2⟩ : ∃ w2, w1.alloc (.cells #[.int .i64 x0, .int .i64 x1, .int .i64 x2, .int .i64 x3] 23) = w2 := ⟨_, rfl⟩
            have E2 : Hid (Ext wr w2) := Lib.hid (by rw [← hw2]; exact E1.out.alloc _)
            have h7 : w2.heap[g7]? = some (.cells #[.int .i64 x0, .int .i64 x1, .int .i64 x2, .int .i64 x3] 23 (0, 0)) := by rw [← hw2, ← hg7]; exact heap_alloc_new _ _
            rw [hw2, hg7]
            clear hw2 hg7 E1
            refine (RD.out w2 E2.out).mono ?_
            rintro e w3 ⟨rfl, hE⟩
            have E3 := Lib.hid (E2.out.trans hE)
            have h8 := hE.heapAt h7
            have n0 : w3.cell? ⟨g7, 0, none⟩ = some (.int .i64 x0) := cell_of_row w3 g7 0 _ _ (0, 0) h8
            have n1 : w3.cell? ⟨g7, 1, none⟩ = some (.int .i64 x1) := cell_of_row w3 g7 1 _ _ (0, 0) h8
            have n2 : w3.cell? ⟨g7, 2, none⟩ = some (.int .i64 x2) := cell_of_row w3 g7 2 _ _ (0, 0) h8
            have n3 : w3.cell? ⟨g7, 3, none⟩ = some (.int .i64 x3) := cell_of_row w3 g7 3 _ _ (0, 0) h8
            have h7s : g7 < w3.heap.size := (Array.getElem?_eq_some_iff.1 h8).1
            clear hE h7 h8 RD E2 k6 hq1
            go_wp2
            go_roundw
            case rel => exact ⟨i + 1, by omega, by go_num, Lib.hid ((ER.out.trans E3.out).alloc _)⟩
            case measure => simp [intOf]; omega
          | false =>
            obtain ⟨rfl, rfl, rfl, rfl⟩ := hz0 rfl
            go_wp2_with fail
            obtain ⟨g7, hg7⟩ : ∃ g7, w1.heap.size = g7 := ⟨_, rfl⟩
            obtain ⟨w2, hw2⟩ : ∃ w2, w1.alloc (.cells #[.int .i64 0, .int .i64 0, .int .i64 0, .int .i64 0] 23) = w2 := ⟨_, rfl⟩
            have E2 : Hid (Ext wr w2) := Lib.hid (by rw [← hw2]; exact E1.out.alloc _)
            have h7 : w2.heap[g7]? = some (.cells #[.int .i64 0, .int .i64 0, .int .i64 0, .int .i64 0] 23 (0, 0)) := by rw [← hw2, ← hg7]; exact heap_alloc_new _ _
            rw [hw2, hg7]
            clear hw2 hg7 E1
            refine (RD.out w2 E2.out).mono ?_
            rintro e w3 ⟨rfl, hE⟩
            have E3 := Lib.hid (E2.out.trans hE)
            have h8 := hE.heapAt h7
            have n0 : w3.cell? ⟨g7, 0, none⟩ = some (.int .i64 0) := cell_of_row w3 g7 0 _ _ (0, 0) h8
            have n1 : w3.cell? ⟨g7, 1, none⟩ = some (.int .i64 0) := cell_of_row w3 g7 1 _ _ (0, 0) h8
            have n2 : w3.cell? ⟨g7, 2, none⟩ = some (.int .i64 0) := cell_of_row w3 g7 2 _ _ (0, 0) h8
            have n3 : w3.cell? ⟨g7, 3, none⟩ = some (.int .i64 0) := cell_of_row w3 g7 3 _ _ (0, 0) h8
            have h7s : g7 < w3.heap.size := (Array.getElem?_eq_some_iff.1 h8).1
            clear hE h7 h8 RD E2 k6 hq1
            go_wp2
            go_roundw
            case rel => exact ⟨i + 1, by omega, by go_num, Lib.hid ((ER.out.trans E3.out).alloc _)⟩
            case measure => simp [intOf]; omega
        · have hlt' : ¬ (i : Int) < 2 := by omega
          have EZ := Lib.hid (EWG.out.trans ER.out)
          go_wp2_with fail
          refine (AW.out _).mono ?_
          rintro e w9 ⟨rfl, hE⟩
          have E9 := Lib.hid (EZ.out.trans hE)
          clear hE
          go_wp2
          go_ret
          exact ⟨rfl, E9.out⟩
    · skip
      by_cases c2 : a1 < 0
      · go_wp2_with fail
        clear q0 q4 q5 q6 r0 r1 r2 r3 qs rs RK
        obtain ⟨g, hg⟩ : ∃ g, wk.heap.size = g := ⟨_, rfl⟩
        obtain ⟨wg, hwg⟩ : ∃ wg, wk.alloc (.cells #[.slice none 0 0, .slice Av N cv] 24) = wg := ⟨_, rfl⟩
        have EG : Ext wk wg := by rw [← hwg]; exact (Ext.refl _).alloc _
        have EL : Hid (∀ i, i < 2 → ∃ x l, wg.cell? ⟨g, i, none⟩ = some x ∧ Bytes wg x l ∧ l.length ≤ 600) := Lib.hid (by
          intro i hi
          have hrow : wg.heap[g]? = some (.cells #[.slice none 0 0, .slice Av N cv] 24 (0, 0)) := by rw [← hwg, ← hg]; exact heap_alloc_new _ _
          match i, hi with
          | 0, _ => exact ⟨.slice none 0 0, ([] : List Nat), cell_of_row _ g 0 _ _ (0, 0) hrow, LB.out.1.ext EG, LB.out.2⟩
          | 1, _ => exact ⟨.slice Av N cv, bl, cell_of_row _ g 1 _ _ (0, 0) hrow, BZ.out.ext (EK.out.trans EG), HNL.out⟩)
        have EWG := Lib.hid (EK.out.trans EG)
        have hgl : g < wg.heap.size := by rw [← hwg, ← hg]; simp
        have QG : Hid (wg.heap[q]? = some (.cells #[.int .i64 a0, .int .i64 a1, .int .i64 a2, .int .i64 a3, .int .i64 sz, .int .i64 cp, .slice Av N cv] 26 (0, 0))) := Lib.hid (EG.heapAt QK.out)
        rw [hwg, hg]
        clear hwg hg EG EK LB QK
        go_loopw [88] (fun t88 wr => ∃ i : Nat, i ≤ 2 ∧ t88 = .int .i64 (i : Int) ∧ Hid (Ext wg wr)) (fun t88 _ => 2 - (intOf t88).toNat)
        case atStart => exact ⟨0, by omega, rfl, Lib.hid (Ext.refl _)⟩
        case round =>
          obtain ⟨i, hi, rfl, ER⟩ := hrel
          by_cases hlt : i < 2
          · have hlt' : (i : Int) < 2 := by omega
            obtain ⟨x, l, hx, hB, hl6⟩ := EL.out i hlt
            have hx' := (ER.out.cell hgl).trans hx
            have k5 := cell_of_row _ q 5 _ _ (0, 0) (ER.out.heapAt QG.out)
            simp only [List.getElem?_toArray, List.getElem?_cons_zero, List.getElem?_cons_succ] at k5
            have hgr : g < wr.heap.size := Nat.lt_of_lt_of_le hgl ER.out.size
            have DC := Lib.hid (decode_any x l cp wr (hB.ext ER.out) hl6 hcp)
            have RD := Lib.hid (fun wx (he : Ext wr wx) => refDecode_any x l cp wx (hB.ext (ER.out.trans he)) hl6 hcp)
            clear hB hx hl6
            go_wp2_with fail
            refine DC.out.mono ?_
            rintro e w1 ⟨rfl, hE⟩
            have E1 := Lib.hid hE
            have k6 := cell_of_row _ q 5 _ _ (0, 0) ((ER.out.trans hE).heapAt QG.out)
            simp only [List.getElem?_toArray, List.getElem?_cons_zero, List.getElem?_cons_succ] at k6
            have hq1 : q < w1.heap.size := (Array.getElem?_eq_some_iff.1 ((ER.out.trans hE).heapAt QG.out)).1
            clear hE DC k5 hx' hgr
            obtain ⟨x0, x1, x2, x3, ok, hdo⟩ : ∃ x0 x1 x2 x3 ok, decOut l cp = .tuple #[.agg #[.int .i64 x0, .int .i64 x1, .int .i64 x2, .int .i64 x3], .bool ok] ∧ (ok = false → x0 = 0 ∧ x1 = 0 ∧ x2 = 0 ∧ x3 = 0) := by
              unfold decOut hdrOut
              split
              · exact ⟨_, _, _, _, _, rfl, fun h => by cases h⟩
              · exact ⟨_, _, _, _, _, rfl, fun _ => ⟨rfl, rfl, rfl, rfl⟩⟩
            rw [hdo.1] at RD ⊢
            have hz0 := hdo.2
            clear hdo
            cases ok with
            | true =>
              clear hz0
              go_wp2_with fail
              obtain ⟨g7, hg7⟩ : ∃ g7, w1.heap.size = g7 := ⟨_, rfl⟩
              obtain ⟨w2, hw2⟩ : ∃ w2, w1.alloc (.cells #[.int .i64 x0, .int .i64 x1, .int .i64 x2, .int .i64 x3] 23) = w2 := ⟨_, rfl⟩
              have E2 : Hid (Ext wr w2) := Lib.hid (by rw [← hw2]; exact E1.out.alloc _)
              have h7 : w2.heap[g7]? = some (.cells #[.int .i64 x0, .int .i64 x1, .int .i64 x2, .int .i64 x3] 23 (0, 0)) := by rw [← hw2, ← hg7]; exact heap_alloc_new _ _
              rw [hw2, hg7]
              clear hw2 hg7 E1
              refine (RD.out w2 E2.out).mono ?_
              rintro e w3 ⟨rfl, hE⟩
              have E3 := Lib.hid (E2.out.trans hE)
              have h8 := hE.heapAt h7
              have n0 : w3.cell? ⟨g7, 0, none⟩ = some (.int .i64 x0) := cell_of_row w3 g7 0 _ _ (0, 0) h8
              have n1 : w3.cell? ⟨g7, 1, none⟩ = some (.int .i64 x1) := cell_of_row w3 g7 1 _ _ (0, 0) h8
              have n2 : w3.cell? ⟨g7, 2, none⟩ = some (.int .i64 x2) := cell_of_row w3 g7 2 _ _ (0, 0) h8
              have n3 : w3.cell? ⟨g7, 3, none⟩ = some (.int .i64 x3) := cell_of_row w3 g7 3 _ _ (0, 0) h8
              have h7s : g7 < w3.heap.size := (Array.getElem?_eq_some_iff.1 h8).1
              clear hE h7 h8 RD E2 k6 hq1
              go_wp2
              go_roundw
              case rel => exact ⟨i + 1, by omega, by go_num, Lib.hid ((ER.out.trans E3.out).alloc _)⟩
              case measure => simp [intOf]; omega
            | false =>
              obtain ⟨rfl, rfl, rfl, rfl⟩ := hz0 rfl
              go_wp2_with fail
              obtain ⟨g7, hg7⟩ : ∃ g7, w1.heap.size = g7 := ⟨_, rfl⟩
              obtain ⟨w2, hw2⟩ : ∃ w2, w1.alloc (.cells #[.int .i64 0, .int .i64 0, .int .i64 0, .int .i64 0] 23) = w2 := ⟨_, rfl⟩
              have E2 : Hid (Ext wr w2) := Lib.hid (by rw [← hw2]; exact E1.out.alloc _)
              have h7 : w2.heap[g7]? = some (.cells #[.int .i64 0, .int .i64 0, .int .i64 0, .int .i64 0] 23 (0, 0)) := by rw [← hw2, ← hg7]; exact heap_alloc_new _ _
              rw [hw2, hg7]
              clear hw2 hg7 E1
              refine (RD.out w2 E2.out).mono ?_
              rintro e w3 ⟨rfl, hE⟩
              have E3 := Lib.hid (E2.out.trans hE)
              have h8 := hE.heapAt h7
              have n0 : w3.cell? ⟨g7, 0, none⟩ = some (.int .i64 0) := cell_of_row w3 g7 0 _ _ (0, 0) h8
              have n1 : w3.cell? ⟨g7, 1, none⟩ = some (.int .i64 0) := cell_of_row w3 g7 1 _ _ (0, 0) h8
              have n2 : w3.cell? ⟨g7, 2, none⟩ = some (.int .i64 0) := cell_of_row w3 g7 2 _ _ (0, 0) h8
              have n3 : w3.cell? ⟨g7, 3, none⟩ = some (.int .i64 0) := cell_of_row w3 g7 3 _ _ (0, 0) h8
              have h7s : g7 < w3.heap.size := (Array.getElem?_eq_some_iff.1 h8).1
              clear hE h7 h8 RD E2 k6 hq1
              go_wp2
              go_roundw
              case rel => exact ⟨i + 1, by omega, by go_num, Lib.hid ((ER.out.trans E3.out).alloc _)⟩
              case measure => simp [intOf]; omega
          · have hlt' : ¬ (i : Int) < 2 := by omega
            have EZ := Lib.hid (EWG.out.trans ER.out)
            go_wp2_with fail
            refine (AW.out _).mono ?_
            rintro e w9 ⟨rfl, hE⟩
            have E9 := Lib.hid (EZ.out.trans hE)
            clear hE
            go_wp2
            go_ret
            exact ⟨rfl, E9.out⟩
      · skip
        by_cases c3 : 1 < a1
        · go_wp2_with fail
          clear q0 q4 q5 q6 r0 r1 r2 r3 qs rs RK
          obtain ⟨g, hg⟩ : ∃ g, wk.heap.size = g := ⟨_, rfl⟩
          obtain ⟨wg, hwg⟩ : ∃ wg, wk.alloc (.cells #[.slice none 0 0, .slice Av N cv] 24) = wg := ⟨_, rfl⟩
          have EG : Ext wk wg := by rw [← hwg]; exact (Ext.refl _).alloc _
          have EL : Hid (∀ i, i < 2 → ∃ x l, wg.cell? ⟨g, i, none⟩ = some x ∧ Bytes wg x l ∧ l.length ≤ 600) := Lib.hid (by
            intro i hi
            have hrow : wg.heap[g]? = some (.cells #[.slice none 0 0, .slice Av N cv] 24 (0, 0)) := by rw [← hwg, ← hg]; exact heap_alloc_new _ _
            match i, hi with
            | 0, _ => exact ⟨.slice none 0 0, ([] : List Nat), cell_of_row _ g 0 _ _ (0, 0) hrow, LB.out.1.ext EG, LB.out.2⟩
            | 1, _ => exact ⟨.slice Av N cv, bl, cell_of_row _ g 1 _ _ (0, 0) hrow, BZ.out.ext (EK.out.trans EG), HNL.out⟩)
          have EWG := Lib.hid (EK.out.trans EG)
          have hgl : g < wg.heap.size := by rw [← hwg, ← hg]; simp
          have QG : Hid (wg.heap[q]? = some (.cells #[.int .i64 a0, .int .i64 a1, .int .i64 a2, .int .i64 a3, .int .i64 sz, .int .i64 cp, .slice Av N cv] 26 (0, 0))) := Lib.hid (EG.heapAt QK.out)
          rw [hwg, hg]
          clear hwg hg EG EK LB QK
          go_loopw [88] (fun t88 wr => ∃ i : Nat, i ≤ 2 ∧ t88 = .int .i64 (i : Int) ∧ Hid (Ext wg wr)) (fun t88 _ => 2 - (intOf t88).toNat)
          case atStart => exact ⟨0, by omega, rfl, Lib.hid (Ext.refl _)⟩
          case round =>
            obtain ⟨i, hi, rfl, ER⟩ := hrel
            by_cases hlt : i < 2
            · have hlt' : (i : Int) < 2 := by omega
              obtain ⟨x, l, hx, hB, hl6⟩ := EL.out i hlt
              have hx' := (ER.out.cell hgl).trans hx
              have k5 := cell_of_row _ q 5 _ _ (0, 0) (ER.out.heapAt QG.out)
              simp only [List.getElem?_toArray, List.getElem?_cons_zero, List.getElem?_cons_succ] at k5
              have hgr : g < wr.heap.size := Nat.lt_of_lt_of_le hgl ER.out.size
              have DC := Lib.hid (decode_any x l cp wr (hB.ext ER.out) hl6 hcp)
              have RD := Lib.hid (fun wx (he : Ext wr wx) => refDecode_any x l cp wx (hB.ext (ER.out.trans he)) hl6 hcp)
              clear hB hx hl6
              go_wp2_with fail
              refine DC.out.mono ?_
              rintro e w1 ⟨rfl, hE⟩
              have E1 := Lib.hid hE
              have k6 := cell_of_row _ q 5 _ _ (0, 0) ((ER.out.trans hE).heapAt QG.out)
              simp only [List.getElem?_toArray, List.getElem?_cons_zero, List.getElem?_cons_succ] at k6
              have hq1 : q < w1.heap.size := (Array.getElem?_eq_some_iff.1 ((ER.out.trans hE).heapAt QG.out)).1
              clear hE DC k5 hx' hgr
              obtain ⟨x0, x1, x2, x3, ok, hdo⟩ : ∃ x0 x1 x2 x3 ok, decOut l cp = .tuple #[.agg #[.int .i64 x0, .int .i64 x1, .int .i64 x2, .int .i64 x3], .bool ok] ∧ (ok = false → x0 = 0 ∧ x1 = 0 ∧ x2 = 0 ∧ x3 = 0) := by
                unfold decOut hdrOut
                split
                · exact ⟨_, _, _, _, _, rfl, fun h => by cases h⟩
                · exact ⟨_, _, _, _, _, rfl, fun _ => ⟨rfl, rfl, rfl, rfl⟩⟩
              rw [hdo.1] at RD ⊢
              have hz0 := hdo.2
              clear hdo
              cases ok with
              | true =>
                clear hz0
                go_wp2_with fail
                obtain ⟨g7, hg7⟩ : ∃ g7, w1.heap.size = g7 := ⟨_, rfl⟩
                obtain ⟨w2, hw2⟩ : ∃ w2, w1.alloc (.cells #[.int .i64 x0, .int .i64 x1, .int .i64 x2, .int .i64 x3] 23) = w2 := ⟨_, rfl⟩
                have E2 : Hid (Ext wr w2) := Lib.hid (by rw [← hw2]; exact E1.out.alloc _)
                have h7 : w2.heap[g7]? = some (.cells #[.int .i64 x0, .int .i64 x1, .int .i64 x2, .int .i64 x3] 23 (0, 0)) := by rw [← hw2, ← hg7]; exact heap_alloc_new _ _
                rw [hw2, hg7]
                clear hw2 hg7 E1
                refine (RD.out w2 E2.out).mono ?_
                rintro e w3 ⟨rfl, hE⟩
                have E3 := Lib.hid (E2.out.trans hE)
                have h8 := hE.heapAt h7
                have n0 : w3.cell? ⟨g7, 0, none⟩ = some (.int .i64 x0) := cell_of_row w3 g7 0 _ _ (0, 0) h8
                have n1 : w3.cell? ⟨g7, 1, none⟩ = some (.int .i64 x1) := cell_of_row w3 g7 1 _ _ (0, 0) h8
                have n2 : w3.cell? ⟨g7, 2, none⟩ = some (.int .i64 x2) := cell_of_row w3 g7 2 _ _ (0, 0) h8
                have n3 : w3.cell? ⟨g7, 3, none⟩ = some (.int .i64 x3) := cell_of_row w3 g7 3 _ _ (0, 0) h8
                have h7s : g7 < w3.heap.size := (Array.getElem?_eq_some_iff.1 h8).1
                clear hE h7 h8 RD E2 k6 hq1
                go_wp2
                go_roundw
                case rel => exact ⟨i + 1, by omega, by go_num, Lib.hid ((ER.out.trans E3.out).alloc _)⟩
                case measure => simp [intOf]; omega
              | false =>
                obtain ⟨rfl, rfl, rfl, rfl⟩ := hz0 rfl
                go_wp2_with fail
                obtain ⟨g7, hg7⟩ : ∃ g7, w1.heap.size = g7 := ⟨_, rfl⟩
                obtain ⟨w2, hw2⟩ : ∃ w2, w1.alloc (.cells #[.int .i64 0, .int .i64 0, .int .i64 0, .int .i64 0] 23) = w2 := ⟨_, rfl⟩
                have E2 : Hid (Ext wr w2) := Lib.hid (by rw [← hw2]; exact E1.out.alloc _)
                have h7 : w2.heap[g7]? = some (.cells #[.int .i64 0, .int .i64 0, .int .i64 0, .int .i64 0] 23 (0, 0)) := by rw [← hw2, ← hg7]; exact heap_alloc_new _ _
                rw [hw2, hg7]
                clear hw2 hg7 E1
                refine (RD.out w2 E2.out).mono ?_
                rintro e w3 ⟨rfl, hE⟩
                have E3 := Lib.hid (E2.out.trans hE)
                have h8 := hE.heapAt h7
                have n0 : w3.cell? ⟨g7, 0, none⟩ = some (.int .i64 0) := cell_of_row w3 g7 0 _ _ (0, 0) h8
                have n1 : w3.cell? ⟨g7, 1, none⟩ = some (.int .i64 0) := cell_of_row w3 g7 1 _ _ (0, 0) h8
                have n2 : w3.cell? ⟨g7, 2, none⟩ = some (.int .i64 0) := cell_of_row w3 g7 2 _ _ (0, 0) h8
                have n3 : w3.cell? ⟨g7, 3, none⟩ = some (.int .i64 0) := cell_of_row w3 g7 3 _ _ (0, 0) h8
                have h7s : g7 < w3.heap.size := (Array.getElem?_eq_some_iff.1 h8).1
                clear hE h7 h8 RD E2 k6 hq1
                go_wp2
                go_roundw
                case rel => exact ⟨i + 1, by omega, by go_num, Lib.hid ((ER.out.trans E3.out).alloc _)⟩
                case measure => simp [intOf]; omega
            · have hlt' : ¬ (i : Int) < 2 := by omega
              have EZ := Lib.hid (EWG.out.trans ER.out)
              go_wp2_with fail
              refine (AW.out _).mono ?_
              rintro e w9 ⟨rfl, hE⟩
              have E9 := Lib.hid (EZ.out.trans hE)
              clear hE
              go_wp2
              go_ret
              exact ⟨rfl, E9.out⟩
        · skip
          by_cases c4 : a2 < 0
          · go_wp2_with fail
            clear q0 q4 q5 q6 r0 r1 r2 r3 qs rs RK
            obtain ⟨g, hg⟩ : ∃ g, wk.heap.size = g := ⟨_, rfl⟩
            obtain ⟨wg, hwg⟩ : ∃ wg, wk.alloc (.cells #[.slice none 0 0, .slice Av N cv] 24) = wg := ⟨_, rfl⟩
            have EG : Ext wk wg := by rw [← hwg]; exact (Ext.refl _).alloc _
            have EL : Hid (∀ i, i < 2 → ∃ x l, wg.cell? ⟨g, i, none⟩ = some x ∧ Bytes wg x l ∧ l.length ≤ 600) := Lib.hid (by
              intro i hi
              have hrow : wg.heap[g]? = some (.cells #[.slice none 0 0, .slice Av N cv] 24 (0, 0)) := by rw [← hwg, ← hg]; exact heap_alloc_new _ _
              match i, hi with
              | 0, _ => exact ⟨.slice none 0 0, ([] : List Nat), cell_of_row _ g 0 _ _ (0, 0) hrow, LB.out.1.ext EG, LB.out.2⟩
              | 1, _ => exact ⟨.slice Av N cv, bl, cell_of_row _ g 1 _ _ (0, 0) hrow, BZ.out.ext (EK.out.trans EG), HNL.out⟩)
            have EWG := Lib.hid (EK.out.trans EG)
            have hgl : g < wg.heap.size := by rw [← hwg, ← hg]; simp
            have QG : Hid (wg.heap[q]? = some (.cells #[.int .i64 a0, .int .i64 a1, .int .i64 a2, .int .i64 a3, .int .i64 sz, .int .i64 cp, .slice Av N cv] 26 (0, 0))) := Lib.hid (EG.heapAt QK.out)
            rw [hwg, hg]
            clear hwg hg EG EK LB QK
            go_loopw [88] (fun t88 wr => ∃ i : Nat, i ≤ 2 ∧ t88 = .int .i64 (i : Int) ∧ Hid (Ext wg wr)) (fun t88 _ => 2 - (intOf t88).toNat)
            case atStart => exact ⟨0, by omega, rfl, Lib.hid (Ext.refl _)⟩
            case round =>
              obtain ⟨i, hi, rfl, ER⟩ := hrel
              by_cases hlt : i < 2
              · have hlt' : (i : Int) < 2 := by omega
                obtain ⟨x, l, hx, hB, hl6⟩ := EL.out i hlt
                have hx' := (ER.out.cell hgl).trans hx
                have k5 := cell_of_row _ q 5 _ _ (0, 0) (ER.out.heapAt QG.out)
                simp only [List.getElem?_toArray, List.getElem?_cons_zero, List.getElem?_cons_succ] at k5
                have hgr : g < wr.heap.size := Nat.lt_of_lt_of_le hgl ER.out.size
                have DC := Lib.hid (decode_any x l cp wr (hB.ext ER.out) hl6 hcp)
                have RD := Lib.hid (fun wx (he : Ext wr wx) => refDecode_any x l cp wx (hB.ext (ER.out.trans he)) hl6 hcp)
                clear hB hx hl6
                go_wp2_with fail
                refine DC.out.mono ?_
                rintro e w1 ⟨rfl, hE⟩
                have E1 := Lib.hid hE
                have k6 := cell_of_row _ q 5 _ _ (0, 0) ((ER.out.trans hE).heapAt QG.out)
                simp only [List.getElem?_toArray, List.getElem?_cons_zero, List.getElem?_cons_succ] at k6
                have hq1 : q < w1.heap.size := (Array.getElem?_eq_some_iff.1 ((ER.out.trans hE).heapAt QG.out)).1
                clear hE DC k5 hx' hgr
                obtain ⟨x0, x1, x2, x3, ok, hdo⟩ : ∃ x0 x1 x2 x3 ok, decOut l cp = .tuple #[.agg #[.int .i64 x0, .int .i64 x1, .int .i64 x2, .int .i64 x3], .bool ok] ∧ (ok = false → x0 = 0 ∧ x1 = 0 ∧ x2 = 0 ∧ x3 = 0) := by
                  unfold decOut hdrOut
                  split
                  · exact ⟨_, _, _, _, _, rfl, fun h => by cases h⟩
                  · exact ⟨_, _, _, _, _, rfl, fun _ => ⟨rfl, rfl, rfl, rfl⟩⟩
                rw [hdo.1] at RD ⊢
                have hz0 := hdo.2
                clear hdo
                cases ok with
                | true =>
                  clear hz0
                  go_wp2_with fail
                  obtain ⟨g7, hg7⟩ : ∃ g7, w1.heap.size = g7 := ⟨_, rfl⟩
                  obtain ⟨w2, hw2⟩ : ∃ w2, w1.alloc (.cells #[.int .i64 x0, .int .i64 x1, .int .i64 x2, .int .i64 x3] 23) = w2 := ⟨_, rfl⟩
                  have E2 : Hid (Ext wr w2) := Lib.hid (by rw [← hw2]; exact E1.out.alloc _)
                  have h7 : w2.heap[g7]? = some (.cells #[.int .i64 x0, .int .i64 x1, .int .i64 x2, .int .i64 x3] 23 (0, 0)) := by rw [← hw2, ← hg7]; exact heap_alloc_new _ _
                  rw [hw2, hg7]
                  clear hw2 hg7 E1
                  refine (RD.out w2 E2.out).mono ?_
                  rintro e w3 ⟨rfl, hE⟩
                  have E3 := Lib.hid (E2.out.trans hE)
                  have h8 := hE.heapAt h7
                  have n0 : w3.cell? ⟨g7, 0, none⟩ = some (.int .i64 x0) := cell_of_row w3 g7 0 _ _ (0, 0) h8
                  have n1 : w3.cell? ⟨g7, 1, none⟩ = some (.int .i64 x1) := cell_of_row w3 g7 1 _ _ (0, 0) h8
                  have n2 : w3.cell? ⟨g7, 2, none⟩ = some (.int .i64 x2) := cell_of_row w3 g7 2 _ _ (0, 0) h8
                  have n3 : w3.cell? ⟨g7, 3, none⟩ = some (.int .i64 x3) := cell_of_row w3 g7 3 _ _ (0, 0) h8
                  have h7s : g7 < w3.heap.size := (Array.getElem?_eq_some_iff.1 h8).1
                  clear hE h7 h8 RD E2 k6 hq1
                  go_wp2
                  go_roundw
                  case rel => exact ⟨i + 1, by omega, by go_num, Lib.hid ((ER.out.trans E3.out).alloc _)⟩
                  case measure => simp [intOf]; omega
                | false =>
                  obtain ⟨rfl, rfl, rfl, rfl⟩ := hz0 rfl
                  go_wp2_with fail
                  obtain ⟨g7, hg7⟩ : ∃ g7, w1.heap.size = g7 := ⟨_, rfl⟩
                  obtain ⟨w2, hw2⟩ : ∃ w2, w1.alloc (.cells #[.int .i64 0, .int .i64 0, .int .i64 0, .int .i64 0] 23) = w2 := ⟨_, rfl⟩
                  have E2 : Hid (Ext wr w2) := Lib.hid (by rw [← hw2]; exact E1.out.alloc _)
                  have h7 : w2.heap[g7]? = some (.cells #[.int .i64 0, .int .i64 0, .int .i64 0, .int .i64 0] 23 (0, 0)) := by rw [← hw2, ← hg7]; exact heap_alloc_new _ _
                  rw [hw2, hg7]
                  clear hw2 hg7 E1
                  refine (RD.out w2 E2.out).mono ?_
                  rintro e w3 ⟨rfl, hE⟩
                  have E3 := Lib.hid (E2.out.trans hE)
                  have h8 := hE.heapAt h7
                  have n0 : w3.cell? ⟨g7, 0, none⟩ = some (.int .i64 0) := cell_of_row w3 g7 0 _ _ (0, 0) h8
                  have n1 : w3.cell? ⟨g7, 1, none⟩ = some (.int .i64 0) := cell_of_row w3 g7 1 _ _ (0, 0) h8
                  have n2 : w3.cell? ⟨g7, 2, none⟩ = some (.int .i64 0) := cell_of_row w3 g7 2 _ _ (0, 0) h8
                  have n3 : w3.cell? ⟨g7, 3, none⟩ = some (.int .i64 0) := cell_of_row w3 g7 3 _ _ (0, 0) h8
                  have h7s : g7 < w3.heap.size := (Array.getElem?_eq_some_iff.1 h8).1
                  clear hE h7 h8 RD E2 k6 hq1
                  go_wp2
                  go_roundw
                  case rel => exact ⟨i + 1, by omega, by go_num, Lib.hid ((ER.out.trans E3.out).alloc _)⟩
                  case measure => simp [intOf]; omega
              · have hlt' : ¬ (i : Int) < 2 := by omega
                have EZ := Lib.hid (EWG.out.trans ER.out)
                go_wp2_with fail
                refine (AW.out _).mono ?_
                rintro e w9 ⟨rfl, hE⟩
                have E9 := Lib.hid (EZ.out.trans hE)
                clear hE
                go_wp2
                go_ret
                exact ⟨rfl, E9.out⟩
          · skip
            by_cases c5 : a3 < 0
            · go_wp2_with fail
              clear q0 q4 q5 q6 r0 r1 r2 r3 qs rs RK
              obtain ⟨g, hg⟩ : ∃ g, wk.heap.size = g := ⟨_, rfl⟩
              obtain ⟨wg, hwg⟩ : ∃ wg, wk.alloc (.cells #[.slice none 0 0, .slice Av N cv] 24) = wg := ⟨_, rfl⟩
              have EG : Ext wk wg := by rw [← hwg]; exact (Ext.refl _).alloc _
              have EL : Hid (∀ i, i < 2 → ∃ x l, wg.cell? ⟨g, i, none⟩ = some x ∧ Bytes wg x l ∧ l.length ≤ 600) := Lib.hid (by
                intro i hi
                have hrow : wg.heap[g]? = some (.cells #[.slice none 0 0, .slice Av N cv] 24 (0, 0)) := by rw [← hwg, ← hg]; exact heap_alloc_new _ _
                match i, hi with
                | 0, _ => exact ⟨.slice none 0 0, ([] : List Nat), cell_of_row _ g 0 _ _ (0, 0) hrow, LB.out.1.ext EG, LB.out.2⟩
                | 1, _ => exact ⟨.slice Av N cv, bl, cell_of_row _ g 1 _ _ (0, 0) hrow, BZ.out.ext (EK.out.trans EG), HNL.out⟩)
              have EWG := Lib.hid (EK.out.trans EG)
              have hgl : g < wg.heap.size := by rw [← hwg, ← hg]; simp
              have QG : Hid (wg.heap[q]? = some (.cells #[.int .i64 a0, .int .i64 a1, .int .i64 a2, .int .i64 a3, .int .i64 sz, .int .i64 cp, .slice Av N cv] 26 (0, 0))) := Lib.hid (EG.heapAt QK.out)
              rw [hwg, hg]
              clear hwg hg EG EK LB QK
              go_loopw [88] (fun t88 wr => ∃ i : Nat, i ≤ 2 ∧ t88 = .int .i64 (i : Int) ∧ Hid (Ext wg wr)) (fun t88 _ => 2 - (intOf t88).toNat)
              case atStart => exact ⟨0, by omega, rfl, Lib.hid (Ext.refl _)⟩
              case round =>
                obtain ⟨i, hi, rfl, ER⟩ := hrel
                by_cases hlt : i < 2
                · have hlt' : (i : Int) < 2 := by omega
                  obtain ⟨x, l, hx, hB, hl6⟩ := EL.out i hlt
                  have hx' := (ER.out.cell hgl).trans hx
                  have k5 := cell_of_row _ q 5 _ _ (0, 0) (ER.out.heapAt QG.out)
                  simp only [List.getElem?_toArray, List.getElem?_cons_zero, List.getElem?_cons_succ] at k5
                  have hgr : g < wr.heap.size := Nat.lt_of_lt_of_le hgl ER.out.size
                  have DC := Lib.hid (decode_any x l cp wr (hB.ext ER.out) hl6 hcp)
                  have RD := Lib.hid (fun wx (he : Ext wr wx) => refDecode_any x l cp wx (hB.ext (ER.out.trans he)) hl6 hcp)
                  clear hB hx hl6
                  go_wp2_with fail
                  refine DC.out.mono ?_
                  rintro e w1 ⟨rfl, hE⟩
                  have E1 := Lib.hid hE
                  have k6 := cell_of_row _ q 5 _ _ (0, 0) ((ER.out.trans hE).heapAt QG.out)
                  simp only [List.getElem?_toArray, List.getElem?_cons_zero, List.getElem?_cons_succ] at k6
                  have hq1 : q < w1.heap.size := (Array.getElem?_eq_some_iff.1 ((ER.out.trans hE).heapAt QG.out)).1
                  clear hE DC k5 hx' hgr
                  obtain ⟨x0, x1, x2, x3, ok, hdo⟩ : ∃ x0 x1 x2 x3 ok, decOut l cp = .tuple #[.agg #[.int .i64 x0, .int .i64 x1, .int .i64 x2, .int .i64 x3], .bool ok] ∧ (ok = false → x0 = 0 ∧ x1 = 0 ∧ x2 = 0 ∧ x3 = 0) := by
                    unfold decOut hdrOut
                    split
                    · exact ⟨_, _, _, _, _, rfl, fun h => by cases h⟩
                    · exact ⟨_, _, _, _, _, rfl, fun _ => ⟨rfl, rfl, rfl, rfl⟩⟩
                  rw [hdo.1] at RD ⊢
                  have hz0 := hdo.2
                  clear hdo
                  cases ok with
                  | true =>
                    clear hz0
                    go_wp2_with fail
                    obtain ⟨g7, hg7⟩ : ∃ g7, w1.heap.size = g7 := ⟨_, rfl⟩
                    obtain ⟨w2, hw2⟩ : ∃ w2, w1.alloc (.cells #[.int .i64 x0, .int .i64 x1, .int .i64 x2, .int .i64 x3] 23) = w2 := ⟨_, rfl⟩
                    have E2 : Hid (Ext wr w2) := Lib.hid (by rw [← hw2]; exact E1.out.alloc _)
                    have h7 : w2.heap[g7]? = some (.cells #[.int .i64 x0, .int .i64 x1, .int .i64 x2, .int .i64 x3] 23 (0, 0)) := by rw [← hw2, ← hg7]; exact heap_alloc_new _ _
                    rw [hw2, hg7]
                    clear hw2 hg7 E1
                    refine (RD.out w2 E2.out).mono ?_
                    rintro e w3 ⟨rfl, hE⟩
                    have E3 := Lib.hid (E2.out.trans hE)
                    have h8 := hE.heapAt h7
                    have n0 : w3.cell? ⟨g7, 0, none⟩ = some (.int .i64 x0) := cell_of_row w3 g7 0 _ _ (0, 0) h8
                    have n1 : w3.cell? ⟨g7, 1, none⟩ = some (.int .i64 x1) := cell_of_row w3 g7 1 _ _ (0, 0) h8
                    have n2 : w3.cell? ⟨g7, 2, none⟩ = some (.int .i64 x2) := cell_of_row w3 g7 2 _ _ (0, 0) h8
                    have n3 : w3.cell? ⟨g7, 3, none⟩ = some (.int .i64 x3) := cell_of_row w3 g7 3 _ _ (0, 0) h8
                    have h7s : g7 < w3.heap.size := (Array.getElem?_eq_some_iff.1 h8).1
                    clear hE h7 h8 RD E2 k6 hq1
                    go_wp2
                    go_roundw
                    case rel => exact ⟨i + 1, by omega, by go_num, Lib.hid ((ER.out.trans E3.out).alloc _)⟩
                    case measure => simp [intOf]; omega
                  | false =>
                    obtain ⟨rfl, rfl, rfl, rfl⟩ := hz0 rfl
                    go_wp2_with fail
                    obtain ⟨g7, hg7⟩ : ∃ g7, w1.heap.size = g7 := ⟨_, rfl⟩
                    obtain ⟨w2, hw2⟩ : ∃ w2, w1.alloc (.cells #[.int .i64 0, .int .i64 0, .int .i64 0, .int .i64 0] 23) = w2 := ⟨_, rfl⟩
                    have E2 : Hid (Ext wr w2) := Lib.hid (by rw [← hw2]; exact E1.out.alloc _)
                    have h7 : w2.heap[g7]? = some (.cells #[.int .i64 0, .int .i64 0, .int .i64 0, .int .i64 0] 23 (0, 0)) := by rw [← hw2, ← hg7]; exact heap_alloc_new _ _
                    rw [hw2, hg7]
                    clear hw2 hg7 E1
                    refine (RD.out w2 E2.out).mono ?_
                    rintro e w3 ⟨rfl, hE⟩
                    have E3 := Lib.hid (E2.out.trans hE)
                    have h8 := hE.heapAt h7
                    have n0 : w3.cell? ⟨g7, 0, none⟩ = some (.int .i64 0) := cell_of_row w3 g7 0 _ _ (0, 0) h8
                    have n1 : w3.cell? ⟨g7, 1, none⟩ = some (.int .i64 0) := cell_of_row w3 g7 1 _ _ (0, 0) h8
                    have n2 : w3.cell? ⟨g7, 2, none⟩ = some (.int .i64 0) := cell_of_row w3 g7 2 _ _ (0, 0) h8
                    have n3 : w3.cell? ⟨g7, 3, none⟩ = some (.int .i64 0) := cell_of_row w3 g7 3 _ _ (0, 0) h8
                    have h7s : g7 < w3.heap.size := (Array.getElem?_eq_some_iff.1 h8).1
                    clear hE h7 h8 RD E2 k6 hq1
                    go_wp2
                    go_roundw
                    case rel => exact ⟨i + 1, by omega, by go_num, Lib.hid ((ER.out.trans E3.out).alloc _)⟩
                    case measure => simp [intOf]; omega
                · have hlt' : ¬ (i : Int) < 2 := by omega
                  have EZ := Lib.hid (EWG.out.trans ER.out)
                  go_wp2_with fail
                  refine (AW.out _).mono ?_
                  rintro e w9 ⟨rfl, hE⟩
                  have E9 := Lib.hid (EZ.out.trans hE)
                  clear hE
                  go_wp2
                  go_ret
                  exact ⟨rfl, E9.out⟩
            · skip
              by_cases c6 : 2147483648 < a2
              · go_wp2_with fail
                clear q0 q4 q5 q6 r0 r1 r2 r3 qs rs RK
                obtain ⟨g, hg⟩ : ∃ g, wk.heap.size = g := ⟨_, rfl⟩
                obtain ⟨wg, hwg⟩ : ∃ wg, wk.alloc (.cells #[.slice none 0 0, .slice Av N cv] 24) = wg := ⟨_, rfl⟩
                have EG : Ext wk wg := by rw [← hwg]; exact (Ext.refl _).alloc _
                have EL : Hid (∀ i, i < 2 → ∃ x l, wg.cell? ⟨g, i, none⟩ = some x ∧ Bytes wg x l ∧ l.length ≤ 600) := Lib.hid (by
                  intro i hi
                  have hrow : wg.heap[g]? = some (.cells #[.slice none 0 0, .slice Av N cv] 24 (0, 0)) := by rw [← hwg, ← hg]; exact heap_alloc_new _ _
                  match i, hi with
                  | 0, _ => exact ⟨.slice none 0 0, ([] : List Nat), cell_of_row _ g 0 _ _ (0, 0) hrow, LB.out.1.ext EG, LB.out.2⟩
                  | 1, _ => exact ⟨.slice Av N cv, bl, cell_of_row _ g 1 _ _ (0, 0) hrow, BZ.out.ext (EK.out.trans EG), HNL.out⟩)
                have EWG := Lib.hid (EK.out.trans EG)
                have hgl : g < wg.heap.size := by rw [← hwg, ← hg]; simp
                have QG : Hid (wg.heap[q]? = some (.cells #[.int .i64 a0, .int .i64 a1, .int .i64 a2, .int .i64 a3, .int .i64 sz, .int .i64 cp, .slice Av N cv] 26 (0, 0))) := Lib.hid (EG.heapAt QK.out)
                rw [hwg, hg]
                clear hwg hg EG EK LB QK
                go_loopw [88] (fun t88 wr => ∃ i : Nat, i ≤ 2 ∧ t88 = .int .i64 (i : Int) ∧ Hid (Ext wg wr)) (fun t88 _ => 2 - (intOf t88).toNat)
                case atStart => exact ⟨0, by omega, rfl, Lib.hid (Ext.refl _)⟩
                case round =>
                  obtain ⟨i, hi, rfl, ER⟩ := hrel
                  by_cases hlt : i < 2
                  · have hlt' : (i : Int) < 2 := by omega
                    obtain ⟨x, l, hx, hB, hl6⟩ := EL.out i hlt
                    have hx' := (ER.out.cell hgl).trans hx
                    have k5 := cell_of_row _ q 5 _ _ (0, 0) (ER.out.heapAt QG.out)
                    simp only [List.getElem?_toArray, List.getElem?_cons_zero, List.getElem?_cons_succ] at k5
                    have hgr : g < wr.heap.size := Nat.lt_of_lt_of_le hgl ER.out.size
                    have DC := Lib.hid (decode_any x l cp wr (hB.ext ER.out) hl6 hcp)
                    have RD := Lib.hid (fun wx (he : Ext wr wx) => refDecode_any x l cp wx (hB.ext (ER.out.trans he)) hl6 hcp)
                    clear hB hx hl6
                    go_wp2_with fail
                    refine DC.out.mono ?_
                    rintro e w1 ⟨rfl, hE⟩
                    have E1 := Lib.hid hE
                    have k6 := cell_of_row _ q 5 _ _ (0, 0) ((ER.out.trans hE).heapAt QG.out)
                    simp only [List.getElem?_toArray, List.getElem?_cons_zero, List.getElem?_cons_succ] at k6
                    have hq1 : q < w1.heap.size := (Array.getElem?_eq_some_iff.1 ((ER.out.trans hE).heapAt QG.out)).1
                    clear hE DC k5 hx' hgr
                    obtain ⟨x0, x1, x2, x3, ok, hdo⟩ : ∃ x0 x1 x2 x3 ok, decOut l cp = .tuple #[.agg #[.int .i64 x0, .int .i64 x1, .int .i64 x2, .int .i64 x3], .bool ok] ∧ (ok = false → x0 = 0 ∧ x1 = 0 ∧ x2 = 0 ∧ x3 = 0) := by
                      unfold decOut hdrOut
                      split
                      · exact ⟨_, _, _, _, _, rfl, fun h => by cases h⟩
                      · exact ⟨_, _, _, _, _, rfl, fun _ => ⟨rfl, rfl, rfl, rfl⟩⟩
                    rw [hdo.1] at RD ⊢
                    have hz0 := hdo.2
                    clear hdo
                    cases ok with
                    | true =>
                      clear hz0
                      go_wp2_with fail
                      obtain ⟨g7, hg7⟩ : ∃ g7, w1.heap.size = g7 := ⟨_, rfl⟩
                      obtain ⟨w2, hw2⟩ : ∃ w2, w1.alloc (.cells #[.int .i64 x0, .int .i64 x1, .int .i64 x2, .int .i64 x3] 23) = w2 := ⟨_, rfl⟩
                      have E2 : Hid (Ext wr w2) := Lib.hid (by rw [← hw2]; exact E1.out.alloc _)
                      have h7 : w2.heap[g7]? = some (.cells #[.int .i64 x0, .int .i64 x1, .int .i64 x2, .int .i64 x3] 23 (0, 0)) := by rw [← hw2, ← hg7]; exact heap_alloc_new _ _
                      rw [hw2, hg7]
                      clear hw2 hg7 E1
                      refine (RD.out w2 E2.out).mono ?_
                      rintro e w3 ⟨rfl, hE⟩
                      have E3 := Lib.hid (E2.out.trans hE)
                      have h8 := hE.heapAt h7
                      have n0 : w3.cell? ⟨g7, 0, none⟩ = some (.int .i64 x0) := cell_of_row w3 g7 0 _ _ (0, 0) h8
                      have n1 : w3.cell? ⟨g7, 1, none⟩ = some (.int .i64 x1) := cell_of_row w3 g7 1 _ _ (0, 0) h8
                      have n2 : w3.cell? ⟨g7, 2, none⟩ = some (.int .i64 x2) := cell_of_row w3 g7 2 _ _ (0, 0) h8
                      have n3 : w3.cell? ⟨g7, 3, none⟩ = some (.int .i64 x3) := cell_of_row w3 g7 3 _ _ (0, 0) h8
                      have h7s : g7 < w3.heap.size := (Array.getElem?_eq_some_iff.1 h8).1
                      clear hE h7 h8 RD E2 k6 hq1
                      go_wp2
                      go_roundw
                      case rel => exact ⟨i + 1, by omega, by go_num, Lib.hid ((ER.out.trans E3.out).alloc _)⟩
                      case measure => simp [intOf]; omega
                    | false =>
                      obtain ⟨rfl, rfl, rfl, rfl⟩ := hz0 rfl
                      go_wp2_with fail
                      obtain ⟨g7, hg7⟩ : ∃ g7, w1.heap.size = g7 := ⟨_, rfl⟩
                      obtain ⟨w2, hw2⟩ : ∃ w2, w1.alloc (.cells #[.int .i64 0, .int .i64 0, .int .i64 0, .int .i64 0] 23) = w2 := ⟨_, rfl⟩
                      have E2 : Hid (Ext wr w2) := Lib.hid (by rw [← hw2]; exact E1.out.alloc _)
                      have h7 : w2.heap[g7]? = some (.cells #[.int .i64 0, .int .i64 0, .int .i64 0, .int .i64 0] 23 (0, 0)) := by rw [← hw2, ← hg7]; exact heap_alloc_new _ _
                      rw [hw2, hg7]
                      clear hw2 hg7 E1
                      refine (RD.out w2 E2.out).mono ?_
                      rintro e w3 ⟨rfl, hE⟩
                      have E3 := Lib.hid (E2.out.trans hE)
                      have h8 := hE.heapAt h7
                      have n0 : w3.cell? ⟨g7, 0, none⟩ = some (.int .i64 0) := cell_of_row w3 g7 0 _ _ (0, 0) h8
                      have n1 : w3.cell? ⟨g7, 1, none⟩ = some (.int .i64 0) := cell_of_row w3 g7 1 _ _ (0, 0) h8
                      have n2 : w3.cell? ⟨g7, 2, none⟩ = some (.int .i64 0) := cell_of_row w3 g7 2 _ _ (0, 0) h8
                      have n3 : w3.cell? ⟨g7, 3, none⟩ = some (.int .i64 0) := cell_of_row w3 g7 3 _ _ (0, 0) h8
                      have h7s : g7 < w3.heap.size := (Array.getElem?_eq_some_iff.1 h8).1
                      clear hE h7 h8 RD E2 k6 hq1
                      go_wp2
                      go_roundw
                      case rel => exact ⟨i + 1, by omega, by go_num, Lib.hid ((ER.out.trans E3.out).alloc _)⟩
                      case measure => simp [intOf]; omega
                  · have hlt' : ¬ (i : Int) < 2 := by omega
                    have EZ := Lib.hid (EWG.out.trans ER.out)
                    go_wp2_with fail
                    refine (AW.out _).mono ?_
                    rintro e w9 ⟨rfl, hE⟩
                    have E9 := Lib.hid (EZ.out.trans hE)
                    clear hE
                    go_wp2
                    go_ret
                    exact ⟨rfl, E9.out⟩
              · skip
                by_cases c7 : 2147483648 < a3
                · go_wp2_with fail
                  clear q0 q4 q5 q6 r0 r1 r2 r3 qs rs RK
                  obtain ⟨g, hg⟩ : ∃ g, wk.heap.size = g := ⟨_, rfl⟩
                  obtain ⟨wg, hwg⟩ : ∃ wg, wk.alloc (.cells #[.slice none 0 0, .slice Av N cv] 24) = wg := ⟨_, rfl⟩
                  have EG : Ext wk wg := by rw [← hwg]; exact (Ext.refl _).alloc _
                  have EL : Hid (∀ i, i < 2 → ∃ x l, wg.cell? ⟨g, i, none⟩ = some x ∧ Bytes wg x l ∧ l.length ≤ 600) := Lib.hid (by
                    intro i hi
                    have hrow : wg.heap[g]? = some (.cells #[.slice none 0 0, .slice Av N cv] 24 (0, 0)) := by rw [← hwg, ← hg]; exact heap_alloc_new _ _
                    match i, hi with
                    | 0, _ => exact ⟨.slice none 0 0, ([] : List Nat), cell_of_row _ g 0 _ _ (0, 0) hrow, LB.out.1.ext EG, LB.out.2⟩
                    | 1, _ => exact ⟨.slice Av N cv, bl, cell_of_row _ g 1 _ _ (0, 0) hrow, BZ.out.ext (EK.out.trans EG), HNL.out⟩)
                  have EWG := Lib.hid (EK.out.trans EG)
                  have hgl : g < wg.heap.size := by rw [← hwg, ← hg]; simp
                  have QG : Hid (wg.heap[q]? = some (.cells #[.int .i64 a0, .int .i64 a1, .int .i64 a2, .int .i64 a3, .int .i64 sz, .int .i64 cp, .slice Av N cv] 26 (0, 0))) := Lib.hid (EG.heapAt QK.out)
                  rw [hwg, hg]
                  clear hwg hg EG EK LB QK
                  go_loopw [88] (fun t88 wr => ∃ i : Nat, i ≤ 2 ∧ t88 = .int .i64 (i : Int) ∧ Hid (Ext wg wr)) (fun t88 _ => 2 - (intOf t88).toNat)
                  case atStart => exact ⟨0, by omega, rfl, Lib.hid (Ext.refl _)⟩
                  case round =>
                    obtain ⟨i, hi, rfl, ER⟩ := hrel
                    by_cases hlt : i < 2
                    · have hlt' : (i : Int) < 2 := by omega
                      obtain ⟨x, l, hx, hB, hl6⟩ := EL.out i hlt
                      have hx' := (ER.out.cell hgl).trans hx
                      have k5 := cell_of_row _ q 5 _ _ (0, 0) (ER.out.heapAt QG.out)
                      simp only [List.getElem?_toArray, List.getElem?_cons_zero, List.getElem?_cons_succ] at k5
                      have hgr : g < wr.heap.size := Nat.lt_of_lt_of_le hgl ER.out.size
                      have DC := Lib.hid (decode_any x l cp wr (hB.ext ER.out) hl6 hcp)
                      have RD := Lib.hid (fun wx (he : Ext wr wx) => refDecode_any x l cp wx (hB.ext (ER.out.trans he)) hl6 hcp)
                      clear hB hx hl6
                      go_wp2_with fail
                      refine DC.out.mono ?_
                      rintro e w1 ⟨rfl, hE⟩
                      have E1 := Lib.hid hE
                      have k6 := cell_of_row _ q 5 _ _ (0, 0) ((ER.out.trans hE).heapAt QG.out)
                      simp only [List.getElem?_toArray, List.getElem?_cons_zero, List.getElem?_cons_succ] at k6
                      have hq1 : q < w1.heap.size := (Array.getElem?_eq_some_iff.1 ((ER.out.trans hE).heapAt QG.out)).1
                      clear hE DC k5 hx' hgr
                      obtain ⟨x0, x1, x2, x3, ok, hdo⟩ : ∃ x0 x1 x2 x3 ok, decOut l cp = .tuple #[.agg #[.int .i64 x0, .int .i64 x1, .int .i64 x2, .int .i64 x3], .bool ok] ∧ (ok = false → x0 = 0 ∧ x1 = 0 ∧ x2 = 0 ∧ x3 = 0) := by
                        unfold decOut hdrOut
                        split
                        · exact ⟨_, _, _, _, _, rfl, fun h => by cases h⟩
                        · exact ⟨_, _, _, _, _, rfl, fun _ => ⟨rfl, rfl, rfl, rfl⟩⟩
                      rw [hdo.1] at RD ⊢
                      have hz0 := hdo.2
                      clear hdo
                      cases ok with
                      | true =>
                        clear hz0
                        go_wp2_with fail
                        obtain ⟨g7, hg7⟩ : ∃ g7, w1.heap.size = g7 := ⟨_, rfl⟩
                        obtain ⟨w2, hw2⟩ : ∃ w2, w1.alloc (.cells #[.int .i64 x0, .int .i64 x1, .int .i64 x2, .int .i64 x3] 23) = w2 := ⟨_, rfl⟩
                        have E2 : Hid (Ext wr w2) := Lib.hid (by rw [← hw2]; exact E1.out.alloc _)
                        have h7 : w2.heap[g7]? = some (.cells #[.int .i64 x0, .int .i64 x1, .int .i64 x2, .int .i64 x3] 23 (0, 0)) := by rw [← hw2, ← hg7]; exact heap_alloc_new _ _
                        rw [hw2, hg7]
                        clear hw2 hg7 E1
                        refine (RD.out w2 E2.out).mono ?_
                        rintro e w3 ⟨rfl, hE⟩
                        have E3 := Lib.hid (E2.out.trans hE)
                        have h8 := hE.heapAt h7
                        have n0 : w3.cell? ⟨g7, 0, none⟩ = some (.int .i64 x0) := cell_of_row w3 g7 0 _ _ (0, 0) h8
                        have n1 : w3.cell? ⟨g7, 1, none⟩ = some (.int .i64 x1) := cell_of_row w3 g7 1 _ _ (0, 0) h8
                        have n2 : w3.cell? ⟨g7, 2, none⟩ = some (.int .i64 x2) := cell_of_row w3 g7 2 _ _ (0, 0) h8
                        have n3 : w3.cell? ⟨g7, 3, none⟩ = some (.int .i64 x3) := cell_of_row w3 g7 3 _ _ (0, 0) h8
                        have h7s : g7 < w3.heap.size := (Array.getElem?_eq_some_iff.1 h8).1
                        clear hE h7 h8 RD E2 k6 hq1
                        go_wp2
                        go_roundw
                        case rel => exact ⟨i + 1, by omega, by go_num, Lib.hid ((ER.out.trans E3.out).alloc _)⟩
                        case measure => simp [intOf]; omega
                      | false =>
                        obtain ⟨rfl, rfl, rfl, rfl⟩ := hz0 rfl
                        go_wp2_with fail
                        obtain ⟨g7, hg7⟩ : ∃ g7, w1.heap.size = g7 := ⟨_, rfl⟩
                        obtain ⟨w2, hw2⟩ : ∃ w2, w1.alloc (.cells #[.int .i64 0, .int .i64 0, .int .i64 0, .int .i64 0] 23) = w2 := ⟨_, rfl⟩
                        have E2 : Hid (Ext wr w2) := Lib.hid (by rw [← hw2]; exact E1.out.alloc _)
                        have h7 : w2.heap[g7]? = some (.cells #[.int .i64 0, .int .i64 0, .int .i64 0, .int .i64 0] 23 (0, 0)) := by rw [← hw2, ← hg7]; exact heap_alloc_new _ _
                        rw [hw2, hg7]
                        clear hw2 hg7 E1
                        refine (RD.out w2 E2.out).mono ?_
                        rintro e w3 ⟨rfl, hE⟩
                        have E3 := Lib.hid (E2.out.trans hE)
                        have h8 := hE.heapAt h7
                        have n0 : w3.cell? ⟨g7, 0, none⟩ = some (.int .i64 0) := cell_of_row w3 g7 0 _ _ (0, 0) h8
                        have n1 : w3.cell? ⟨g7, 1, none⟩ = some (.int .i64 0) := cell_of_row w3 g7 1 _ _ (0, 0) h8
                        have n2 : w3.cell? ⟨g7, 2, none⟩ = some (.int .i64 0) := cell_of_row w3 g7 2 _ _ (0, 0) h8
                        have n3 : w3.cell? ⟨g7, 3, none⟩ = some (.int .i64 0) := cell_of_row w3 g7 3 _ _ (0, 0) h8
                        have h7s : g7 < w3.heap.size := (Array.getElem?_eq_some_iff.1 h8).1
                        clear hE h7 h8 RD E2 k6 hq1
                        go_wp2
                        go_roundw
                        case rel => exact ⟨i + 1, by omega, by go_num, Lib.hid ((ER.out.trans E3.out).alloc _)⟩
                        case measure => simp [intOf]; omega
                    · have hlt' : ¬ (i : Int) < 2 := by omega
                      have EZ := Lib.hid (EWG.out.trans ER.out)
                      go_wp2_with fail
                      refine (AW.out _).mono ?_
                      rintro e w9 ⟨rfl, hE⟩
                      have E9 := Lib.hid (EZ.out.trans hE)
                      clear hE
                      go_wp2
                      go_ret
                      exact ⟨rfl, E9.out⟩
                · skip
                  exact absurd (by unfold EncB; omega) HNO.out


end Go.Proofs.Ytbpdjekibcbaaaa
