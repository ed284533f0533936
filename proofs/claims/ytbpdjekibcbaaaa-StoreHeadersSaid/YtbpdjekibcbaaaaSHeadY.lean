import Derived.Test.YtbpdjekibcbaaaaSTearL
import Derived.Test.YtbpdjekibcbaaaaSTearL
namespace Go.Proofs.Ytbpdjekibcbaaaa
open Go.RowKit
set_option linter.unusedVariables false
set_option linter.unusedSimpArgs false
set_option maxRecDepth 100000


set_option maxHeartbeats 51200000 in
theorem heads_yes (gn hf sn lg z : Nat) (cp : Int) (Av : Option Addr) (N cv : Nat) (bl : List Nat) (w : World) (hcp : I64 cp) (hB : Bytes w (.slice Av N cv) bl) (hN : N = bl.length) (h7 : ¬ 600 < N) (hz : 32 ≤ z ∧ z ≤ 600) (hg0 : gn ≤ 9223372036854775807) (hh : hf ≤ 1) (hs : sn ≤ 2147483648) (hl : lg ≤ 2147483648) :
    Calls Try.prog 3 #[.agg #[.int .i64 (gn : Int), .int .i64 (hf : Int), .int .i64 (sn : Int), .int .i64 (lg : Int), .int .i64 (z : Int), .int .i64 cp, .slice Av N cv]] w fun e w' => e = .returned (.bool true) ∧ Ext w w' := by
  have AW := Lib.hid (fun wx => awake_any wx)
  have BZ := Lib.hid hB
  have HNL : Hid (bl.length ≤ 600) := Lib.hid (by omega)
  have h7' : ¬ (600 : Int) < (N : Int) := by omega
  have h6' : ¬ (600 : Int) < (z : Int) := by omega
  have HL := Lib.hid (hdr_lt gn hf sn lg z (by omega))
  have HLN := Lib.hid (hdr_len gn hf sn lg z hz.1)
  obtain ⟨HH, hHH⟩ : ∃ x, hdrL gn hf sn lg z = x := ⟨_, rfl⟩
  have EN : Hid (∀ wx, Calls Try.prog 7 #[.agg #[.int .i64 (gn : Int), .int .i64 (hf : Int), .int .i64 (sn : Int), .int .i64 (lg : Int)], .int .i64 (z : Int)] wx fun e w' => ∃ A cap, e = .returned (.slice A z cap) ∧ Own wx.heap.size w' A z cap HH ∧ Ext wx w') := Lib.hid (fun wx => by rw [← hHH]; exact encode_yes gn hf sn lg z wx hz hg0 hh hs hl)
  have RF : Hid (∀ wx, Calls Try.prog 8 #[.int .i64 (gn : Int), .int .i64 (hf : Int), .int .i64 (sn : Int), .int .i64 (lg : Int), .int .i64 (z : Int)] wx fun e w' => ∃ A cap, e = .returned (.slice A z cap) ∧ Own wx.heap.size w' A z cap HH ∧ Ext wx w') := Lib.hid (fun wx => by rw [← hHH]; exact refHeader_any gn hf sn lg z wx hz hg0 hh hs hl)
  rw [hHH] at HL HLN
  clear hB hN hHH
  go_enter Try.func3, Try.ntmps3
  go_wp2_with fail
  obtain ⟨q, hq⟩ : ∃ q, w.heap.size = q := ⟨_, rfl⟩
  obtain ⟨wb, hwb⟩ : ∃ wb, (w.alloc (.cells #[.int .i64 (gn : Int), .int .i64 (hf : Int), .int .i64 (sn : Int), .int .i64 (lg : Int), .int .i64 (z : Int), .int .i64 cp, .slice Av N cv] 26)).alloc (.cells #[.int .i64 (gn : Int), .int .i64 (hf : Int), .int .i64 (sn : Int), .int .i64 (lg : Int)] 23) = wb := ⟨_, rfl⟩
  have EB : Hid (Ext w wb) := Lib.hid (by rw [← hwb]; exact ((Ext.refl w).alloc _).alloc _)
  have QB : Hid (wb.heap[q]? = some (.cells #[.int .i64 (gn : Int), .int .i64 (hf : Int), .int .i64 (sn : Int), .int .i64 (lg : Int), .int .i64 (z : Int), .int .i64 cp, .slice Av N cv] 26 (0, 0))) := Lib.hid (by
    rw [← hwb, ← hq]; simp only [World.alloc]; rw [Array.getElem?_push_lt (by simp), Array.getElem_push_eq])
  have RB : Hid (wb.heap[q + 1]? = some (.cells #[.int .i64 (gn : Int), .int .i64 (hf : Int), .int .i64 (sn : Int), .int .i64 (lg : Int)] 23 (0, 0))) := Lib.hid (by
    rw [← hwb, ← hq]
    have : w.heap.size + 1 = (w.alloc (.cells #[.int .i64 (gn : Int), .int .i64 (hf : Int), .int .i64 (sn : Int), .int .i64 (lg : Int), .int .i64 (z : Int), .int .i64 cp, .slice Av N cv] 26)).heap.size := by simp
    rw [this]
    exact heap_alloc_new _ _)
  rw [hwb, hq]
  clear hwb hq
  refine (EN.out wb).mono ?_
  rintro e w4 ⟨A, c, rfl, hO, hE⟩
  have E4 := Lib.hid (EB.out.trans hE)
  have Q4 := Lib.hid (hE.heapAt QB.out)
  have R4 := Lib.hid (hE.heapAt RB.out)
  have B4 := Lib.hid hO.bytes
  clear hO hE EB QB RB EN
  have q0 : w4.cell? ⟨q, 0, none⟩ = some (.int .i64 (gn : Int)) := cell_of_row w4 q 0 _ _ (0, 0) Q4.out
  have q4 : w4.cell? ⟨q, 4, none⟩ = some (.int .i64 (z : Int)) := cell_of_row w4 q 4 _ _ (0, 0) Q4.out
  have q5 : w4.cell? ⟨q, 5, none⟩ = some (.int .i64 cp) := cell_of_row w4 q 5 _ _ (0, 0) Q4.out
  have q6 : w4.cell? ⟨q, 6, none⟩ = some (.slice Av N cv) := cell_of_row w4 q 6 _ _ (0, 0) Q4.out
  have r0 : w4.cell? ⟨q + 1, 0, none⟩ = some (.int .i64 (gn : Int)) := cell_of_row w4 (q + 1) 0 _ _ (0, 0) R4.out
  have r1 : w4.cell? ⟨q + 1, 1, none⟩ = some (.int .i64 (hf : Int)) := cell_of_row w4 (q + 1) 1 _ _ (0, 0) R4.out
  have r2 : w4.cell? ⟨q + 1, 2, none⟩ = some (.int .i64 (sn : Int)) := cell_of_row w4 (q + 1) 2 _ _ (0, 0) R4.out
  have r3 : w4.cell? ⟨q + 1, 3, none⟩ = some (.int .i64 (lg : Int)) := cell_of_row w4 (q + 1) 3 _ _ (0, 0) R4.out
  have qs : q < w4.heap.size := (Array.getElem?_eq_some_iff.1 Q4.out).1
  have rs : q + 1 < w4.heap.size := (Array.getElem?_eq_some_iff.1 R4.out).1
  obtain ⟨s1, hs1⟩ : ∃ s, strOf HH = s := ⟨_, rfl⟩
  have HS1 := Lib.hid hs1
  clear hs1
  go_wp2_with fail
  have v1 : ∀ g', (convert 24 9 (.slice A z c)).run Try.prog (w4.ext g') = .ok (.string s1) (w4.ext g') := fun g' => by rw [← HS1.out]; exact conv_bytes (B4.out.ext ⟨g', rfl⟩)
  have e0 : ∀ g', (w4.ext g').cell? ⟨q + 1, 0, none⟩ = some (.int .i64 (gn : Int)) := fun g' => (Ext.cell (⟨g', rfl⟩ : Ext w4 (w4.ext g')) rs).trans r0
  have e1 : ∀ g', (w4.ext g').cell? ⟨q + 1, 1, none⟩ = some (.int .i64 (hf : Int)) := fun g' => (Ext.cell (⟨g', rfl⟩ : Ext w4 (w4.ext g')) rs).trans r1
  have e2 : ∀ g', (w4.ext g').cell? ⟨q + 1, 2, none⟩ = some (.int .i64 (sn : Int)) := fun g' => (Ext.cell (⟨g', rfl⟩ : Ext w4 (w4.ext g')) rs).trans r2
  have e3 : ∀ g', (w4.ext g').cell? ⟨q + 1, 3, none⟩ = some (.int .i64 (lg : Int)) := fun g' => (Ext.cell (⟨g', rfl⟩ : Ext w4 (w4.ext g')) rs).trans r3
  have e4 : ∀ g', (w4.ext g').cell? ⟨q, 4, none⟩ = some (.int .i64 (z : Int)) := fun g' => (Ext.cell (⟨g', rfl⟩ : Ext w4 (w4.ext g')) qs).trans q4
  clear q0 q4 q5 q6 r0 r1 r2 r3 qs rs
  refine region_flow 15 [80] (fun t v => match t with | 80 => ∃ A c, v = .slice A z c | _ => False) (fun t v w' => match t with | 80 => ∃ A c, v = .slice A z c ∧ Bytes w' (.slice A z c) HH | _ => True) (by kernel_rfl) (by kernel_rfl) ?hq ?hu ?hR ?h
  case hq => intro t v h; split at h <;> simp_all
  case hu => intro t h; split at h <;> simp_all [undef]
  case hR =>
    intro t v wx wy _ hR he
    split at hR
    · obtain ⟨A, c, e, h1⟩ := hR; exact ⟨A, c, e, h1.ext he⟩
    · trivial
  case h =>
    dsimp only [List.take, List.drop]
    iterate 12 (refine Flow.plain rfl rfl ?_; go_big_quiet_step (fail); refine wpQuiet_nil ?_)
    refine Flow.call Try.call8 [.int .i64 (gn : Int), .int .i64 (hf : Int), .int .i64 (sn : Int), .int .i64 (lg : Int), .int .i64 (z : Int)] rfl rfl rfl ?_ (fun wx hx hf => (RF.out wx).mono ?_) ?_
    · exact ⟨.slice none z 0, _, _, rfl⟩
    · rintro e w' ⟨A, c, rfl, hO, hE⟩
      exact ⟨_, rfl, hE, ⟨A, c, rfl⟩, A, c, rfl, hO.bytes⟩
    rintro v ⟨A9, c9, rfl⟩
    simp only [Act.put, List.setIfInBounds_toArray, List.set_cons_zero, List.set_cons_succ]
    refine Flow.use (.string s1) rfl rfl (fun wx hx hf => ?_) ?_
    · obtain ⟨A2, c2, e, hB⟩ := hf.at 80 (by kernel_rfl) ⟨A9, c9, rfl⟩
      refine run_conv 24 9 (.tmp 80) rfl ?_
      rw [e, ← HS1.out]
      exact conv_bytes hB
    simp only [Act.put, List.setIfInBounds_toArray, List.set_cons_zero, List.set_cons_succ]
    iterate 1 (refine Flow.plain rfl rfl ?_; go_big_quiet_step (fail); refine wpQuiet_nil ?_)
    refine Flow.nil fun wk hxk hf => ?_
    have EK := Lib.hid (E4.out.trans hxk)
    have QK := Lib.hid (hxk.heapAt Q4.out)
    have LB : Hid (Bytes wk (.slice A z c) HH ∧ HH.length ≤ 600) := Lib.hid ⟨B4.out.ext hxk, by rw [HLN.out]; omega⟩
    have q6 : wk.cell? ⟨q, 6, none⟩ = some (.slice Av N cv) := cell_of_row wk q 6 _ _ (0, 0) QK.out
    have qs : q < wk.heap.size := (Array.getElem?_eq_some_iff.1 QK.out).1
    clear hf hxk E4 Q4 R4 B4 v1 e0 e1 e2 e3 e4 HL
    dsimp only [wpList, Exit.then]
    go_wp2_with fail
    clear q6 qs
    obtain ⟨g, hg⟩ : ∃ g, wk.heap.size = g := ⟨_, rfl⟩
    obtain ⟨wg, hwg⟩ : ∃ wg, wk.alloc (.cells #[.slice A z c, .slice Av N cv] 24) = wg := ⟨_, rfl⟩
    have EG : Ext wk wg := by rw [← hwg]; exact (Ext.refl _).alloc _
    have EL : Hid (∀ i, i < 2 → ∃ x l, wg.cell? ⟨g, i, none⟩ = some x ∧ Bytes wg x l ∧ l.length ≤ 600) := Lib.hid (by
      intro i hi
      have hrow : wg.heap[g]? = some (.cells #[.slice A z c, .slice Av N cv] 24 (0, 0)) := by rw [← hwg, ← hg]; exact heap_alloc_new _ _
      match i, hi with
      | 0, _ => exact ⟨.slice A z c, HH, cell_of_row _ g 0 _ _ (0, 0) hrow, LB.out.1.ext EG, LB.out.2⟩
      | 1, _ => exact ⟨.slice Av N cv, bl, cell_of_row _ g 1 _ _ (0, 0) hrow, BZ.out.ext (EK.out.trans EG), HNL.out⟩)
    have EWG := Lib.hid (EK.out.trans EG)
    have hgl : g < wg.heap.size := by rw [← hwg, ← hg]; simp
    have QG : Hid (wg.heap[q]? = some (.cells #[.int .i64 (gn : Int), .int .i64 (hf : Int), .int .i64 (sn : Int), .int .i64 (lg : Int), .int .i64 (z : Int), .int .i64 cp, .slice Av N cv] 26 (0, 0))) := Lib.hid (EG.heapAt QK.out)
    rw [hwg, hg]
    clear hwg hg EG EK LB QK
    go_loopw [88] (fun t88 wr => ∃ i : Nat, i ≤ 2 ∧ t88 = .int .i64 (i : Int) ∧ Hid (Ext wg wr)) (fun t88 _ => 2 - (intOf t88).toNat)
    case atStart => exact ⟨0, by omega, rfl, Lib.hid (Ext.refl _)⟩
    case round =>
      obtain ⟨i, hi, rfl, ER⟩ := hrel
      by_cases hlt : i < 2
      · have hlt' : (i : Int) < 2 := by omega
        obtain ⟨x, l, hx, hB, hl6⟩ := EL.out i hlt
        have hx' := (ER.out.cell hgl).trans hx
        have k5 := cell_of_row _ q 5 _ _ (0, 0) (ER.out.heapAt QG.out)
        simp only [List.getElem?_toArray, List.getElem?_cons_zero, List.getElem?_cons_succ] at k5
        have hgr : g < wr.heap.size := Nat.lt_of_lt_of_le hgl ER.out.size
        have DC := Lib.hid (decode_any x l cp wr (hB.ext ER.out) hl6 hcp)
        have RD := Lib.hid (fun wx (he : Ext wr wx) => refDecode_any x l cp wx (hB.ext (ER.out.trans he)) hl6 hcp)
        clear hB hx hl6
        go_wp2_with fail
        refine DC.out.mono ?_
        rintro e w1 ⟨rfl, hE⟩
        have E1 := Lib.hid hE
        have k6 := cell_of_row _ q 5 _ _ (0, 0) ((ER.out.trans hE).heapAt QG.out)
        simp only [List.getElem?_toArray, List.getElem?_cons_zero, List.getElem?_cons_succ] at k6
        have hq1 : q < w1.heap.size := (Array.getElem?_eq_some_iff.1 ((ER.out.trans hE).heapAt QG.out)).1
        clear hE DC k5 hx' hgr
        obtain ⟨x0, x1, x2, x3, ok, hdo⟩ : ∃ x0 x1 x2 x3 ok, decOut l cp = .tuple #[.agg #[.int .i64 x0, .int .i64 x1, .int .i64 x2, .int .i64 x3], .bool ok] ∧ (ok = false → x0 = 0 ∧ x1 = 0 ∧ x2 = 0 ∧ x3 = 0) := by
          unfold decOut hdrOut
          split
          · exact ⟨_, _, _, _, _, rfl, fun h => by cases h⟩
          · exact ⟨_, _, _, _, _, rfl, fun _ => ⟨rfl, rfl, rfl, rfl⟩⟩
        rw [hdo.1] at RD ⊢
        have hz0 := hdo.2
        clear hdo
        cases ok with
        | true =>
          clear hz0
          go_wp2_with fail
          obtain ⟨g7, hg7⟩ : ∃ g7, w1.heap.size = g7 := ⟨_, rfl⟩
          obtain ⟨w2, hw2⟩ : ∃ w2, w1.alloc (.cells #[.int .i64 x0, .int .i64 x1, .int .i64 x2, .int .i64 x3] 23) = w2 := ⟨_, rfl⟩
          have E2 : Hid (Ext wr w2) := Lib.hid (by rw [← hw2]; exact E1.out.alloc _)
          have h7 : w2.heap[g7]? = some (.cells #[.int .i64 x0, .int .i64 x1, .int .i64 x2, .int .i64 x3] 23 (0, 0)) := by rw [← hw2, ← hg7]; exact heap_alloc_new _ _
          rw [hw2, hg7]
          clear hw2 hg7 E1
          refine (RD.out w2 E2.out).mono ?_
          rintro e w3 ⟨rfl, hE⟩
          have E3 := Lib.hid (E2.out.trans hE)
          have h8 := hE.heapAt h7
          have n0 : w3.cell? ⟨g7, 0, none⟩ = some (.int .i64 x0) := cell_of_row w3 g7 0 _ _ (0, 0) h8
          have n1 : w3.cell? ⟨g7, 1, none⟩ = some (.int .i64 x1) := cell_of_row w3 g7 1 _ _ (0, 0) h8
          have n2 : w3.cell? ⟨g7, 2, none⟩ = some (.int .i64 x2) := cell_of_row w3 g7 2 _ _ (0, 0) h8
          have n3 : w3.cell? ⟨g7, 3, none⟩ = some (.int .i64 x3) := cell_of_row w3 g7 3 _ _ (0, 0) h8
          have h7s : g7 < w3.heap.size := (Array.getElem?_eq_some_iff.1 h8).1
          clear hE h7 h8 RD E2 k6 hq1
          go_wp2
          go_roundw
          case rel => exact ⟨i + 1, by omega, by go_num, Lib.hid ((ER.out.trans E3.out).alloc _)⟩
          case measure => simp [intOf]; omega
        | false =>
          obtain ⟨rfl, rfl, rfl, rfl⟩ := hz0 rfl
          go_wp2_with fail
          obtain ⟨g7, hg7⟩ : ∃ g7, w1.heap.size = g7 := ⟨_, rfl⟩
          obtain ⟨w2, hw2⟩ : ∃ w2, w1.alloc (.cells #[.int .i64 0, .int .i64 0, .int .i64 0, .int .i64 0] 23) = w2 := ⟨_, rfl⟩
          have E2 : Hid (Ext wr w2) := Lib.hid (by rw [← hw2]; exact E1.out.alloc _)
          have h7 : w2.heap[g7]? = some (.cells #[.int .i64 0, .int .i64 0, .int .i64 0, .int .i64 0] 23 (0, 0)) := by rw [← hw2, ← hg7]; exact heap_alloc_new _ _
          rw [hw2, hg7]
          clear hw2 hg7 E1
          refine (RD.out w2 E2.out).mono ?_
          rintro e w3 ⟨rfl, hE⟩
          have E3 := Lib.hid (E2.out.trans hE)
          have h8 := hE.heapAt h7
          have n0 : w3.cell? ⟨g7, 0, none⟩ = some (.int .i64 0) := cell_of_row w3 g7 0 _ _ (0, 0) h8
          have n1 : w3.cell? ⟨g7, 1, none⟩ = some (.int .i64 0) := cell_of_row w3 g7 1 _ _ (0, 0) h8
          have n2 : w3.cell? ⟨g7, 2, none⟩ = some (.int .i64 0) := cell_of_row w3 g7 2 _ _ (0, 0) h8
          have n3 : w3.cell? ⟨g7, 3, none⟩ = some (.int .i64 0) := cell_of_row w3 g7 3 _ _ (0, 0) h8
          have h7s : g7 < w3.heap.size := (Array.getElem?_eq_some_iff.1 h8).1
          clear hE h7 h8 RD E2 k6 hq1
          go_wp2
          go_roundw
          case rel => exact ⟨i + 1, by omega, by go_num, Lib.hid ((ER.out.trans E3.out).alloc _)⟩
          case measure => simp [intOf]; omega
      · have hlt' : ¬ (i : Int) < 2 := by omega
        have EZ := Lib.hid (EWG.out.trans ER.out)
        go_wp2_with fail
        refine (AW.out _).mono ?_
        rintro e w9 ⟨rfl, hE⟩
        have E9 := Lib.hid (EZ.out.trans hE)
        clear hE
        go_wp2
        go_ret
        exact ⟨rfl, E9.out⟩

end Go.Proofs.Ytbpdjekibcbaaaa
