import Derived.Test.YtakebbphielbfaaDoorQCk
namespace Go.Proofs.YtakebbphielbfaaDoor
open Go.RowKit
set_option linter.unusedVariables false
set_option linter.unusedSimpArgs false
set_option maxRecDepth 100000
set_option maxHeartbeats 6400000

theorem needL_le (k : Int) : needL k ≤ 3 := by
  unfold needL
  split
  · omega
  · split
    · omega
    · split <;> omega

def ptsOf (s : Sg) (m : Nat) : List Pt := [s.a, s.b, s.c].take m
theorem ptsOf_len (s : Sg) {m : Nat} (h : m ≤ 3) : (ptsOf s m).length = m := by unfold ptsOf; simp; omega

theorem seg_pts {w : World} {q m : Nat} {s : Sg} (hq : w.heap[q]? = some (.cells (sgA s) 42 (0, 0))) (hs : sgR.ok s) (hm : m ≤ 3) : Sl ptR w (.slice (some ⟨q, 1, none⟩) m 3) (ptsOf s m) := by
  obtain ⟨_, ha, hb, hc⟩ := hs
  have hl := ptsOf_len s hm
  refine ⟨_, 3, by rw [hl], by omega, by omega, (fun h => by cases h), fun i => ?_, fun _ => ⟨q, 1, rfl, heap_lt hq, fun i hi j hj => ?_⟩⟩
  · unfold ptsOf
    rcases (show m = 0 ∨ m = 1 ∨ m = 2 ∨ m = 3 by omega) with rfl | rfl | rfl | rfl <;> rcases i with _ | _ | _ | i <;> (first | exact ha | exact hb | exact hc | exact ptR.nok)
  · rw [heap_cell hq]
    rw [hl] at hi
    have hj2 : j < 2 := hj
    unfold ptsOf
    rcases (show m = 1 ∨ m = 2 ∨ m = 3 by omega) with rfl | rfl | rfl <;> rcases i with _ | _ | _ | i <;> rcases j with _ | _ | j <;> (first | omega | rfl)

theorem points_any (q : Nat) (s : Sg) (w : World) (hq : w.heap[q]? = some (.cells (sgA s) 42 (0, 0))) (hI : IV w) (hk : 1 ≤ s.k ∧ s.k ≤ 5) :
    Calls Tryd.prog 28 #[.pointer (some ⟨q, 0, none⟩)] w fun e w' => e = .returned (.slice (some ⟨q, 1, none⟩) (needL s.k) 3) ∧ Ext w w' := by
  have ql := heap_lt hq
  have d0 : ∀ g, (w.ext g).cell? ⟨q, 0, none⟩ = some (.int .i64 s.k) := fun g => (cellE g ql).trans ((heap_cell hq 0).trans rfl)
  have ND := Lib.hid (fun wx (h : Ext w wx) => need_any s.k wx (hI.ext h) hk)
  have hm := needL_le s.k
  obtain ⟨m, hM⟩ : ∃ m, needL s.k = m := ⟨_, rfl⟩
  rw [hM] at ND hm ⊢
  have ND2 : Hid (∀ g, Calls Tryd.prog 22 #[.int .i64 s.k] (w.ext g) fun e w' => e = .returned (.int .i64 (m : Int)) ∧ Ext (w.ext g) w') := Lib.hid (fun g => ND.out _ ⟨g, rfl⟩)
  obtain ⟨k, hk2⟩ : ∃ k, s.k = k := ⟨_, rfl⟩
  rw [hk2] at d0 ND2
  have hm' : (m : Int) ≤ 3 := by omega
  clear hq hI hk hM ND hk2
  go_enter Tryd.func28, Tryd.ntmps28
  go_wp2_with fail
  refine region_quiet (by kernel_rfl) (by kernel_rfl) ?_
  iterate 10 (go_big_quiet_step (exact calls_ext (ND2.out _)))
  refine wpQuiet_nil ?_
  intro w1 hE1
  go_wp2
  go_ret
  exact ⟨rfl, hE1⟩

theorem roomTo_any (s : Sg) {m : Nat} (h : m ≤ 3) : roomTo s m = !anyOut (ptsOf s m) := by
  obtain ⟨k, a, b, c⟩ := s
  rcases (show m = 0 ∨ m = 1 ∨ m = 2 ∨ m = 3 by omega) with rfl | rfl | rfl | rfl
  · rfl
  · simp [roomTo, anyOut, ptsOf]
  · simp [roomTo, anyOut, ptsOf]
  · by_cases h1 : inP a <;> by_cases h2 : inP b <;> by_cases h3 : inP c <;> simp [roomTo, anyOut, ptsOf, h1, h2, h3]

theorem idx3_0 (x0 y0 x1 y1 x2 y2 : Int) (w : World) : (Instr.index 40 (.agg #[.int .i64 x0, .int .i64 y0, .int .i64 x1, .int .i64 y1, .int .i64 x2, .int .i64 y2]) (.int .i64 0)).run Tryd.prog w = .ok (.agg #[.int .i64 x0, .int .i64 y0]) w := by kernel_rfl
theorem idx3_1 (x0 y0 x1 y1 x2 y2 : Int) (w : World) : (Instr.index 40 (.agg #[.int .i64 x0, .int .i64 y0, .int .i64 x1, .int .i64 y1, .int .i64 x2, .int .i64 y2]) (.int .i64 1)).run Tryd.prog w = .ok (.agg #[.int .i64 x1, .int .i64 y1]) w := by kernel_rfl
theorem idx3_2 (x0 y0 x1 y1 x2 y2 : Int) (w : World) : (Instr.index 40 (.agg #[.int .i64 x0, .int .i64 y0, .int .i64 x1, .int .i64 y1, .int .i64 x2, .int .i64 y2]) (.int .i64 2)).run Tryd.prog w = .ok (.agg #[.int .i64 x2, .int .i64 y2]) w := by kernel_rfl
attribute [go_sem] idx3_0 idx3_1 idx3_2

theorem check_any (A : Option Addr) (n c : Nat) (l : List Sg) (w : World) (hS : Sl sgR w (.slice A n c) l) (hI : IV w) (hn : n ≤ 4096) :
    Calls Tryd.prog 21 #[.slice A n c] w fun e w' => e = .returned (.int .i64 (checkL false l)) ∧ Ext w w' := by
  have HN := Lib.hid hS.len
  have S := Lib.hid hS
  have HI := Lib.hid hI
  obtain ⟨T, hT⟩ : ∃ T, checkL false l = T := ⟨_, rfl⟩
  rw [hT]
  have HT := Lib.hid hT
  have hn' : ¬ 4096 < (n : Int) := by omega
  clear hS hI hT
  go_enter Tryd.func21, Tryd.ntmps21
  go_wp2
  go_loopw [3, 13] (fun t3 t13 wr => ∃ (i : Nat) (o : Bool), i ≤ n ∧ t3 = .bool o ∧ t13 = .int .i64 (i : Int) ∧ Hid (checkL o (l.drop i) = T ∧ Ext w wr)) (fun _ t13 _ => n - (intOf t13).toNat)
  case atStart => exact ⟨0, false, by omega, rfl, rfl, Lib.hid ⟨HT.out, Ext.refl _⟩⟩
  case round =>
    obtain ⟨i, o, hi, rfl, rfl, ST⟩ := hrel
    by_cases hlt : i < n
    · have hlt' : (i : Int) < (n : Int) := by omega
      obtain ⟨b, off, rfl, hb, hok, hc⟩ := (S.out.ext ST.out.2).at hlt
      obtain ⟨s, hs⟩ : ∃ s, l.getD i sgR.no = s := ⟨_, rfl⟩
      rw [hs] at hc hok
      have CK : Hid ((if check1 o s ≠ 0 then check1 o s else checkL (decide (s.k ≠ 5)) (l.drop (i + 1))) = T) := Lib.hid (by
        have h1 := ST.out.1
        rw [List.drop_eq_getElem_cons (by rw [← HN.out]; exact hlt)] at h1
        have e : l[i]'(by rw [← HN.out]; exact hlt) = s := by rw [← hs, List.getD_eq_getElem?_getD, List.getElem?_eq_getElem (by rw [← HN.out]; exact hlt)]; rfl
        rw [e] at h1
        exact h1)
      obtain ⟨⟨k, ⟨x0, y0⟩, ⟨x1, y1⟩, ⟨x2, y2⟩⟩, hs2⟩ : ∃ s', s = s' := ⟨_, rfl⟩
      subst hs2
      have g0 : wr.cell? ⟨b, off + i * 7, none⟩ = some (.int .i64 k) := hc 0 (by decide)
      have g1 : wr.cell? ⟨b, off + (i * 7 + 1), none⟩ = some (.int .i64 x0) := hc 1 (by decide)
      have g2 : wr.cell? ⟨b, off + (i * 7 + 2), none⟩ = some (.int .i64 y0) := hc 2 (by decide)
      have g3 : wr.cell? ⟨b, off + (i * 7 + 3), none⟩ = some (.int .i64 x1) := hc 3 (by decide)
      have g4 : wr.cell? ⟨b, off + (i * 7 + 4), none⟩ = some (.int .i64 y1) := hc 4 (by decide)
      have g5 : wr.cell? ⟨b, off + (i * 7 + 5), none⟩ = some (.int .i64 x2) := hc 5 (by decide)
      have g6 : wr.cell? ⟨b, off + (i * 7 + 6), none⟩ = some (.int .i64 y2) := hc 6 (by decide)
      obtain ⟨w3, hw3⟩ : ∃ w3, wr.alloc (.cells #[.int .i64 k, .int .i64 x0, .int .i64 y0, .int .i64 x1, .int .i64 y1, .int .i64 x2, .int .i64 y2] 42) = w3 := ⟨_, rfl⟩
      obtain ⟨q, hq⟩ : ∃ q, wr.heap.size = q := ⟨_, rfl⟩
      have hqb : w3.heap[q]? = some (.cells (sgA ⟨k, (x0, y0), (x1, y1), (x2, y2)⟩) 42 (0, 0)) := by rw [← hw3, ← hq]; exact heap_alloc_new wr _
      have E3 : Hid (Ext w w3) := Lib.hid (by rw [← hw3]; exact ST.out.2.trans ((Ext.refl _).alloc _))
      have m0 : w3.cell? ⟨q, 0, none⟩ = some (.int .i64 k) := (heap_cell hqb 0).trans rfl
      have m1 : w3.cell? ⟨q, 1, none⟩ = some (.int .i64 x0) := (heap_cell hqb 1).trans rfl
      have m2 : w3.cell? ⟨q, 2, none⟩ = some (.int .i64 y0) := (heap_cell hqb 2).trans rfl
      have m3 : w3.cell? ⟨q, 3, none⟩ = some (.int .i64 x1) := (heap_cell hqb 3).trans rfl
      have m4 : w3.cell? ⟨q, 4, none⟩ = some (.int .i64 y1) := (heap_cell hqb 4).trans rfl
      have m5 : w3.cell? ⟨q, 5, none⟩ = some (.int .i64 x2) := (heap_cell hqb 5).trans rfl
      have m6 : w3.cell? ⟨q, 6, none⟩ = some (.int .i64 y2) := (heap_cell hqb 6).trans rfl
      have ml := heap_lt hqb
      have HQ := Lib.hid hqb
      have OKS := Lib.hid hok
      clear hc hs ST hqb hok
      by_cases hbad : k < 1 ∨ 5 < k ∨ (o = false ∧ k ≠ 1)
      · have TT : Hid (T = 33) := Lib.hid (by
          have : check1 o ⟨k, (x0, y0), (x1, y1), (x2, y2)⟩ = 33 := by unfold check1; rw [if_pos hbad]
          rw [← CK.out, this]; rfl)
        clear CK
        by_cases hk1 : k < 1
        · go_wp2
          go_ret
          exact ⟨by rw [TT.out] <;> rfl, E3.out⟩
        · by_cases hk5 : 5 < k
          · go_wp2
            go_ret
            exact ⟨by rw [TT.out] <;> rfl, E3.out⟩
          · obtain ⟨rfl, hkn⟩ : o = false ∧ k ≠ 1 := by
              rcases hbad with h | h | h
              · exact absurd h hk1
              · exact absurd h hk5
              · exact h
            have hkn' : (k == 1) = false := by simpa using hkn
            go_wp2
            go_ret
            exact ⟨by rw [TT.out] <;> rfl, E3.out⟩
      · have hk1 : ¬ k < 1 := fun h => hbad (.inl h)
        have hk5 : ¬ 5 < k := fun h => hbad (.inr (.inl h))
        have hok1 : o = true ∨ k = 1 := by
          by_cases h : k = 1
          · exact .inr h
          · refine .inl ?_
            cases o with
            | true => rfl
            | false => exact absurd (.inr (.inr ⟨rfl, h⟩)) hbad
        have CK2 : Hid (check1 o ⟨k, (x0, y0), (x1, y1), (x2, y2)⟩ = if zeroFrom ⟨k, (x0, y0), (x1, y1), (x2, y2)⟩ (needL k) = false then 33 else if roomTo ⟨k, (x0, y0), (x1, y1), (x2, y2)⟩ (needL k) = false then 30 else 0) := Lib.hid (by
          unfold check1; rw [if_neg hbad])
        have ND := Lib.hid (fun wx (h : Ext w3 wx) => need_any k wx ((HI.out.ext E3.out).ext h) (by omega))
        obtain ⟨m, hm⟩ : ∃ m, needL k = m := ⟨_, rfl⟩
        have HM := Lib.hid hm
        have hm3 : m ≤ 3 := by rw [← hm]; exact needL_le k
        rw [hm] at ND CK2
        clear hbad hm
        cases o with
        | true =>
          clear hok1
          go_wp2_with fail
          go_loopw [36] (fun t36 wr => ∃ j : Nat, j ≤ 3 ∧ t36 = .int .i64 (j : Int) ∧ Hid ((∀ i, i < j → m ≤ i → [(x0, y0), (x1, y1), (x2, y2)].getD i (0, 0) = ((0, 0) : Pt)) ∧ Ext w3 wr)) (fun t36 _ => 3 - (intOf t36).toNat)
          case atStart => exact ⟨0, by omega, rfl, Lib.hid ⟨fun i hi => by omega, Ext.refl _⟩⟩
          case round =>
            obtain ⟨j, hj, rfl, ST2⟩ := hrel
            have z0 : wr.cell? ⟨q, 0, none⟩ = some (.int .i64 k) := (ST2.out.2.cell ml).trans m0
            have zl : q < wr.heap.size := Nat.lt_of_lt_of_le ml ST2.out.2.size
            by_cases hj3 : j = 3
            · subst hj3
              have ZF : Hid (zeroFrom ⟨k, (x0, y0), (x1, y1), (x2, y2)⟩ m = true) := Lib.hid (decide_eq_true ⟨fun h => ST2.out.1 0 (by omega) h, fun h => ST2.out.1 1 (by omega) h, fun h => ST2.out.1 2 (by omega) h⟩)
              have E2 : Hid (Ext w wr) := Lib.hid (E3.out.trans ST2.out.2)
              have hq2 := ST2.out.2.heapAt HQ.out
              have PO := Lib.hid (points_any q ⟨k, (x0, y0), (x1, y1), (x2, y2)⟩ wr hq2 (HI.out.ext E2.out) (by dsimp only; omega))
              have CN : Hid (∀ wx, Ext wr wx → Calls Tryd.prog 27 #[.slice (some ⟨q, 1, none⟩) m 3, .func (.func 29) #[] #[]] wx fun e w' => e = .returned (.bool (anyOut (ptsOf ⟨k, (x0, y0), (x1, y1), (x2, y2)⟩ m))) ∧ Ext wx w') := Lib.hid (fun wx hx => contains_any _ _ _ _ wx (seg_pts (hx.heapAt hq2) OKS.out hm3) (by omega))
              have CK3 : Hid (check1 true ⟨k, (x0, y0), (x1, y1), (x2, y2)⟩ = if anyOut (ptsOf ⟨k, (x0, y0), (x1, y1), (x2, y2)⟩ m) = true then 30 else 0) := Lib.hid (by rw [CK2.out, ZF.out, if_neg (by simp), roomTo_any _ hm3]; cases anyOut (ptsOf ⟨k, (x0, y0), (x1, y1), (x2, y2)⟩ m) <;> rfl)
              have HK0 : Hid (∀ wx, Ext wr wx → wx.cell? ⟨q, 0, none⟩ = some (.int .i64 k) ∧ q < wx.heap.size) := Lib.hid (fun wx hx => ⟨(hx.cell zl).trans z0, Nat.lt_of_lt_of_le zl hx.size⟩)
              dsimp only at PO
              rw [HM.out] at PO
              obtain ⟨ao, hao⟩ : ∃ ao, anyOut (ptsOf ⟨k, (x0, y0), (x1, y1), (x2, y2)⟩ m) = ao := ⟨_, rfl⟩
              rw [hao] at CN CK3
              clear hao ST2 hq2 CK2 ZF
              go_wp2_with fail
              refine PO.out.mono ?_
              rintro e w5 ⟨rfl, hE5⟩
              have CN5 := Lib.hid (CN.out w5 hE5)
              have E5 := Lib.hid hE5
              clear hE5 PO CN
              go_wp2_with fail
              refine CN5.out.mono ?_
              rintro e w6 ⟨rfl, hE6⟩
              have E6 := Lib.hid (E2.out.trans (E5.out.trans hE6))
              obtain ⟨k0, k1⟩ := HK0.out w6 (E5.out.trans hE6)
              clear hE6 CN5 E5 z0 zl HK0 E2
              cases ao with
              | true =>
                have TT : Hid (T = 30) := Lib.hid (by rw [← CK.out, CK3.out]; rfl)
                go_wp2
                go_ret
                exact ⟨by rw [TT.out] <;> rfl, E6.out⟩
              | false =>
                have TT : Hid (checkL (decide (k ≠ 5)) (l.drop (i + 1)) = T) := Lib.hid (by rw [← CK.out, CK3.out]; rfl)
                by_cases h5 : k = 5
                · have h5' : (k == 5) = true := by simpa using h5
                  have NX : Hid (checkL false (l.drop (i + 1)) = T ∧ Ext w w6) := Lib.hid ⟨by rw [← TT.out, h5]; rfl, E6.out⟩
                  go_wp2
                  go_roundw
                  case rel => exact ⟨i + 1, false, by omega, rfl, by go_num, NX⟩
                  case measure => simp [intOf]; omega
                · have h5' : (k == 5) = false := by simpa using h5
                  have NX : Hid (checkL true (l.drop (i + 1)) = T ∧ Ext w w6) := Lib.hid ⟨by rw [← TT.out, decide_eq_true h5], E6.out⟩
                  go_wp2
                  go_roundw
                  case rel => exact ⟨i + 1, true, by omega, by rw [show (k != 5) = true by simpa using h5], by go_num, NX⟩
                  case measure => simp [intOf]; omega
            · have NDj := Lib.hid (fun wx (h : Ext wr wx) => ND.out wx (ST2.out.2.trans h))
              rcases (show j = 0 ∨ j = 1 ∨ j = 2 by omega) with rfl | rfl | rfl
              · by_cases hmj : m ≤ 0
                · have hmj' : (m : Int) ≤ 0 := by omega
                  by_cases hzx : x0 = 0
                  · by_cases hzy : y0 = 0
                    · have NX : Hid (∀ i, i < 1 → m ≤ i → [(x0, y0), (x1, y1), (x2, y2)].getD i (0, 0) = ((0, 0) : Pt)) := Lib.hid (fun i hi hm => by
                        by_cases e : i = 0
                        · subst e; simp [hzx, hzy]
                        · exact ST2.out.1 i (by omega) hm)
                      have ex : (x0 == 0) = true := by simpa using hzx
                      have ey : (y0 == 0) = true := by simpa using hzy
                      clear hzx hzy
                      go_wp2_with fail
                      refine (NDj.out _ ((Ext.refl _).alloc _)).mono ?_
                      rintro e w5 ⟨rfl, hE5⟩
                      have n0 : w5.cell? ⟨wr.heap.size, 0, none⟩ = some (.int .i64 x0) := by rw [hE5.cell (by simp [go_sem])]; simp [go_sem]
                      have n1 : w5.cell? ⟨wr.heap.size, 1, none⟩ = some (.int .i64 y0) := by rw [hE5.cell (by simp [go_sem])]; simp [go_sem]
                      have n2 : wr.heap.size < w5.heap.size := Nat.lt_of_lt_of_le (by simp [go_sem]) hE5.size
                      have NX5 : Hid ((∀ i, i < 1 → m ≤ i → [(x0, y0), (x1, y1), (x2, y2)].getD i (0, 0) = ((0, 0) : Pt)) ∧ Ext w3 w5) := Lib.hid ⟨NX.out, ST2.out.2.trans (((Ext.refl _).alloc _).trans hE5)⟩
                      clear hE5 ST2 NX
                      go_wp2
                      go_roundw
                      case rel => exact ⟨1, by omega, by go_num, NX5⟩
                      case measure => simp [intOf]
                    · have ZF : zeroFrom ⟨k, (x0, y0), (x1, y1), (x2, y2)⟩ m = false := decide_eq_false (fun h => by have := h.1 hmj; simp at this; exact hzy this.2)
                      have TT : Hid (T = 33) := Lib.hid (by rw [← CK.out, CK2.out, ZF]; rfl)
                      have ex : (x0 == 0) = true := by simpa using hzx
                      have ey : (y0 == 0) = false := by simpa using hzy
                      clear hzx hzy ZF
                      go_wp2_with fail
                      refine (NDj.out _ ((Ext.refl _).alloc _)).mono ?_
                      rintro e w5 ⟨rfl, hE5⟩
                      have n0 : w5.cell? ⟨wr.heap.size, 0, none⟩ = some (.int .i64 x0) := by rw [hE5.cell (by simp [go_sem])]; simp [go_sem]
                      have n1 : w5.cell? ⟨wr.heap.size, 1, none⟩ = some (.int .i64 y0) := by rw [hE5.cell (by simp [go_sem])]; simp [go_sem]
                      have n2 : wr.heap.size < w5.heap.size := Nat.lt_of_lt_of_le (by simp [go_sem]) hE5.size
                      have E5 : Hid (Ext w w5) := Lib.hid ((E3.out.trans ST2.out.2).trans (((Ext.refl _).alloc _).trans hE5))
                      clear hE5 ST2
                      go_wp2
                      go_ret
                      exact ⟨by rw [TT.out] <;> rfl, E5.out⟩
                  · have ZF : zeroFrom ⟨k, (x0, y0), (x1, y1), (x2, y2)⟩ m = false := decide_eq_false (fun h => by have := h.1 hmj; simp at this; exact hzx this.1)
                    have TT : Hid (T = 33) := Lib.hid (by rw [← CK.out, CK2.out, ZF]; rfl)
                    have ex : (x0 == 0) = false := by simpa using hzx
                    clear hzx ZF
                    go_wp2_with fail
                    refine (NDj.out _ ((Ext.refl _).alloc _)).mono ?_
                    rintro e w5 ⟨rfl, hE5⟩
                    have n0 : w5.cell? ⟨wr.heap.size, 0, none⟩ = some (.int .i64 x0) := by rw [hE5.cell (by simp [go_sem])]; simp [go_sem]
                    have n1 : w5.cell? ⟨wr.heap.size, 1, none⟩ = some (.int .i64 y0) := by rw [hE5.cell (by simp [go_sem])]; simp [go_sem]
                    have n2 : wr.heap.size < w5.heap.size := Nat.lt_of_lt_of_le (by simp [go_sem]) hE5.size
                    have E5 : Hid (Ext w w5) := Lib.hid ((E3.out.trans ST2.out.2).trans (((Ext.refl _).alloc _).trans hE5))
                    clear hE5 ST2
                    go_wp2
                    go_ret
                    exact ⟨by rw [TT.out] <;> rfl, E5.out⟩
                · have hmj' : ¬ (m : Int) ≤ 0 := by omega
                  have NX : Hid (∀ i, i < 1 → m ≤ i → [(x0, y0), (x1, y1), (x2, y2)].getD i (0, 0) = ((0, 0) : Pt)) := Lib.hid (fun i hi hm => by
                    by_cases e : i = 0
                    · subst e; exact absurd hm hmj
                    · exact ST2.out.1 i (by omega) hm)
                  go_wp2_with fail
                  refine (NDj.out _ ((Ext.refl _).alloc _)).mono ?_
                  rintro e w5 ⟨rfl, hE5⟩
                  have NX5 : Hid ((∀ i, i < 1 → m ≤ i → [(x0, y0), (x1, y1), (x2, y2)].getD i (0, 0) = ((0, 0) : Pt)) ∧ Ext w3 w5) := Lib.hid ⟨NX.out, ST2.out.2.trans (((Ext.refl _).alloc _).trans hE5)⟩
                  clear hE5 ST2 NX
                  go_wp2
                  go_roundw
                  case rel => exact ⟨1, by omega, by go_num, NX5⟩
                  case measure => simp [intOf]
              · by_cases hmj : m ≤ 1
                · have hmj' : (m : Int) ≤ 1 := by omega
                  by_cases hzx : x1 = 0
                  · by_cases hzy : y1 = 0
                    · have NX : Hid (∀ i, i < 2 → m ≤ i → [(x0, y0), (x1, y1), (x2, y2)].getD i (0, 0) = ((0, 0) : Pt)) := Lib.hid (fun i hi hm => by
                        by_cases e : i = 1
                        · subst e; simp [hzx, hzy]
                        · exact ST2.out.1 i (by omega) hm)
                      have ex : (x1 == 0) = true := by simpa using hzx
                      have ey : (y1 == 0) = true := by simpa using hzy
                      clear hzx hzy
                      go_wp2_with fail
                      refine (NDj.out _ ((Ext.refl _).alloc _)).mono ?_
                      rintro e w5 ⟨rfl, hE5⟩
                      have n0 : w5.cell? ⟨wr.heap.size, 0, none⟩ = some (.int .i64 x1) := by rw [hE5.cell (by simp [go_sem])]; simp [go_sem]
                      have n1 : w5.cell? ⟨wr.heap.size, 1, none⟩ = some (.int .i64 y1) := by rw [hE5.cell (by simp [go_sem])]; simp [go_sem]
                      have n2 : wr.heap.size < w5.heap.size := Nat.lt_of_lt_of_le (by simp [go_sem]) hE5.size
                      have NX5 : Hid ((∀ i, i < 2 → m ≤ i → [(x0, y0), (x1, y1), (x2, y2)].getD i (0, 0) = ((0, 0) : Pt)) ∧ Ext w3 w5) := Lib.hid ⟨NX.out, ST2.out.2.trans (((Ext.refl _).alloc _).trans hE5)⟩
                      clear hE5 ST2 NX
                      go_wp2
                      go_roundw
                      case rel => exact ⟨2, by omega, by go_num, NX5⟩
                      case measure => simp [intOf]
                    · have ZF : zeroFrom ⟨k, (x0, y0), (x1, y1), (x2, y2)⟩ m = false := decide_eq_false (fun h => by have := h.2.1 hmj; simp at this; exact hzy this.2)
                      have TT : Hid (T = 33) := Lib.hid (by rw [← CK.out, CK2.out, ZF]; rfl)
                      have ex : (x1 == 0) = true := by simpa using hzx
                      have ey : (y1 == 0) = false := by simpa using hzy
                      clear hzx hzy ZF
                      go_wp2_with fail
                      refine (NDj.out _ ((Ext.refl _).alloc _)).mono ?_
                      rintro e w5 ⟨rfl, hE5⟩
                      have n0 : w5.cell? ⟨wr.heap.size, 0, none⟩ = some (.int .i64 x1) := by rw [hE5.cell (by simp [go_sem])]; simp [go_sem]
                      have n1 : w5.cell? ⟨wr.heap.size, 1, none⟩ = some (.int .i64 y1) := by rw [hE5.cell (by simp [go_sem])]; simp [go_sem]
                      have n2 : wr.heap.size < w5.heap.size := Nat.lt_of_lt_of_le (by simp [go_sem]) hE5.size
                      have E5 : Hid (Ext w w5) := Lib.hid ((E3.out.trans ST2.out.2).trans (((Ext.refl _).alloc _).trans hE5))
                      clear hE5 ST2
                      go_wp2
                      go_ret
                      exact ⟨by rw [TT.out] <;> rfl, E5.out⟩
                  · have ZF : zeroFrom ⟨k, (x0, y0), (x1, y1), (x2, y2)⟩ m = false := decide_eq_false (fun h => by have := h.2.1 hmj; simp at this; exact hzx this.1)
                    have TT : Hid (T = 33) := Lib.hid (by rw [← CK.out, CK2.out, ZF]; rfl)
                    have ex : (x1 == 0) = false := by simpa using hzx
                    clear hzx ZF
                    go_wp2_with fail
                    refine (NDj.out _ ((Ext.refl _).alloc _)).mono ?_
                    rintro e w5 ⟨rfl, hE5⟩
                    have n0 : w5.cell? ⟨wr.heap.size, 0, none⟩ = some (.int .i64 x1) := by rw [hE5.cell (by simp [go_sem])]; simp [go_sem]
                    have n1 : w5.cell? ⟨wr.heap.size, 1, none⟩ = some (.int .i64 y1) := by rw [hE5.cell (by simp [go_sem])]; simp [go_sem]
                    have n2 : wr.heap.size < w5.heap.size := Nat.lt_of_lt_of_le (by simp [go_sem]) hE5.size
                    have E5 : Hid (Ext w w5) := Lib.hid ((E3.out.trans ST2.out.2).trans (((Ext.refl _).alloc _).trans hE5))
                    clear hE5 ST2
                    go_wp2
                    go_ret
                    exact ⟨by rw [TT.out] <;> rfl, E5.out⟩
                · have hmj' : ¬ (m : Int) ≤ 1 := by omega
                  have NX : Hid (∀ i, i < 2 → m ≤ i → [(x0, y0), (x1, y1), (x2, y2)].getD i (0, 0) = ((0, 0) : Pt)) := Lib.hid (fun i hi hm => by
                    by_cases e : i = 1
                    · subst e; exact absurd hm hmj
                    · exact ST2.out.1 i (by omega) hm)
                  go_wp2_with fail
                  refine (NDj.out _ ((Ext.refl _).alloc _)).mono ?_
                  rintro e w5 ⟨rfl, hE5⟩
                  have NX5 : Hid ((∀ i, i < 2 → m ≤ i → [(x0, y0), (x1, y1), (x2, y2)].getD i (0, 0) = ((0, 0) : Pt)) ∧ Ext w3 w5) := Lib.hid ⟨NX.out, ST2.out.2.trans (((Ext.refl _).alloc _).trans hE5)⟩
                  clear hE5 ST2 NX
                  go_wp2
                  go_roundw
                  case rel => exact ⟨2, by omega, by go_num, NX5⟩
                  case measure => simp [intOf]
              · by_cases hmj : m ≤ 2
                · have hmj' : (m : Int) ≤ 2 := by omega
                  by_cases hzx : x2 = 0
                  · by_cases hzy : y2 = 0
                    · have NX : Hid (∀ i, i < 3 → m ≤ i → [(x0, y0), (x1, y1), (x2, y2)].getD i (0, 0) = ((0, 0) : Pt)) := Lib.hid (fun i hi hm => by
                        by_cases e : i = 2
                        · subst e; simp [hzx, hzy]
                        · exact ST2.out.1 i (by omega) hm)
                      have ex : (x2 == 0) = true := by simpa using hzx
                      have ey : (y2 == 0) = true := by simpa using hzy
                      clear hzx hzy
                      go_wp2_with fail
                      refine (NDj.out _ ((Ext.refl _).alloc _)).mono ?_
                      rintro e w5 ⟨rfl, hE5⟩
                      have n0 : w5.cell? ⟨wr.heap.size, 0, none⟩ = some (.int .i64 x2) := by rw [hE5.cell (by simp [go_sem])]; simp [go_sem]
                      have n1 : w5.cell? ⟨wr.heap.size, 1, none⟩ = some (.int .i64 y2) := by rw [hE5.cell (by simp [go_sem])]; simp [go_sem]
                      have n2 : wr.heap.size < w5.heap.size := Nat.lt_of_lt_of_le (by simp [go_sem]) hE5.size
                      have NX5 : Hid ((∀ i, i < 3 → m ≤ i → [(x0, y0), (x1, y1), (x2, y2)].getD i (0, 0) = ((0, 0) : Pt)) ∧ Ext w3 w5) := Lib.hid ⟨NX.out, ST2.out.2.trans (((Ext.refl _).alloc _).trans hE5)⟩
                      clear hE5 ST2 NX
                      go_wp2
                      go_roundw
                      case rel => exact ⟨3, by omega, by go_num, NX5⟩
                      case measure => simp [intOf]
                    · have ZF : zeroFrom ⟨k, (x0, y0), (x1, y1), (x2, y2)⟩ m = false := decide_eq_false (fun h => by have := h.2.2 hmj; simp at this; exact hzy this.2)
                      have TT : Hid (T = 33) := Lib.hid (by rw [← CK.out, CK2.out, ZF]; rfl)
                      have ex : (x2 == 0) = true := by simpa using hzx
                      have ey : (y2 == 0) = false := by simpa using hzy
                      clear hzx hzy ZF
                      go_wp2_with fail
                      refine (NDj.out _ ((Ext.refl _).alloc _)).mono ?_
                      rintro e w5 ⟨rfl, hE5⟩
                      have n0 : w5.cell? ⟨wr.heap.size, 0, none⟩ = some (.int .i64 x2) := by rw [hE5.cell (by simp [go_sem])]; simp [go_sem]
                      have n1 : w5.cell? ⟨wr.heap.size, 1, none⟩ = some (.int .i64 y2) := by rw [hE5.cell (by simp [go_sem])]; simp [go_sem]
                      have n2 : wr.heap.size < w5.heap.size := Nat.lt_of_lt_of_le (by simp [go_sem]) hE5.size
                      have E5 : Hid (Ext w w5) := Lib.hid ((E3.out.trans ST2.out.2).trans (((Ext.refl _).alloc _).trans hE5))
                      clear hE5 ST2
                      go_wp2
                      go_ret
                      exact ⟨by rw [TT.out] <;> rfl, E5.out⟩
                  · have ZF : zeroFrom ⟨k, (x0, y0), (x1, y1), (x2, y2)⟩ m = false := decide_eq_false (fun h => by have := h.2.2 hmj; simp at this; exact hzx this.1)
                    have TT : Hid (T = 33) := Lib.hid (by rw [← CK.out, CK2.out, ZF]; rfl)
                    have ex : (x2 == 0) = false := by simpa using hzx
                    clear hzx ZF
                    go_wp2_with fail
                    refine (NDj.out _ ((Ext.refl _).alloc _)).mono ?_
                    rintro e w5 ⟨rfl, hE5⟩
                    have n0 : w5.cell? ⟨wr.heap.size, 0, none⟩ = some (.int .i64 x2) := by rw [hE5.cell (by simp [go_sem])]; simp [go_sem]
                    have n1 : w5.cell? ⟨wr.heap.size, 1, none⟩ = some (.int .i64 y2) := by rw [hE5.cell (by simp [go_sem])]; simp [go_sem]
                    have n2 : wr.heap.size < w5.heap.size := Nat.lt_of_lt_of_le (by simp [go_sem]) hE5.size
                    have E5 : Hid (Ext w w5) := Lib.hid ((E3.out.trans ST2.out.2).trans (((Ext.refl _).alloc _).trans hE5))
                    clear hE5 ST2
                    go_wp2
                    go_ret
                    exact ⟨by rw [TT.out] <;> rfl, E5.out⟩
                · have hmj' : ¬ (m : Int) ≤ 2 := by omega
                  have NX : Hid (∀ i, i < 3 → m ≤ i → [(x0, y0), (x1, y1), (x2, y2)].getD i (0, 0) = ((0, 0) : Pt)) := Lib.hid (fun i hi hm => by
                    by_cases e : i = 2
                    · subst e; exact absurd hm hmj
                    · exact ST2.out.1 i (by omega) hm)
                  go_wp2_with fail
                  refine (NDj.out _ ((Ext.refl _).alloc _)).mono ?_
                  rintro e w5 ⟨rfl, hE5⟩
                  have NX5 : Hid ((∀ i, i < 3 → m ≤ i → [(x0, y0), (x1, y1), (x2, y2)].getD i (0, 0) = ((0, 0) : Pt)) ∧ Ext w3 w5) := Lib.hid ⟨NX.out, ST2.out.2.trans (((Ext.refl _).alloc _).trans hE5)⟩
                  clear hE5 ST2 NX
                  go_wp2
                  go_roundw
                  case rel => exact ⟨3, by omega, by go_num, NX5⟩
                  case measure => simp [intOf]
        | false =>
          obtain rfl : k = 1 := by
            rcases hok1 with h | h
            · cases h
            · exact h
          clear hok1
          go_wp2_with fail
          go_loopw [36] (fun t36 wr => ∃ j : Nat, j ≤ 3 ∧ t36 = .int .i64 (j : Int) ∧ Hid ((∀ i, i < j → m ≤ i → [(x0, y0), (x1, y1), (x2, y2)].getD i (0, 0) = ((0, 0) : Pt)) ∧ Ext w3 wr)) (fun t36 _ => 3 - (intOf t36).toNat)
          case atStart => exact ⟨0, by omega, rfl, Lib.hid ⟨fun i hi => by omega, Ext.refl _⟩⟩
          case round =>
            obtain ⟨j, hj, rfl, ST2⟩ := hrel
            have z0 : wr.cell? ⟨q, 0, none⟩ = some (.int .i64 1) := (ST2.out.2.cell ml).trans m0
            have zl : q < wr.heap.size := Nat.lt_of_lt_of_le ml ST2.out.2.size
            by_cases hj3 : j = 3
            · subst hj3
              have ZF : Hid (zeroFrom ⟨1, (x0, y0), (x1, y1), (x2, y2)⟩ m = true) := Lib.hid (decide_eq_true ⟨fun h => ST2.out.1 0 (by omega) h, fun h => ST2.out.1 1 (by omega) h, fun h => ST2.out.1 2 (by omega) h⟩)
              have E2 : Hid (Ext w wr) := Lib.hid (E3.out.trans ST2.out.2)
              have hq2 := ST2.out.2.heapAt HQ.out
              have PO := Lib.hid (points_any q ⟨1, (x0, y0), (x1, y1), (x2, y2)⟩ wr hq2 (HI.out.ext E2.out) (by dsimp only; omega))
              have CN : Hid (∀ wx, Ext wr wx → Calls Tryd.prog 27 #[.slice (some ⟨q, 1, none⟩) m 3, .func (.func 29) #[] #[]] wx fun e w' => e = .returned (.bool (anyOut (ptsOf ⟨1, (x0, y0), (x1, y1), (x2, y2)⟩ m))) ∧ Ext wx w') := Lib.hid (fun wx hx => contains_any _ _ _ _ wx (seg_pts (hx.heapAt hq2) OKS.out hm3) (by omega))
              have CK3 : Hid (check1 false ⟨1, (x0, y0), (x1, y1), (x2, y2)⟩ = if anyOut (ptsOf ⟨1, (x0, y0), (x1, y1), (x2, y2)⟩ m) = true then 30 else 0) := Lib.hid (by rw [CK2.out, ZF.out, if_neg (by simp), roomTo_any _ hm3]; cases anyOut (ptsOf ⟨1, (x0, y0), (x1, y1), (x2, y2)⟩ m) <;> rfl)
              have HK0 : Hid (∀ wx, Ext wr wx → wx.cell? ⟨q, 0, none⟩ = some (.int .i64 1) ∧ q < wx.heap.size) := Lib.hid (fun wx hx => ⟨(hx.cell zl).trans z0, Nat.lt_of_lt_of_le zl hx.size⟩)
              dsimp only at PO
              rw [HM.out] at PO
              obtain ⟨ao, hao⟩ : ∃ ao, anyOut (ptsOf ⟨1, (x0, y0), (x1, y1), (x2, y2)⟩ m) = ao := ⟨_, rfl⟩
              rw [hao] at CN CK3
              clear hao ST2 hq2 CK2 ZF
              go_wp2_with fail
              refine PO.out.mono ?_
              rintro e w5 ⟨rfl, hE5⟩
              have CN5 := Lib.hid (CN.out w5 hE5)
              have E5 := Lib.hid hE5
              clear hE5 PO CN
              go_wp2_with fail
              refine CN5.out.mono ?_
              rintro e w6 ⟨rfl, hE6⟩
              have E6 := Lib.hid (E2.out.trans (E5.out.trans hE6))
              obtain ⟨k0, k1⟩ := HK0.out w6 (E5.out.trans hE6)
              clear hE6 CN5 E5 z0 zl HK0 E2
              cases ao with
              | true =>
                have TT : Hid (T = 30) := Lib.hid (by rw [← CK.out, CK3.out]; rfl)
                go_wp2
                go_ret
                exact ⟨by rw [TT.out] <;> rfl, E6.out⟩
              | false =>
                have TT : Hid (checkL (decide ((1 : Int) ≠ 5)) (l.drop (i + 1)) = T) := Lib.hid (by rw [← CK.out, CK3.out]; rfl)
                have NX : Hid (checkL true (l.drop (i + 1)) = T ∧ Ext w w6) := Lib.hid ⟨by rw [← TT.out]; rfl, E6.out⟩
                go_wp2
                go_roundw
                case rel => exact ⟨i + 1, true, by omega, rfl, by go_num, NX⟩
                case measure => simp [intOf]; omega
            · have NDj := Lib.hid (fun wx (h : Ext wr wx) => ND.out wx (ST2.out.2.trans h))
              rcases (show j = 0 ∨ j = 1 ∨ j = 2 by omega) with rfl | rfl | rfl
              · by_cases hmj : m ≤ 0
                · have hmj' : (m : Int) ≤ 0 := by omega
                  by_cases hzx : x0 = 0
                  · by_cases hzy : y0 = 0
                    · have NX : Hid (∀ i, i < 1 → m ≤ i → [(x0, y0), (x1, y1), (x2, y2)].getD i (0, 0) = ((0, 0) : Pt)) := Lib.hid (fun i hi hm => by
                        by_cases e : i = 0
                        · subst e; simp [hzx, hzy]
                        · exact ST2.out.1 i (by omega) hm)
                      have ex : (x0 == 0) = true := by simpa using hzx
                      have ey : (y0 == 0) = true := by simpa using hzy
                      clear hzx hzy
                      go_wp2_with fail
                      refine (NDj.out _ ((Ext.refl _).alloc _)).mono ?_
                      rintro e w5 ⟨rfl, hE5⟩
                      have n0 : w5.cell? ⟨wr.heap.size, 0, none⟩ = some (.int .i64 x0) := by rw [hE5.cell (by simp [go_sem])]; simp [go_sem]
                      have n1 : w5.cell? ⟨wr.heap.size, 1, none⟩ = some (.int .i64 y0) := by rw [hE5.cell (by simp [go_sem])]; simp [go_sem]
                      have n2 : wr.heap.size < w5.heap.size := Nat.lt_of_lt_of_le (by simp [go_sem]) hE5.size
                      have NX5 : Hid ((∀ i, i < 1 → m ≤ i → [(x0, y0), (x1, y1), (x2, y2)].getD i (0, 0) = ((0, 0) : Pt)) ∧ Ext w3 w5) := Lib.hid ⟨NX.out, ST2.out.2.trans (((Ext.refl _).alloc _).trans hE5)⟩
                      clear hE5 ST2 NX
                      go_wp2
                      go_roundw
                      case rel => exact ⟨1, by omega, by go_num, NX5⟩
                      case measure => simp [intOf]
                    · have ZF : zeroFrom ⟨1, (x0, y0), (x1, y1), (x2, y2)⟩ m = false := decide_eq_false (fun h => by have := h.1 hmj; simp at this; exact hzy this.2)
                      have TT : Hid (T = 33) := Lib.hid (by rw [← CK.out, CK2.out, ZF]; rfl)
                      have ex : (x0 == 0) = true := by simpa using hzx
                      have ey : (y0 == 0) = false := by simpa using hzy
                      clear hzx hzy ZF
                      go_wp2_with fail
                      refine (NDj.out _ ((Ext.refl _).alloc _)).mono ?_
                      rintro e w5 ⟨rfl, hE5⟩
                      have n0 : w5.cell? ⟨wr.heap.size, 0, none⟩ = some (.int .i64 x0) := by rw [hE5.cell (by simp [go_sem])]; simp [go_sem]
                      have n1 : w5.cell? ⟨wr.heap.size, 1, none⟩ = some (.int .i64 y0) := by rw [hE5.cell (by simp [go_sem])]; simp [go_sem]
                      have n2 : wr.heap.size < w5.heap.size := Nat.lt_of_lt_of_le (by simp [go_sem]) hE5.size
                      have E5 : Hid (Ext w w5) := Lib.hid ((E3.out.trans ST2.out.2).trans (((Ext.refl _).alloc _).trans hE5))
                      clear hE5 ST2
                      go_wp2
                      go_ret
                      exact ⟨by rw [TT.out] <;> rfl, E5.out⟩
                  · have ZF : zeroFrom ⟨1, (x0, y0), (x1, y1), (x2, y2)⟩ m = false := decide_eq_false (fun h => by have := h.1 hmj; simp at this; exact hzx this.1)
                    have TT : Hid (T = 33) := Lib.hid (by rw [← CK.out, CK2.out, ZF]; rfl)
                    have ex : (x0 == 0) = false := by simpa using hzx
                    clear hzx ZF
                    go_wp2_with fail
                    refine (NDj.out _ ((Ext.refl _).alloc _)).mono ?_
                    rintro e w5 ⟨rfl, hE5⟩
                    have n0 : w5.cell? ⟨wr.heap.size, 0, none⟩ = some (.int .i64 x0) := by rw [hE5.cell (by simp [go_sem])]; simp [go_sem]
                    have n1 : w5.cell? ⟨wr.heap.size, 1, none⟩ = some (.int .i64 y0) := by rw [hE5.cell (by simp [go_sem])]; simp [go_sem]
                    have n2 : wr.heap.size < w5.heap.size := Nat.lt_of_lt_of_le (by simp [go_sem]) hE5.size
                    have E5 : Hid (Ext w w5) := Lib.hid ((E3.out.trans ST2.out.2).trans (((Ext.refl _).alloc _).trans hE5))
                    clear hE5 ST2
                    go_wp2
                    go_ret
                    exact ⟨by rw [TT.out] <;> rfl, E5.out⟩
                · have hmj' : ¬ (m : Int) ≤ 0 := by omega
                  have NX : Hid (∀ i, i < 1 → m ≤ i → [(x0, y0), (x1, y1), (x2, y2)].getD i (0, 0) = ((0, 0) : Pt)) := Lib.hid (fun i hi hm => by
                    by_cases e : i = 0
                    · subst e; exact absurd hm hmj
                    · exact ST2.out.1 i (by omega) hm)
                  go_wp2_with fail
                  refine (NDj.out _ ((Ext.refl _).alloc _)).mono ?_
                  rintro e w5 ⟨rfl, hE5⟩
                  have NX5 : Hid ((∀ i, i < 1 → m ≤ i → [(x0, y0), (x1, y1), (x2, y2)].getD i (0, 0) = ((0, 0) : Pt)) ∧ Ext w3 w5) := Lib.hid ⟨NX.out, ST2.out.2.trans (((Ext.refl _).alloc _).trans hE5)⟩
                  clear hE5 ST2 NX
                  go_wp2
                  go_roundw
                  case rel => exact ⟨1, by omega, by go_num, NX5⟩
                  case measure => simp [intOf]
              · by_cases hmj : m ≤ 1
                · have hmj' : (m : Int) ≤ 1 := by omega
                  by_cases hzx : x1 = 0
                  · by_cases hzy : y1 = 0
                    · have NX : Hid (∀ i, i < 2 → m ≤ i → [(x0, y0), (x1, y1), (x2, y2)].getD i (0, 0) = ((0, 0) : Pt)) := Lib.hid (fun i hi hm => by
                        by_cases e : i = 1
                        · subst e; simp [hzx, hzy]
                        · exact ST2.out.1 i (by omega) hm)
                      have ex : (x1 == 0) = true := by simpa using hzx
                      have ey : (y1 == 0) = true := by simpa using hzy
                      clear hzx hzy
                      go_wp2_with fail
                      refine (NDj.out _ ((Ext.refl _).alloc _)).mono ?_
                      rintro e w5 ⟨rfl, hE5⟩
                      have n0 : w5.cell? ⟨wr.heap.size, 0, none⟩ = some (.int .i64 x1) := by rw [hE5.cell (by simp [go_sem])]; simp [go_sem]
                      have n1 : w5.cell? ⟨wr.heap.size, 1, none⟩ = some (.int .i64 y1) := by rw [hE5.cell (by simp [go_sem])]; simp [go_sem]
                      have n2 : wr.heap.size < w5.heap.size := Nat.lt_of_lt_of_le (by simp [go_sem]) hE5.size
                      have NX5 : Hid ((∀ i, i < 2 → m ≤ i → [(x0, y0), (x1, y1), (x2, y2)].getD i (0, 0) = ((0, 0) : Pt)) ∧ Ext w3 w5) := Lib.hid ⟨NX.out, ST2.out.2.trans (((Ext.refl _).alloc _).trans hE5)⟩
                      clear hE5 ST2 NX
                      go_wp2
                      go_roundw
                      case rel => exact ⟨2, by omega, by go_num, NX5⟩
                      case measure => simp [intOf]
                    · have ZF : zeroFrom ⟨1, (x0, y0), (x1, y1), (x2, y2)⟩ m = false := decide_eq_false (fun h => by have := h.2.1 hmj; simp at this; exact hzy this.2)
                      have TT : Hid (T = 33) := Lib.hid (by rw [← CK.out, CK2.out, ZF]; rfl)
                      have ex : (x1 == 0) = true := by simpa using hzx
                      have ey : (y1 == 0) = false := by simpa using hzy
                      clear hzx hzy ZF
                      go_wp2_with fail
                      refine (NDj.out _ ((Ext.refl _).alloc _)).mono ?_
                      rintro e w5 ⟨rfl, hE5⟩
                      have n0 : w5.cell? ⟨wr.heap.size, 0, none⟩ = some (.int .i64 x1) := by rw [hE5.cell (by simp [go_sem])]; simp [go_sem]
                      have n1 : w5.cell? ⟨wr.heap.size, 1, none⟩ = some (.int .i64 y1) := by rw [hE5.cell (by simp [go_sem])]; simp [go_sem]
                      have n2 : wr.heap.size < w5.heap.size := Nat.lt_of_lt_of_le (by simp [go_sem]) hE5.size
                      have E5 : Hid (Ext w w5) := Lib.hid ((E3.out.trans ST2.out.2).trans (((Ext.refl _).alloc _).trans hE5))
                      clear hE5 ST2
                      go_wp2
                      go_ret
                      exact ⟨by rw [TT.out] <;> rfl, E5.out⟩
                  · have ZF : zeroFrom ⟨1, (x0, y0), (x1, y1), (x2, y2)⟩ m = false := decide_eq_false (fun h => by have := h.2.1 hmj; simp at this; exact hzx this.1)
                    have TT : Hid (T = 33) := Lib.hid (by rw [← CK.out, CK2.out, ZF]; rfl)
                    have ex : (x1 == 0) = false := by simpa using hzx
                    clear hzx ZF
                    go_wp2_with fail
                    refine (NDj.out _ ((Ext.refl _).alloc _)).mono ?_
                    rintro e w5 ⟨rfl, hE5⟩
                    have n0 : w5.cell? ⟨wr.heap.size, 0, none⟩ = some (.int .i64 x1) := by rw [hE5.cell (by simp [go_sem])]; simp [go_sem]
                    have n1 : w5.cell? ⟨wr.heap.size, 1, none⟩ = some (.int .i64 y1) := by rw [hE5.cell (by simp [go_sem])]; simp [go_sem]
                    have n2 : wr.heap.size < w5.heap.size := Nat.lt_of_lt_of_le (by simp [go_sem]) hE5.size
                    have E5 : Hid (Ext w w5) := Lib.hid ((E3.out.trans ST2.out.2).trans (((Ext.refl _).alloc _).trans hE5))
                    clear hE5 ST2
                    go_wp2
                    go_ret
                    exact ⟨by rw [TT.out] <;> rfl, E5.out⟩
                · have hmj' : ¬ (m : Int) ≤ 1 := by omega
                  have NX : Hid (∀ i, i < 2 → m ≤ i → [(x0, y0), (x1, y1), (x2, y2)].getD i (0, 0) = ((0, 0) : Pt)) := Lib.hid (fun i hi hm => by
                    by_cases e : i = 1
                    · subst e; exact absurd hm hmj
                    · exact ST2.out.1 i (by omega) hm)
                  go_wp2_with fail
                  refine (NDj.out _ ((Ext.refl _).alloc _)).mono ?_
                  rintro e w5 ⟨rfl, hE5⟩
                  have NX5 : Hid ((∀ i, i < 2 → m ≤ i → [(x0, y0), (x1, y1), (x2, y2)].getD i (0, 0) = ((0, 0) : Pt)) ∧ Ext w3 w5) := Lib.hid ⟨NX.out, ST2.out.2.trans (((Ext.refl _).alloc _).trans hE5)⟩
                  clear hE5 ST2 NX
                  go_wp2
                  go_roundw
                  case rel => exact ⟨2, by omega, by go_num, NX5⟩
                  case measure => simp [intOf]
              · by_cases hmj : m ≤ 2
                · have hmj' : (m : Int) ≤ 2 := by omega
                  by_cases hzx : x2 = 0
                  · by_cases hzy : y2 = 0
                    · have NX : Hid (∀ i, i < 3 → m ≤ i → [(x0, y0), (x1, y1), (x2, y2)].getD i (0, 0) = ((0, 0) : Pt)) := Lib.hid (fun i hi hm => by
                        by_cases e : i = 2
                        · subst e; simp [hzx, hzy]
                        · exact ST2.out.1 i (by omega) hm)
                      have ex : (x2 == 0) = true := by simpa using hzx
                      have ey : (y2 == 0) = true := by simpa using hzy
                      clear hzx hzy
                      go_wp2_with fail
                      refine (NDj.out _ ((Ext.refl _).alloc _)).mono ?_
                      rintro e w5 ⟨rfl, hE5⟩
                      have n0 : w5.cell? ⟨wr.heap.size, 0, none⟩ = some (.int .i64 x2) := by rw [hE5.cell (by simp [go_sem])]; simp [go_sem]
                      have n1 : w5.cell? ⟨wr.heap.size, 1, none⟩ = some (.int .i64 y2) := by rw [hE5.cell (by simp [go_sem])]; simp [go_sem]
                      have n2 : wr.heap.size < w5.heap.size := Nat.lt_of_lt_of_le (by simp [go_sem]) hE5.size
                      have NX5 : Hid ((∀ i, i < 3 → m ≤ i → [(x0, y0), (x1, y1), (x2, y2)].getD i (0, 0) = ((0, 0) : Pt)) ∧ Ext w3 w5) := Lib.hid ⟨NX.out, ST2.out.2.trans (((Ext.refl _).alloc _).trans hE5)⟩
                      clear hE5 ST2 NX
                      go_wp2
                      go_roundw
                      case rel => exact ⟨3, by omega, by go_num, NX5⟩
                      case measure => simp [intOf]
                    · have ZF : zeroFrom ⟨1, (x0, y0), (x1, y1), (x2, y2)⟩ m = false := decide_eq_false (fun h => by have := h.2.2 hmj; simp at this; exact hzy this.2)
                      have TT : Hid (T = 33) := Lib.hid (by rw [← CK.out, CK2.out, ZF]; rfl)
                      have ex : (x2 == 0) = true := by simpa using hzx
                      have ey : (y2 == 0) = false := by simpa using hzy
                      clear hzx hzy ZF
                      go_wp2_with fail
                      refine (NDj.out _ ((Ext.refl _).alloc _)).mono ?_
                      rintro e w5 ⟨rfl, hE5⟩
                      have n0 : w5.cell? ⟨wr.heap.size, 0, none⟩ = some (.int .i64 x2) := by rw [hE5.cell (by simp [go_sem])]; simp [go_sem]
                      have n1 : w5.cell? ⟨wr.heap.size, 1, none⟩ = some (.int .i64 y2) := by rw [hE5.cell (by simp [go_sem])]; simp [go_sem]
                      have n2 : wr.heap.size < w5.heap.size := Nat.lt_of_lt_of_le (by simp [go_sem]) hE5.size
                      have E5 : Hid (Ext w w5) := Lib.hid ((E3.out.trans ST2.out.2).trans (((Ext.refl _).alloc _).trans hE5))
                      clear hE5 ST2
                      go_wp2
                      go_ret
                      exact ⟨by rw [TT.out] <;> rfl, E5.out⟩
                  · have ZF : zeroFrom ⟨1, (x0, y0), (x1, y1), (x2, y2)⟩ m = false := decide_eq_false (fun h => by have := h.2.2 hmj; simp at this; exact hzx this.1)
                    have TT : Hid (T = 33) := Lib.hid (by rw [← CK.out, CK2.out, ZF]; rfl)
                    have ex : (x2 == 0) = false := by simpa using hzx
                    clear hzx ZF
                    go_wp2_with fail
                    refine (NDj.out _ ((Ext.refl _).alloc _)).mono ?_
                    rintro e w5 ⟨rfl, hE5⟩
                    have n0 : w5.cell? ⟨wr.heap.size, 0, none⟩ = some (.int .i64 x2) := by rw [hE5.cell (by simp [go_sem])]; simp [go_sem]
                    have n1 : w5.cell? ⟨wr.heap.size, 1, none⟩ = some (.int .i64 y2) := by rw [hE5.cell (by simp [go_sem])]; simp [go_sem]
                    have n2 : wr.heap.size < w5.heap.size := Nat.lt_of_lt_of_le (by simp [go_sem]) hE5.size
                    have E5 : Hid (Ext w w5) := Lib.hid ((E3.out.trans ST2.out.2).trans (((Ext.refl _).alloc _).trans hE5))
                    clear hE5 ST2
                    go_wp2
                    go_ret
                    exact ⟨by rw [TT.out] <;> rfl, E5.out⟩
                · have hmj' : ¬ (m : Int) ≤ 2 := by omega
                  have NX : Hid (∀ i, i < 3 → m ≤ i → [(x0, y0), (x1, y1), (x2, y2)].getD i (0, 0) = ((0, 0) : Pt)) := Lib.hid (fun i hi hm => by
                    by_cases e : i = 2
                    · subst e; exact absurd hm hmj
                    · exact ST2.out.1 i (by omega) hm)
                  go_wp2_with fail
                  refine (NDj.out _ ((Ext.refl _).alloc _)).mono ?_
                  rintro e w5 ⟨rfl, hE5⟩
                  have NX5 : Hid ((∀ i, i < 3 → m ≤ i → [(x0, y0), (x1, y1), (x2, y2)].getD i (0, 0) = ((0, 0) : Pt)) ∧ Ext w3 w5) := Lib.hid ⟨NX.out, ST2.out.2.trans (((Ext.refl _).alloc _).trans hE5)⟩
                  clear hE5 ST2 NX
                  go_wp2
                  go_roundw
                  case rel => exact ⟨3, by omega, by go_num, NX5⟩
                  case measure => simp [intOf]
    · have hlt' : ¬ (i : Int) < (n : Int) := by omega
      have TT : Hid (T = 0) := Lib.hid (by
        rw [← ST.out.1, List.drop_eq_nil_of_le (by rw [← HN.out]; omega)]; rfl)
      have E1 := Lib.hid ST.out.2
      clear ST
      go_wp2
      go_ret
      exact ⟨by rw [TT.out] <;> rfl, E1.out⟩
end Go.Proofs.YtakebbphielbfaaDoor
