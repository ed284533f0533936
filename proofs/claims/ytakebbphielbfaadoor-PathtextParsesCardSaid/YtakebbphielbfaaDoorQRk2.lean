import Derived.Test.YtakebbphielbfaaDoorQRp
namespace Go.Proofs.YtakebbphielbfaaDoor
open Go.RowKit
set_option linter.unusedVariables false
set_option linter.unusedSimpArgs false
set_option maxRecDepth 100000
set_option maxHeartbeats 6400000

theorem check_at2 : ∀ (l : List Sg) (o : Bool) (i : Nat), checkL o l = 0 → i < l.length → check1 (openL o (l.take i)) (l.getD i noS) = 0 := by
  intro l
  induction l with
  | nil => intro o i _ h; simp at h
  | cons s l ih =>
    intro o i hc hi
    unfold checkL at hc
    split at hc
    · rename_i h; exact absurd hc h
    · rename_i h
      cases i with
      | zero => simpa [openL] using Classical.not_not.1 h
      | succ i => rw [List.getD_cons_succ, List.take_succ_cons]; exact ih _ i hc (by simpa using hi)

theorem check1_parts {o : Bool} {s : Sg} (h : check1 o s = 0) : (1 ≤ s.k ∧ s.k ≤ 5) ∧ (o = true ∨ s.k = 1) ∧ zeroFrom s (needL s.k) = true ∧ roomTo s (needL s.k) = true := by
  have hk := check1_kind h
  unfold check1 at h
  split at h
  · cases h
  · rename_i hb
    split at h
    · cases h
    · rename_i hz
      split at h
      · cases h
      · rename_i hr
        refine ⟨hk, ?_, by simpa using hz, by simpa using hr⟩
        by_cases e : s.k = 1
        · exact .inr e
        · refine .inl ?_
          cases o with
          | true => rfl
          | false => exact absurd (.inr (.inr ⟨rfl, e⟩)) hb

theorem refFin_any (a : Int) (w : World) (h : inR a) : Calls Tryd.prog 20 #[.int .i64 a] w fun e w' => e = .returned (.bool true) ∧ Ext w w' := refIn_yes a w h

theorem rcheck_ok (A : Option Addr) (n c : Nat) (l : List Sg) (w : World) (hS : Sl sgR w (.slice A n c) l) (hn : n ≤ 4096) (hc : checkL false l = 0) :
    Calls Tryd.prog 10 #[.slice A n c] w fun e w' => e = .returned (.int .i64 0) ∧ Ext w w' := by
  have HN := Lib.hid hS.len
  have S := Lib.hid hS
  have HC := Lib.hid hc
  have hn' : ¬ 4096 < (n : Int) := by omega
  clear hS hc
  go_enter Tryd.func10, Tryd.ntmps10
  go_wp2
  go_loopw [3] (fun t3 wr => ∃ i : Nat, i ≤ n ∧ t3 = .int .i64 (i : Int) ∧ Hid (Ext w wr)) (fun t3 _ => n - (intOf t3).toNat)
  case atStart => exact ⟨0, by omega, rfl, Lib.hid (Ext.refl _)⟩
  case round =>
    obtain ⟨i, hi, rfl, ST⟩ := hrel
    by_cases hlt : i < n
    · have hlt' : (i : Int) < (n : Int) := by omega
      have CP := check1_parts (check_at2 l false i HC.out (by rw [← HN.out]; exact hlt))
      have SLW := S.out.ext ST.out
      obtain ⟨b, off, rfl, hb, hok, hcl⟩ := SLW.at hlt
      have PV : Hid (i ≠ 0 → ∃ kk, wr.cell? ⟨b, off + (i - 1) * 7, none⟩ = some (.int .i64 kk) ∧ openL false (l.take i) = decide (kk ≠ 5)) := Lib.hid (fun h0 => by
        obtain ⟨b2, off2, e2, _, _, hcl2⟩ := SLW.at (i := i - 1) (by omega)
        simp only [Option.some.injEq, Addr.mk.injEq, and_true] at e2
        obtain ⟨rfl, rfl⟩ := e2
        refine ⟨_, hcl2 0 (by decide), ?_⟩
        have hl : (l.take i).length = i := by rw [List.length_take, ← HN.out]; omega
        rw [openL_last false (l.take i) (by omega), hl]
        have e3 : (l.take i).getD (i - 1) noS = l.getD (i - 1) noS := by
          rw [List.getD_eq_getElem?_getD, List.getD_eq_getElem?_getD, List.getElem?_take, if_pos (by omega)]
        rw [e3]; rfl)
      obtain ⟨s, hs⟩ : ∃ s, l.getD i sgR.no = s := ⟨_, rfl⟩
      rw [hs] at hcl
      rw [show l.getD i noS = s from hs] at CP
      obtain ⟨⟨k, ⟨x0, y0⟩, ⟨x1, y1⟩, ⟨x2, y2⟩⟩, hs2⟩ : ∃ s', s = s' := ⟨_, rfl⟩
      subst hs2
      obtain ⟨hk, hop, hzf, hrt⟩ := CP
      dsimp only at hk hop hzf hrt
      have g0 : wr.cell? ⟨b, off + i * 7, none⟩ = some (.int .i64 k) := hcl 0 (by decide)
      have g1 : wr.cell? ⟨b, off + (i * 7 + 1), none⟩ = some (.int .i64 x0) := hcl 1 (by decide)
      have g2 : wr.cell? ⟨b, off + (i * 7 + 2), none⟩ = some (.int .i64 y0) := hcl 2 (by decide)
      have g3 : wr.cell? ⟨b, off + (i * 7 + 3), none⟩ = some (.int .i64 x1) := hcl 3 (by decide)
      have g4 : wr.cell? ⟨b, off + (i * 7 + 4), none⟩ = some (.int .i64 y1) := hcl 4 (by decide)
      have g5 : wr.cell? ⟨b, off + (i * 7 + 5), none⟩ = some (.int .i64 x2) := hcl 5 (by decide)
      have g6 : wr.cell? ⟨b, off + (i * 7 + 6), none⟩ = some (.int .i64 y2) := hcl 6 (by decide)
      obtain ⟨w3, hw3⟩ : ∃ w3, wr.alloc (.cells #[.int .i64 k, .int .i64 x0, .int .i64 y0, .int .i64 x1, .int .i64 y1, .int .i64 x2, .int .i64 y2] 34) = w3 := ⟨_, rfl⟩
      obtain ⟨q, hq⟩ : ∃ q, wr.heap.size = q := ⟨_, rfl⟩
      have hqb : w3.heap[q]? = some (.cells (sgA ⟨k, (x0, y0), (x1, y1), (x2, y2)⟩) 34 (0, 0)) := by rw [← hw3, ← hq]; exact heap_alloc_new wr _
      have E3 : Ext wr w3 := by rw [← hw3]; exact (Ext.refl _).alloc _
      have X3 : Hid (Ext w w3) := Lib.hid (ST.out.trans E3)
      have m0 : w3.cell? ⟨q, 0, none⟩ = some (.int .i64 k) := (heap_cell hqb 0).trans rfl
      have ml := heap_lt hqb
      have QC : Hid (∀ wx, Ext w3 wx → ∀ j, wx.cell? ⟨q, j, none⟩ = (sgA ⟨k, (x0, y0), (x1, y1), (x2, y2)⟩)[j]?) := Lib.hid (fun wx hx j => heap_cell (hx.heapAt hqb) j)
      have ND := Lib.hid (fun wx => refNeed_any k wx)
      obtain ⟨m, hm⟩ : ∃ m, needL k = m := ⟨_, rfl⟩
      have hm3 : m ≤ 3 := by rw [← hm]; exact needL_le k
      rw [hm] at ND hzf hrt
      have ZF := Lib.hid (of_decide_eq_true hzf)
      have RT := Lib.hid (of_decide_eq_true hrt)
      have hk1 : ¬ k < 1 := by omega
      have hk5 : ¬ 5 < k := by omega
      obtain ⟨kp, hkp⟩ : ∃ kp : Int, i ≠ 0 → (wr.cell? ⟨b, off + (i - 1) * 7, none⟩ = some (.int .i64 kp) ∧ openL false (l.take i) = decide (kp ≠ 5)) := by
        by_cases h0 : i = 0
        · exact ⟨0, fun h => absurd h0 h⟩
        · obtain ⟨kk, h1⟩ := PV.out h0; exact ⟨kk, fun _ => h1⟩
      have HKP := Lib.hid hkp
      have HOP := Lib.hid hop
      have BL : Hid (b < wr.heap.size) := Lib.hid hb
      have EW3 := Lib.hid E3
      clear hs hcl ST hqb E3 hm hzf hrt hkp hop PV SLW hok hk
      have REST : Hid True := Lib.hid trivial
      clear REST
      by_cases hk1e : k = 1
      · subst hk1e
        go_wp2_with fail
        go_loopw [5] (fun t5 wr => ∃ jj : Int, -1 ≤ jj ∧ jj ≤ 2 ∧ t5 = .int .i64 jj ∧ Hid (Ext w3 wr)) (fun t5 _ => (intOf t5 + 1).toNat)
        case atStart => exact ⟨2, by omega, by omega, rfl, Lib.hid (Ext.refl _)⟩
        case round =>
          obtain ⟨jj, hj1, hj2, rfl, S2⟩ := hrel
          have z0 : wr.cell? ⟨q, 0, none⟩ = some (.int .i64 1) := QC.out wr S2.out 0
          have zl : q < wr.heap.size := Nat.lt_of_lt_of_le ml S2.out.size
          have NDj := Lib.hid (ND.out wr)
          by_cases hjm : (m : Int) ≤ jj
          · rcases (show jj = 0 ∨ jj = 1 ∨ jj = 2 by omega) with rfl | rfl | rfl
            · have ZZ := ZF.out.1 (by omega)
              simp only [Prod.mk.injEq] at ZZ
              have XX : Hid (∀ wx, Ext wr wx → wx.cell? ⟨q, 1, none⟩ = some (.int .i64 0) ∧ wx.cell? ⟨q, 2, none⟩ = some (.int .i64 0) ∧ q < wx.heap.size) := Lib.hid (fun wx hx => ⟨by have h := QC.out wx (S2.out.trans hx) 1; rw [h]; simp only [sgA, ZZ.1, ZZ.2]; rfl, by have h := QC.out wx (S2.out.trans hx) 2; rw [h]; simp only [sgA, ZZ.1, ZZ.2]; rfl, Nat.lt_of_lt_of_le zl hx.size⟩)
              clear ZZ
              go_wp2_with fail
              refine NDj.out.mono ?_
              rintro e w5 ⟨rfl, hE5⟩
              obtain ⟨a1, a2, a3⟩ := XX.out w5 hE5
              have E5 := Lib.hid (S2.out.trans hE5)
              clear hE5 S2 XX NDj
              go_wp2
              go_roundw
              case rel => exact ⟨-1, by omega, by omega, by go_num, E5⟩
              case measure => simp [intOf]
            · have ZZ := ZF.out.2.1 (by omega)
              simp only [Prod.mk.injEq] at ZZ
              have XX : Hid (∀ wx, Ext wr wx → wx.cell? ⟨q, 3, none⟩ = some (.int .i64 0) ∧ wx.cell? ⟨q, 4, none⟩ = some (.int .i64 0) ∧ q < wx.heap.size) := Lib.hid (fun wx hx => ⟨by have h := QC.out wx (S2.out.trans hx) 3; rw [h]; simp only [sgA, ZZ.1, ZZ.2]; rfl, by have h := QC.out wx (S2.out.trans hx) 4; rw [h]; simp only [sgA, ZZ.1, ZZ.2]; rfl, Nat.lt_of_lt_of_le zl hx.size⟩)
              clear ZZ
              go_wp2_with fail
              refine NDj.out.mono ?_
              rintro e w5 ⟨rfl, hE5⟩
              obtain ⟨a1, a2, a3⟩ := XX.out w5 hE5
              have E5 := Lib.hid (S2.out.trans hE5)
              clear hE5 S2 XX NDj
              go_wp2
              go_roundw
              case rel => exact ⟨0, by omega, by omega, by go_num, E5⟩
              case measure => simp [intOf]
            · have ZZ := ZF.out.2.2 (by omega)
              simp only [Prod.mk.injEq] at ZZ
              have XX : Hid (∀ wx, Ext wr wx → wx.cell? ⟨q, 5, none⟩ = some (.int .i64 0) ∧ wx.cell? ⟨q, 6, none⟩ = some (.int .i64 0) ∧ q < wx.heap.size) := Lib.hid (fun wx hx => ⟨by have h := QC.out wx (S2.out.trans hx) 5; rw [h]; simp only [sgA, ZZ.1, ZZ.2]; rfl, by have h := QC.out wx (S2.out.trans hx) 6; rw [h]; simp only [sgA, ZZ.1, ZZ.2]; rfl, Nat.lt_of_lt_of_le zl hx.size⟩)
              clear ZZ
              go_wp2_with fail
              refine NDj.out.mono ?_
              rintro e w5 ⟨rfl, hE5⟩
              obtain ⟨a1, a2, a3⟩ := XX.out w5 hE5
              have E5 := Lib.hid (S2.out.trans hE5)
              clear hE5 S2 XX NDj
              go_wp2
              go_roundw
              case rel => exact ⟨1, by omega, by omega, by go_num, E5⟩
              case measure => simp [intOf]
          · have hjm' : jj < (m : Int) := by omega
            go_wp2_with fail
            refine NDj.out.mono ?_
            rintro e w5 ⟨rfl, hE5⟩
            have E5 := Lib.hid (S2.out.trans hE5)
            clear hE5 S2 NDj z0 zl
            go_wp2_with fail
            go_loopw [6] (fun t6 wr => ∃ j : Nat, j ≤ m ∧ t6 = .int .i64 (j : Int) ∧ Hid (Ext w3 wr)) (fun t6 _ => m - (intOf t6).toNat)
            case atStart => exact ⟨0, by omega, rfl, E5⟩
            case round =>
              obtain ⟨j, hj, rfl, S3⟩ := hrel
              have z0 : wr.cell? ⟨q, 0, none⟩ = some (.int .i64 1) := QC.out wr S3.out 0
              have zl : q < wr.heap.size := Nat.lt_of_lt_of_le ml S3.out.size
              have NDj := Lib.hid (ND.out wr)
              by_cases hjm : j < m
              · rcases (show j = 0 ∨ j = 1 ∨ j = 2 by omega) with rfl | rfl | rfl
                · have hjm2 : (0 : Int) < (m : Int) := by omega
                  have RR0 := RT.out.1 (by omega)
                  have I1 := Lib.hid (fun wx => refFin_any x0 wx RR0.1)
                  have I2 := Lib.hid (fun wx => refFin_any y0 wx RR0.2)
                  have XX : Hid (∀ wx, Ext wr wx → wx.cell? ⟨q, 1, none⟩ = some (.int .i64 x0) ∧ wx.cell? ⟨q, 2, none⟩ = some (.int .i64 y0) ∧ q < wx.heap.size) := Lib.hid (fun wx hx => ⟨QC.out wx (S3.out.trans hx) 1, QC.out wx (S3.out.trans hx) 2, Nat.lt_of_lt_of_le zl hx.size⟩)
                  clear RR0
                  go_wp2_with fail
                  refine NDj.out.mono ?_
                  rintro e w5 ⟨rfl, hE5⟩
                  obtain ⟨a1, a2, a3⟩ := XX.out w5 hE5
                  have E5 := Lib.hid hE5
                  clear hE5 NDj
                  go_wp2_with fail
                  refine (I1.out _).mono ?_
                  rintro e w6 ⟨rfl, hE6⟩
                  obtain ⟨c1, c2, c3⟩ := XX.out w6 (E5.out.trans hE6)
                  have E6 := Lib.hid (E5.out.trans hE6)
                  clear hE6 E5 a1 a2 a3
                  go_wp2_with fail
                  refine (I2.out _).mono ?_
                  rintro e w7 ⟨rfl, hE7⟩
                  have E7 := Lib.hid (S3.out.trans (E6.out.trans hE7))
                  clear hE7 E6 S3 XX I1 I2 c1 c2 c3
                  go_wp2
                  go_roundw
                  case rel => exact ⟨1, by omega, by go_num, E7⟩
                  case measure => simp [intOf]; omega
                · have hjm2 : (1 : Int) < (m : Int) := by omega
                  have RR0 := RT.out.2.1 (by omega)
                  have I1 := Lib.hid (fun wx => refFin_any x1 wx RR0.1)
                  have I2 := Lib.hid (fun wx => refFin_any y1 wx RR0.2)
                  have XX : Hid (∀ wx, Ext wr wx → wx.cell? ⟨q, 3, none⟩ = some (.int .i64 x1) ∧ wx.cell? ⟨q, 4, none⟩ = some (.int .i64 y1) ∧ q < wx.heap.size) := Lib.hid (fun wx hx => ⟨QC.out wx (S3.out.trans hx) 3, QC.out wx (S3.out.trans hx) 4, Nat.lt_of_lt_of_le zl hx.size⟩)
                  clear RR0
                  go_wp2_with fail
                  refine NDj.out.mono ?_
                  rintro e w5 ⟨rfl, hE5⟩
                  obtain ⟨a1, a2, a3⟩ := XX.out w5 hE5
                  have E5 := Lib.hid hE5
                  clear hE5 NDj
                  go_wp2_with fail
                  refine (I1.out _).mono ?_
                  rintro e w6 ⟨rfl, hE6⟩
                  obtain ⟨c1, c2, c3⟩ := XX.out w6 (E5.out.trans hE6)
                  have E6 := Lib.hid (E5.out.trans hE6)
                  clear hE6 E5 a1 a2 a3
                  go_wp2_with fail
                  refine (I2.out _).mono ?_
                  rintro e w7 ⟨rfl, hE7⟩
                  have E7 := Lib.hid (S3.out.trans (E6.out.trans hE7))
                  clear hE7 E6 S3 XX I1 I2 c1 c2 c3
                  go_wp2
                  go_roundw
                  case rel => exact ⟨2, by omega, by go_num, E7⟩
                  case measure => simp [intOf]; omega
                · have hjm2 : (2 : Int) < (m : Int) := by omega
                  have RR0 := RT.out.2.2 (by omega)
                  have I1 := Lib.hid (fun wx => refFin_any x2 wx RR0.1)
                  have I2 := Lib.hid (fun wx => refFin_any y2 wx RR0.2)
                  have XX : Hid (∀ wx, Ext wr wx → wx.cell? ⟨q, 5, none⟩ = some (.int .i64 x2) ∧ wx.cell? ⟨q, 6, none⟩ = some (.int .i64 y2) ∧ q < wx.heap.size) := Lib.hid (fun wx hx => ⟨QC.out wx (S3.out.trans hx) 5, QC.out wx (S3.out.trans hx) 6, Nat.lt_of_lt_of_le zl hx.size⟩)
                  clear RR0
                  go_wp2_with fail
                  refine NDj.out.mono ?_
                  rintro e w5 ⟨rfl, hE5⟩
                  obtain ⟨a1, a2, a3⟩ := XX.out w5 hE5
                  have E5 := Lib.hid hE5
                  clear hE5 NDj
                  go_wp2_with fail
                  refine (I1.out _).mono ?_
                  rintro e w6 ⟨rfl, hE6⟩
                  obtain ⟨c1, c2, c3⟩ := XX.out w6 (E5.out.trans hE6)
                  have E6 := Lib.hid (E5.out.trans hE6)
                  clear hE6 E5 a1 a2 a3
                  go_wp2_with fail
                  refine (I2.out _).mono ?_
                  rintro e w7 ⟨rfl, hE7⟩
                  have E7 := Lib.hid (S3.out.trans (E6.out.trans hE7))
                  clear hE7 E6 S3 XX I1 I2 c1 c2 c3
                  go_wp2
                  go_roundw
                  case rel => exact ⟨3, by omega, by go_num, E7⟩
                  case measure => simp [intOf]; omega
              · have hjm' : ¬ (j : Int) < (m : Int) := by omega
                go_wp2_with fail
                refine NDj.out.mono ?_
                rintro e w5 ⟨rfl, hE5⟩
                have E5 := Lib.hid (X3.out.trans (S3.out.trans hE5))
                clear hE5 S3 NDj
                go_wp2
                go_roundw
                case rel => exact ⟨i + 1, by omega, by go_num, E5⟩
                case measure => simp [intOf]; omega
      · have hkn : (k == 1) = false := by simpa using hk1e
        have hop2 : openL false (l.take i) = true := by rcases HOP.out with h | h; exact h; exact absurd h hk1e
        have h0 : i ≠ 0 := fun e => by rw [e] at hop2; simp [openL] at hop2
        have h0n : ((i : Int) == 0) = false := by simp; omega
        obtain ⟨kc, ko⟩ := HKP.out h0
        have kp5 : (kp == 5) = false := by rw [hop2] at ko; simpa using ko.symm
        have kc3 : w3.cell? ⟨b, off + (i - 1) * 7, none⟩ = some (.int .i64 kp) := (EW3.out.cell BL.out).trans kc
        obtain ⟨i0, hi0⟩ : ∃ i0, i - 1 = i0 := ⟨_, rfl⟩
        rw [hi0] at kc kc3
        have wri : IntKind.i64.wrap ((i : Int) - 1) = (i0 : Int) := by rw [IntKind.wrap_i64]; omega
        have i0l : i0 < n := by omega
        have i0l' : (i0 : Int) < (n : Int) := by omega
        clear hop2 ko hi0
        go_wp2_with fail
        go_loopw [5] (fun t5 wr => ∃ jj : Int, -1 ≤ jj ∧ jj ≤ 2 ∧ t5 = .int .i64 jj ∧ Hid (Ext w3 wr)) (fun t5 _ => (intOf t5 + 1).toNat)
        case atStart => exact ⟨2, by omega, by omega, rfl, Lib.hid (Ext.refl _)⟩
        case round =>
          obtain ⟨jj, hj1, hj2, rfl, S2⟩ := hrel
          have z0 : wr.cell? ⟨q, 0, none⟩ = some (.int .i64 k) := QC.out wr S2.out 0
          have zl : q < wr.heap.size := Nat.lt_of_lt_of_le ml S2.out.size
          have NDj := Lib.hid (ND.out wr)
          by_cases hjm : (m : Int) ≤ jj
          · rcases (show jj = 0 ∨ jj = 1 ∨ jj = 2 by omega) with rfl | rfl | rfl
            · have ZZ := ZF.out.1 (by omega)
              simp only [Prod.mk.injEq] at ZZ
              have XX : Hid (∀ wx, Ext wr wx → wx.cell? ⟨q, 1, none⟩ = some (.int .i64 0) ∧ wx.cell? ⟨q, 2, none⟩ = some (.int .i64 0) ∧ q < wx.heap.size) := Lib.hid (fun wx hx => ⟨by have h := QC.out wx (S2.out.trans hx) 1; rw [h]; simp only [sgA, ZZ.1, ZZ.2]; rfl, by have h := QC.out wx (S2.out.trans hx) 2; rw [h]; simp only [sgA, ZZ.1, ZZ.2]; rfl, Nat.lt_of_lt_of_le zl hx.size⟩)
              clear ZZ
              go_wp2_with fail
              refine NDj.out.mono ?_
              rintro e w5 ⟨rfl, hE5⟩
              obtain ⟨a1, a2, a3⟩ := XX.out w5 hE5
              have E5 := Lib.hid (S2.out.trans hE5)
              clear hE5 S2 XX NDj
              go_wp2
              go_roundw
              case rel => exact ⟨-1, by omega, by omega, by go_num, E5⟩
              case measure => simp [intOf]
            · have ZZ := ZF.out.2.1 (by omega)
              simp only [Prod.mk.injEq] at ZZ
              have XX : Hid (∀ wx, Ext wr wx → wx.cell? ⟨q, 3, none⟩ = some (.int .i64 0) ∧ wx.cell? ⟨q, 4, none⟩ = some (.int .i64 0) ∧ q < wx.heap.size) := Lib.hid (fun wx hx => ⟨by have h := QC.out wx (S2.out.trans hx) 3; rw [h]; simp only [sgA, ZZ.1, ZZ.2]; rfl, by have h := QC.out wx (S2.out.trans hx) 4; rw [h]; simp only [sgA, ZZ.1, ZZ.2]; rfl, Nat.lt_of_lt_of_le zl hx.size⟩)
              clear ZZ
              go_wp2_with fail
              refine NDj.out.mono ?_
              rintro e w5 ⟨rfl, hE5⟩
              obtain ⟨a1, a2, a3⟩ := XX.out w5 hE5
              have E5 := Lib.hid (S2.out.trans hE5)
              clear hE5 S2 XX NDj
              go_wp2
              go_roundw
              case rel => exact ⟨0, by omega, by omega, by go_num, E5⟩
              case measure => simp [intOf]
            · have ZZ := ZF.out.2.2 (by omega)
              simp only [Prod.mk.injEq] at ZZ
              have XX : Hid (∀ wx, Ext wr wx → wx.cell? ⟨q, 5, none⟩ = some (.int .i64 0) ∧ wx.cell? ⟨q, 6, none⟩ = some (.int .i64 0) ∧ q < wx.heap.size) := Lib.hid (fun wx hx => ⟨by have h := QC.out wx (S2.out.trans hx) 5; rw [h]; simp only [sgA, ZZ.1, ZZ.2]; rfl, by have h := QC.out wx (S2.out.trans hx) 6; rw [h]; simp only [sgA, ZZ.1, ZZ.2]; rfl, Nat.lt_of_lt_of_le zl hx.size⟩)
              clear ZZ
              go_wp2_with fail
              refine NDj.out.mono ?_
              rintro e w5 ⟨rfl, hE5⟩
              obtain ⟨a1, a2, a3⟩ := XX.out w5 hE5
              have E5 := Lib.hid (S2.out.trans hE5)
              clear hE5 S2 XX NDj
              go_wp2
              go_roundw
              case rel => exact ⟨1, by omega, by omega, by go_num, E5⟩
              case measure => simp [intOf]
          · have hjm' : jj < (m : Int) := by omega
            go_wp2_with fail
            refine NDj.out.mono ?_
            rintro e w5 ⟨rfl, hE5⟩
            have E5 := Lib.hid (S2.out.trans hE5)
            clear hE5 S2 NDj z0 zl
            go_wp2_with fail
            go_loopw [6] (fun t6 wr => ∃ j : Nat, j ≤ m ∧ t6 = .int .i64 (j : Int) ∧ Hid (Ext w3 wr)) (fun t6 _ => m - (intOf t6).toNat)
            case atStart => exact ⟨0, by omega, rfl, E5⟩
            case round =>
              obtain ⟨j, hj, rfl, S3⟩ := hrel
              have z0 : wr.cell? ⟨q, 0, none⟩ = some (.int .i64 k) := QC.out wr S3.out 0
              have zl : q < wr.heap.size := Nat.lt_of_lt_of_le ml S3.out.size
              have NDj := Lib.hid (ND.out wr)
              by_cases hjm : j < m
              · rcases (show j = 0 ∨ j = 1 ∨ j = 2 by omega) with rfl | rfl | rfl
                · have hjm2 : (0 : Int) < (m : Int) := by omega
                  have RR0 := RT.out.1 (by omega)
                  have I1 := Lib.hid (fun wx => refFin_any x0 wx RR0.1)
                  have I2 := Lib.hid (fun wx => refFin_any y0 wx RR0.2)
                  have XX : Hid (∀ wx, Ext wr wx → wx.cell? ⟨q, 1, none⟩ = some (.int .i64 x0) ∧ wx.cell? ⟨q, 2, none⟩ = some (.int .i64 y0) ∧ q < wx.heap.size) := Lib.hid (fun wx hx => ⟨QC.out wx (S3.out.trans hx) 1, QC.out wx (S3.out.trans hx) 2, Nat.lt_of_lt_of_le zl hx.size⟩)
                  clear RR0
                  go_wp2_with fail
                  refine NDj.out.mono ?_
                  rintro e w5 ⟨rfl, hE5⟩
                  obtain ⟨a1, a2, a3⟩ := XX.out w5 hE5
                  have E5 := Lib.hid hE5
                  clear hE5 NDj
                  go_wp2_with fail
                  refine (I1.out _).mono ?_
                  rintro e w6 ⟨rfl, hE6⟩
                  obtain ⟨c1, c2, c3⟩ := XX.out w6 (E5.out.trans hE6)
                  have E6 := Lib.hid (E5.out.trans hE6)
                  clear hE6 E5 a1 a2 a3
                  go_wp2_with fail
                  refine (I2.out _).mono ?_
                  rintro e w7 ⟨rfl, hE7⟩
                  have E7 := Lib.hid (S3.out.trans (E6.out.trans hE7))
                  clear hE7 E6 S3 XX I1 I2 c1 c2 c3
                  go_wp2
                  go_roundw
                  case rel => exact ⟨1, by omega, by go_num, E7⟩
                  case measure => simp [intOf]; omega
                · have hjm2 : (1 : Int) < (m : Int) := by omega
                  have RR0 := RT.out.2.1 (by omega)
                  have I1 := Lib.hid (fun wx => refFin_any x1 wx RR0.1)
                  have I2 := Lib.hid (fun wx => refFin_any y1 wx RR0.2)
                  have XX : Hid (∀ wx, Ext wr wx → wx.cell? ⟨q, 3, none⟩ = some (.int .i64 x1) ∧ wx.cell? ⟨q, 4, none⟩ = some (.int .i64 y1) ∧ q < wx.heap.size) := Lib.hid (fun wx hx => ⟨QC.out wx (S3.out.trans hx) 3, QC.out wx (S3.out.trans hx) 4, Nat.lt_of_lt_of_le zl hx.size⟩)
                  clear RR0
                  go_wp2_with fail
                  refine NDj.out.mono ?_
                  rintro e w5 ⟨rfl, hE5⟩
                  obtain ⟨a1, a2, a3⟩ := XX.out w5 hE5
                  have E5 := Lib.hid hE5
                  clear hE5 NDj
                  go_wp2_with fail
                  refine (I1.out _).mono ?_
                  rintro e w6 ⟨rfl, hE6⟩
                  obtain ⟨c1, c2, c3⟩ := XX.out w6 (E5.out.trans hE6)
                  have E6 := Lib.hid (E5.out.trans hE6)
                  clear hE6 E5 a1 a2 a3
                  go_wp2_with fail
                  refine (I2.out _).mono ?_
                  rintro e w7 ⟨rfl, hE7⟩
                  have E7 := Lib.hid (S3.out.trans (E6.out.trans hE7))
                  clear hE7 E6 S3 XX I1 I2 c1 c2 c3
                  go_wp2
                  go_roundw
                  case rel => exact ⟨2, by omega, by go_num, E7⟩
                  case measure => simp [intOf]; omega
                · have hjm2 : (2 : Int) < (m : Int) := by omega
                  have RR0 := RT.out.2.2 (by omega)
                  have I1 := Lib.hid (fun wx => refFin_any x2 wx RR0.1)
                  have I2 := Lib.hid (fun wx => refFin_any y2 wx RR0.2)
                  have XX : Hid (∀ wx, Ext wr wx → wx.cell? ⟨q, 5, none⟩ = some (.int .i64 x2) ∧ wx.cell? ⟨q, 6, none⟩ = some (.int .i64 y2) ∧ q < wx.heap.size) := Lib.hid (fun wx hx => ⟨QC.out wx (S3.out.trans hx) 5, QC.out wx (S3.out.trans hx) 6, Nat.lt_of_lt_of_le zl hx.size⟩)
                  clear RR0
                  go_wp2_with fail
                  refine NDj.out.mono ?_
                  rintro e w5 ⟨rfl, hE5⟩
                  obtain ⟨a1, a2, a3⟩ := XX.out w5 hE5
                  have E5 := Lib.hid hE5
                  clear hE5 NDj
                  go_wp2_with fail
                  refine (I1.out _).mono ?_
                  rintro e w6 ⟨rfl, hE6⟩
                  obtain ⟨c1, c2, c3⟩ := XX.out w6 (E5.out.trans hE6)
                  have E6 := Lib.hid (E5.out.trans hE6)
                  clear hE6 E5 a1 a2 a3
                  go_wp2_with fail
                  refine (I2.out _).mono ?_
                  rintro e w7 ⟨rfl, hE7⟩
                  have E7 := Lib.hid (S3.out.trans (E6.out.trans hE7))
                  clear hE7 E6 S3 XX I1 I2 c1 c2 c3
                  go_wp2
                  go_roundw
                  case rel => exact ⟨3, by omega, by go_num, E7⟩
                  case measure => simp [intOf]; omega
              · have hjm' : ¬ (j : Int) < (m : Int) := by omega
                go_wp2_with fail
                refine NDj.out.mono ?_
                rintro e w5 ⟨rfl, hE5⟩
                have E5 := Lib.hid (X3.out.trans (S3.out.trans hE5))
                clear hE5 S3 NDj
                go_wp2
                go_roundw
                case rel => exact ⟨i + 1, by omega, by go_num, E5⟩
                case measure => simp [intOf]; omega
    · have hlt' : ¬ (i : Int) < (n : Int) := by omega
      go_wp2
      go_ret
      exact ⟨rfl, ST.out⟩
end Go.Proofs.YtakebbphielbfaaDoor
