import Derived.Test.YtbpdjekibcbaaaaSFmt
namespace Go.Proofs.Ytbpdjekibcbaaaa
open Go.RowKit
set_option linter.unusedVariables false
set_option linter.unusedSimpArgs false

/-- the head of a slice of the call's own -/
theorem own_prefix {base : Nat} {w : World} {A : Option Addr} {n cap : Nat} {l : List Nat} (h : Own base w A n cap l) (u : Nat) (hu : u ≤ l.length) : Own base w A u cap (l.take u) := by
  obtain ⟨h1, h2, h3⟩ := h
  refine ⟨by simp; omega, ⟨by simp; omega, ?_⟩, lt_take h3 u⟩
  rcases h2.2 with ⟨e, h0⟩ | ⟨g, c, cur, e, hb, hg, k1, k2, k3, k4⟩
  · left
    simp only [Value.slice.injEq] at e
    obtain ⟨rfl, -, rfl⟩ := e
    obtain rfl : u = 0 := by omega
    exact ⟨rfl, rfl⟩
  · right
    simp only [Value.slice.injEq] at e
    obtain ⟨rfl, -, rfl⟩ := e
    refine ⟨g, cap, cur, rfl, hb, hg, by omega, k2, k3, ?_⟩
    rw [← h1] at hu
    rw [List.map_take, ← k4, List.take_take]
    congr 1
    omega

/-- the newer of two headers -/
def stepH (m : DM) (c : Hd) (i : Nat) : Hd := if HdrOk (m.now i) (m.cap : Int) ∧ c.gen < fGen (m.now i) then ⟨fGen (m.now i), fHalf (m.now i), fSnap (m.now i), fLog (m.now i)⟩ else c
def foldH (m : DM) : Nat → Hd
  | 0 => ⟨0, 0, 0, 0⟩
  | i + 1 => stepH m (foldH m i) i
def bumps (m : DM) : Nat → DM
  | 0 => m
  | i + 1 => (bumps m i).bump i
def opnM (m : DM) (u f : Nat) : DM := if u = 0 then bumps m 2 else (bumps m 2).bump f
theorem bumps_now (m : DM) (i j : Nat) : (bumps m i).now j = m.now j := by
  induction i with
  | zero => rfl
  | succ i ih => exact ih
theorem bumps_eq (m : DM) (i : Nat) : (bumps m i).hs = m.hs ∧ (bumps m i).sz = m.sz ∧ (bumps m i).B = m.B ∧ (bumps m i).down = m.down ∧ (bumps m i).cap = m.cap := by
  induction i with
  | zero => exact ⟨rfl, rfl, rfl, rfl, rfl⟩
  | succ i ih => exact ih
theorem Rest.bump {m : DM} {n : Nat} (R : Rest m n) (i : Nat) : Rest (m.bump i) (n + 1) := ⟨R.ok.bump i, R.left, R.down, R.wait, R.sz, R.nb⟩
theorem Rest.bumps {m : DM} {n : Nat} (R : Rest m n) (i : Nat) : Rest (bumps m i) (n + i) := by
  induction i with
  | zero => exact R
  | succ i ih => exact ih.bump i
theorem Rest.mono {m : DM} {n n' : Nat} (R : Rest m n) (h : n ≤ n') : Rest m n' := ⟨R.ok.mono h, R.left, R.down, R.wait, R.sz, R.nb⟩
theorem stepH_gen (m : DM) (c : Hd) (i : Nat) (h : c.gen ≤ 9223372036854775807) : (stepH m c i).gen ≤ 9223372036854775807 := by
  unfold stepH
  split
  · rename_i h1; unfold HdrOk at h1; exact h1.1.2.2.1
  · exact h
theorem foldH_gen (m : DM) (i : Nat) : (foldH m i).gen ≤ 9223372036854775807 := by
  induction i with
  | zero => simp [foldH]
  | succ i ih => exact stepH_gen m _ i ih

theorem foldH_half (m : DM) (i : Nat) : (foldH m i).half ≤ 1 := by
  induction i with
  | zero => simp [foldH]
  | succ i ih =>
    show (stepH m (foldH m i) i).half ≤ 1
    unfold stepH
    split
    · rename_i h1; unfold HdrOk at h1; exact h1.1.2.2.2.1
    · exact ih

set_option maxRecDepth 100000
set_option maxHeartbeats 6400000

theorem open_no {base : Nat} {w : World} {D : Nat} {m : DM} (K : DK base w D m) (hb : m.B.length ≤ 4096) (hz : m.sz ≤ 512) (hc : m.cap = 0) : Calls Try.prog 14 #[.pointer (some ⟨D, 0, none⟩)] w fun e w' => e = .returned (.tuple #[.pointer none, .int .i64 30]) ∧ Ext w w' := by
  have CP := cap0_any K hb hz
  rw [hc] at CP
  have CPH := Lib.hid CP
  clear CP K hc
  go_enter Try.func14, Try.ntmps14
  go_wp2_with fail
  refine CPH.out.mono ?_
  rintro e w1 ⟨rfl, hE⟩
  have E1 := Lib.hid hE
  clear hE
  go_wp2
  go_ret2
  exact ⟨rfl, E1.out⟩

theorem open_all {base : Nat} {w : World} {D : Nat} {m : DM} {n : Nat} (K : DK base w D m) (R : Rest m n) (hn : n ≤ 700000) (hbase : base ≤ w.heap.size) (hsmall : (foldH m 2).snap + (foldH m 2).log ≤ m.sz) :
    Calls Try.prog 14 #[.pointer (some ⟨D, 0, none⟩)] w fun e w' => ∃ x, e = .returned (.tuple #[x, .int .i64 (if (foldH m 2).gen = 0 then 43 else 0)]) ∧ Keep w w' (TchS base w) ∧
      ((foldH m 2).gen = 0 → x = .pointer none ∧ DK base w' D (bumps m 2)) ∧ ((foldH m 2).gen ≠ 0 → ∃ s m' A k cap, x = .pointer (some ⟨s, 0, none⟩) ∧ w.heap.size ≤ s ∧ DK base w' D m' ∧ Rest m' (n + 3) ∧ m' = opnM m ((foldH m 2).snap + (foldH m 2).log) (2 + (foldH m 2).half * m.hs) ∧
        StAt base w' s D (foldH m 2) A k cap ((m.now (2 + (foldH m 2).half * m.hs)).take ((foldH m 2).snap + (foldH m 2).log)) false) := by
  have hb := R.bounds
  have CP : Hid (∀ wx i, DK base wx D (bumps m i) → Calls Try.prog 12 #[.pointer (some ⟨D, 0, none⟩)] wx fun e w' => e = .returned (.int .i64 (m.cap : Int)) ∧ Ext wx w') := Lib.hid fun wx i h => by
    have e := bumps_eq m i
    rw [← e.2.2.2.2]
    exact cap0_any h (by rw [e.2.2.1]; omega) (by rw [e.2.1]; omega)
  have CI : Hid (I64 (m.cap : Int)) := Lib.hid (by rw [hb.2.2.2.2.2.1]; unfold I64; omega)
  obtain ⟨C, hC⟩ : ∃ C, m.cap = C := ⟨_, rfl⟩
  have hC0 : ¬ C = 0 := by
    rw [← hC, hb.2.2.2.2.2.1]
    have : 0 < m.hs := by unfold DM.hs; omega
    exact Nat.ne_of_gt (Nat.mul_pos this (by omega))
  have hC1 : ((C : Int) == 0) = false := by simp; omega
  have HCC := Lib.hid hC
  rw [hC] at CP CI
  have HR := Lib.hid R
  have HBS := Lib.hid hbase
  have HK := Lib.hid K
  have HSM := Lib.hid hsmall
  obtain ⟨sz, hsz⟩ : ∃ x, m.sz = x := ⟨_, rfl⟩
  have HSZ := Lib.hid hsz
  rw [hsz] at hb
  have hs1 := hb.1
  have hs2 := hb.2.1
  have HBD := Lib.hid hb
  clear K R hC hb hsz hbase hsmall
  obtain ⟨H2, hH2⟩ : ∃ x, foldH m 2 = x := ⟨_, rfl⟩
  have hhf : H2.half ≤ 1 := by rw [← hH2]; exact foldH_half m 2
  have hgn : H2.gen ≤ 9223372036854775807 := by rw [← hH2]; exact foldH_gen m 2
  have SM := HSM.out
  rw [hH2] at SM ⊢
  rw [HSZ.out] at SM
  obtain ⟨U, hU⟩ : ∃ x, H2.snap + H2.log = x := ⟨_, rfl⟩
  rw [hU] at SM ⊢
  have HU := Lib.hid hU
  obtain ⟨RV, hRV⟩ : ∃ x : Int, (if H2.gen = 0 then 43 else 0) = x := ⟨_, rfl⟩
  rw [hRV]
  have HRV := Lib.hid hRV
  have HH2 := Lib.hid hH2
  clear hU hH2 HSM hRV
  go_enter Try.func14, Try.ntmps14
  go_wp2_with fail
  refine (CP.out w 0 HK.out).mono ?_
  rintro e w1 ⟨rfl, hE⟩
  have E1 := Lib.hid hE
  clear hE
  go_wp2_with fail
  obtain ⟨s, hs⟩ : ∃ s, w1.heap.size = s := ⟨_, rfl⟩
  obtain ⟨w2, hw2⟩ : ∃ w2, w1.alloc (.cells #[.pointer (some ⟨D, 0, none⟩), .int .i64 0, .int .i64 0, .int .i64 0, .int .i64 0, .slice none 0 0, .bool false] 71) = w2 := ⟨_, rfl⟩
  have E2 : Ext w w2 := by rw [← hw2]; exact E1.out.alloc _
  have hsb : w.heap.size ≤ s := by have := E1.out.size; omega
  have ST2 : Hid (StAt base w2 s D (foldH m 0) none 0 0 [] false ∧ DK base w2 D (bumps m 0) ∧ Keep w w2 (TchS base w)) := Lib.hid ⟨⟨by rw [← hw2, ← hs]; simp only [World.alloc]; rw [Array.getElem?_push_size]; rfl, Nat.le_trans HBS.out hsb, Own.nil _ _⟩, HK.out.ext E2, Keep.ofExt E2 _⟩
  rw [hw2, hs]
  have HSB := Lib.hid hsb
  clear hw2 hs E2 E1 hsb
  go_loopw [19] (fun t19 wr => ∃ i : Nat, i ≤ 2 ∧ t19 = .int .i64 (i : Int) ∧ Hid (StAt base wr s D (foldH m i) none 0 0 [] false ∧ DK base wr D (bumps m i) ∧ Keep w wr (TchS base w))) (fun t19 _ => 2 - (intOf t19).toNat)
  case atStart => exact ⟨0, by omega, rfl, ST2⟩
  case round =>
    clear ST2
    obtain ⟨i, hi, rfl, ST⟩ := hrel
    by_cases hlt : i < 2
    · have hlt' : (i : Int) < 2 := by omega
      have hck : (bumps m i).check (i : Int) = 0 := by
        have e := bumps_eq m i
        have := HBD.out.2.2.1
        unfold DM.check
        rw [e.2.2.2.1, HR.out.down, e.2.2.1, if_neg (by simp), if_neg (by omega)]
      have RD := read_d (base := base) i wr ST.out.2.1 (HR.out.bumps i).ok (by omega) hck
      rw [(bumps_eq m i).2.1, HSZ.out, bumps_now] at RD
      have RDH := Lib.hid RD
      clear RD hck
      go_wp2_with fail
      refine RDH.out.mono ?_
      rintro e w3 ⟨A, c, rfl, hO, hD, hK⟩
      have S3 : Hid (StAt base w3 s D (foldH m i) none 0 0 [] false ∧ DK base w3 D (bumps m (i + 1)) ∧ Keep w w3 (TchS base w)) := Lib.hid ⟨ST.out.1.keep hK, hD, ST.out.2.2.tchS hK.ofTch⟩
      have O3 := Lib.hid hO
      clear hO hD hK RDH ST
      go_wp2_with fail
      refine (CP.out w3 (i + 1) S3.out.2.1).mono ?_
      rintro e w4 ⟨rfl, hE⟩
      have S4 : Hid (StAt base w4 s D (foldH m i) none 0 0 [] false ∧ DK base w4 D (bumps m (i + 1)) ∧ Keep w w4 (TchS base w)) := Lib.hid ⟨S3.out.1.ext hE, S3.out.2.1.ext hE, S3.out.2.2.tchS (Keep.ofExt hE _)⟩
      have B4 := Lib.hid (O3.out.ext hE).bytes
      have hlen : (m.now i).length = sz := by rw [← HSZ.out]; exact HR.out.ok.nowLen (by have := HBD.out.2.2.1; omega)
      have HLN := Lib.hid hlen
      clear hE S3 O3 hlen
      have DC := decode_any (.slice A sz c) (m.now i) (C : Int) w4 B4.out (by rw [HLN.out]; omega) CI.out
      have DCH := Lib.hid DC
      clear DC
      go_wp2_with fail
      refine DCH.out.mono ?_
      rintro e w5 ⟨rfl, hE⟩
      have S5 : Hid (StAt base w5 s D (foldH m i) none 0 0 [] false ∧ DK base w5 D (bumps m (i + 1)) ∧ Keep w w5 (TchS base w)) := Lib.hid ⟨S4.out.1.ext hE, S4.out.2.1.ext hE, S4.out.2.2.tchS (Keep.ofExt hE _)⟩
      clear hE S4 B4 DCH
      by_cases hok : HdrOk (m.now i) (C : Int)
      · unfold decOut
        rw [if_pos hok]
        unfold hdrOut
        obtain ⟨x0, hx0⟩ : ∃ x, fGen (m.now i) = x := ⟨_, rfl⟩
        obtain ⟨x1, hx1⟩ : ∃ x, fHalf (m.now i) = x := ⟨_, rfl⟩
        obtain ⟨x2, hx2⟩ : ∃ x, fSnap (m.now i) = x := ⟨_, rfl⟩
        obtain ⟨x3, hx3⟩ : ∃ x, fLog (m.now i) = x := ⟨_, rfl⟩
        rw [hx0, hx1, hx2, hx3]
        obtain ⟨y0, hy0⟩ : ∃ x, (foldH m i).gen = x := ⟨_, rfl⟩
        have STEP : Hid (foldH m (i + 1) = if y0 < x0 then ⟨x0, x1, x2, x3⟩ else foldH m i) := Lib.hid (by
          show stepH m (foldH m i) i = _
          unfold stepH
          rw [HCC.out, hx0, hx1, hx2, hx3, hy0]
          by_cases h9 : y0 < x0
          · rw [if_pos ⟨hok, h9⟩, if_pos h9]
          · rw [if_neg (fun h => h9 h.2), if_neg h9])
        obtain ⟨d0, d1, d2, d3, d4, d5, d6, df, dl⟩ := S5.out.1.cells
        rw [hy0] at d1
        clear hx0 hx1 hx2 hx3 hy0 hok d0 d2 d3 d4 d5 d6
        go_wp2_with fail
        obtain ⟨g, hg⟩ : ∃ g, w5.heap.size = g := ⟨_, rfl⟩
        obtain ⟨w6, hw6⟩ : ∃ w6, w5.alloc (.cells #[.int .i64 (x0 : Int), .int .i64 (x1 : Int), .int .i64 (x2 : Int), .int .i64 (x3 : Int)] 23) = w6 := ⟨_, rfl⟩
        rw [hw6, hg]
        have E6 : Ext w5 w6 := by rw [← hw6]; exact (Ext.refl _).alloc _
        have S6 : Hid (StAt base w6 s D (foldH m i) none 0 0 [] false ∧ DK base w6 D (bumps m (i + 1)) ∧ Keep w w6 (TchS base w)) := Lib.hid ⟨S5.out.1.ext E6, S5.out.2.1.ext E6, S5.out.2.2.tchS (Keep.ofExt E6 _)⟩
        have hgs : g < w6.heap.size := by rw [← hw6, ← hg]; simp
        have hgb : w6.heap[g]? = some (.cells #[.int .i64 (x0 : Int), .int .i64 (x1 : Int), .int .i64 (x2 : Int), .int .i64 (x3 : Int)] 23 (0, 0)) := by rw [← hw6, ← hg]; simp only [World.alloc]; rw [Array.getElem?_push_size]
        have hsl := S6.out.1.lt
        have e0 : ∀ g', (w6.ext g').cell? ⟨g, 0, none⟩ = some (.int .i64 (x0 : Int)) := fun g' => (Ext.cell (⟨g', rfl⟩ : Ext w6 (w6.ext g')) hgs).trans (cell_of_row w6 g 0 _ _ (0, 0) hgb)
        have e1 : ∀ g', (w6.ext g').cell? ⟨s, 1, none⟩ = some (.int .i64 (y0 : Int)) := fun g' => ((E6.trans ⟨g', rfl⟩).cell dl).trans d1
        have HGB := Lib.hid hgb
        clear hw6 hg E6 S5 d1 df dl hgb
        refine region_quiet (by kernel_rfl) (by kernel_rfl) ?_
        iterate 11 (go_big_quiet_step (fail))
        refine wpQuiet_nil ?_
        intro w7 hE
        have S7 : Hid (StAt base w7 s D (foldH m i) none 0 0 [] false ∧ DK base w7 D (bumps m (i + 1)) ∧ Keep w w7 (TchS base w)) := Lib.hid ⟨S6.out.1.ext hE, S6.out.2.1.ext hE, S6.out.2.2.tchS (Keep.ofExt hE _)⟩
        have hgb := hE.heapAt HGB.out
        have n0 : w7.cell? ⟨g, 0, none⟩ = some (.int .i64 (x0 : Int)) := cell_of_row w7 g 0 _ _ (0, 0) hgb
        have n1 : w7.cell? ⟨g, 1, none⟩ = some (.int .i64 (x1 : Int)) := cell_of_row w7 g 1 _ _ (0, 0) hgb
        have n2 : w7.cell? ⟨g, 2, none⟩ = some (.int .i64 (x2 : Int)) := cell_of_row w7 g 2 _ _ (0, 0) hgb
        have n3 : w7.cell? ⟨g, 3, none⟩ = some (.int .i64 (x3 : Int)) := cell_of_row w7 g 3 _ _ (0, 0) hgb
        obtain ⟨d0, d1, d2, d3, d4, d5, d6, df, dl⟩ := S7.out.1.cells
        clear e0 e1 hE HGB S6 hgs hsl hgb
        by_cases h9 : y0 < x0
        · have h9' : (y0 : Int) < (x0 : Int) := by omega
          have SF := STEP.out
          rw [if_pos h9] at SF
          have SFH := Lib.hid SF
          clear SF STEP
          have S8 : Hid (StAt base ((((w7.setCell ⟨s, 1, none⟩ (.int .i64 (x0 : Int))).setCell ⟨s, 2, none⟩ (.int .i64 (x1 : Int))).setCell ⟨s, 3, none⟩ (.int .i64 (x2 : Int))).setCell ⟨s, 4, none⟩ (.int .i64 (x3 : Int))) s D (foldH m (i + 1)) none 0 0 [] false ∧ DK base ((((w7.setCell ⟨s, 1, none⟩ (.int .i64 (x0 : Int))).setCell ⟨s, 2, none⟩ (.int .i64 (x1 : Int))).setCell ⟨s, 3, none⟩ (.int .i64 (x2 : Int))).setCell ⟨s, 4, none⟩ (.int .i64 (x3 : Int))) D (bumps m (i + 1)) ∧ Keep w ((((w7.setCell ⟨s, 1, none⟩ (.int .i64 (x0 : Int))).setCell ⟨s, 2, none⟩ (.int .i64 (x1 : Int))).setCell ⟨s, 3, none⟩ (.int .i64 (x2 : Int))).setCell ⟨s, 4, none⟩ (.int .i64 (x3 : Int))) (TchS base w)) := by
            rw [SFH.out]
            have P0 := S7.out.1
            have P1 := P0.put (h' := ⟨x0, (foldH m i).half, (foldH m i).snap, (foldH m i).log⟩) 1 (.int .i64 (x0 : Int)) rfl P0.own
            have P2 := P1.put (h' := ⟨x0, x1, (foldH m i).snap, (foldH m i).log⟩) 2 (.int .i64 (x1 : Int)) rfl P1.own
            have P3 := P2.put (h' := ⟨x0, x1, x2, (foldH m i).log⟩) 3 (.int .i64 (x2 : Int)) rfl P2.own
            have P4 := P3.put (h' := ⟨x0, x1, x2, x3⟩) 4 (.int .i64 (x3 : Int)) rfl P3.own
            have KS := (((Keep.setCell (w := w7) (g := s) (i := 1) (v := .int .i64 (x0 : Int))).trans (Keep.setCell (i := 2) (v := .int .i64 (x1 : Int))) (fun _ _ h => h)).trans (Keep.setCell (i := 3) (v := .int .i64 (x2 : Int))) (fun _ _ h => h)).trans (Keep.setCell (i := 4) (v := .int .i64 (x3 : Int))) (fun _ _ h => h)
            exact Lib.hid ⟨P4, S7.out.2.1.off KS P0.tch, S7.out.2.2.tchS (KS.mono P0.tchS)⟩
          clear S7 SFH
          go_wp2
          go_roundw
          case rel => exact ⟨i + 1, by omega, by go_num, S8⟩
          case measure => simp [intOf]; omega
        · have h9' : ¬ (y0 : Int) < (x0 : Int) := by omega
          have SF := STEP.out
          rw [if_neg h9] at SF
          have S8 : Hid (StAt base w7 s D (foldH m (i + 1)) none 0 0 [] false ∧ DK base w7 D (bumps m (i + 1)) ∧ Keep w w7 (TchS base w)) := by rw [SF]; exact S7
          clear SF STEP S7 d0 d1 d2 d3 d4 d5 d6 df dl n0 n1 n2 n3
          go_wp2
          go_roundw
          case rel => exact ⟨i + 1, by omega, by go_num, S8⟩
          case measure => simp [intOf]; omega
      · unfold decOut
        rw [if_neg hok]
        unfold hdrOut
        have STEP : foldH m (i + 1) = foldH m i := by
          show stepH m (foldH m i) i = _
          unfold stepH
          rw [HCC.out, if_neg (fun h => hok h.1)]
        rw [← STEP] at S5
        clear STEP hok
        go_wp2_with fail
        obtain ⟨w6, hw6⟩ : ∃ w6, w5.alloc (.cells #[.int .i64 0, .int .i64 0, .int .i64 0, .int .i64 0] 23) = w6 := ⟨_, rfl⟩
        rw [hw6]
        have E6 : Ext w5 w6 := by rw [← hw6]; exact (Ext.refl _).alloc _
        have S6 : Hid (StAt base w6 s D (foldH m (i + 1)) none 0 0 [] false ∧ DK base w6 D (bumps m (i + 1)) ∧ Keep w w6 (TchS base w)) := Lib.hid ⟨S5.out.1.ext E6, S5.out.2.1.ext E6, S5.out.2.2.tchS (Keep.ofExt E6 _)⟩
        clear hw6 E6 S5
        refine region_quiet (by kernel_rfl) (by kernel_rfl) ?_
        iterate 11 (go_big_quiet_step (fail))
        refine wpQuiet_nil ?_
        intro w7 hE
        have S7 : Hid (StAt base w7 s D (foldH m (i + 1)) none 0 0 [] false ∧ DK base w7 D (bumps m (i + 1)) ∧ Keep w w7 (TchS base w)) := Lib.hid ⟨S6.out.1.ext hE, S6.out.2.1.ext hE, S6.out.2.2.tchS (Keep.ofExt hE _)⟩
        clear hE S6
        go_wp2
        go_roundw
        case rel => exact ⟨i + 1, by omega, by go_num, S7⟩
        case measure => simp [intOf]; omega
    · have hlt' : ¬ (i : Int) < 2 := by omega
      have ei2 : i = 2 := by omega
      rw [ei2] at ST
      clear ei2 hlt hi
      obtain ⟨d0, d1, d2, d3, d4, d5, d6, df, dl⟩ := ST.out.1.cells
      rw [HH2.out] at ST d1 d2 d3 d4
      by_cases hg0 : H2.gen = 0
      · have d1' : wr.cell? ⟨s, 1, none⟩ = some (.int .i64 0) := by rw [d1, hg0]; rfl
        clear d1
        obtain rfl : RV = 43 := by rw [← HRV.out, if_pos hg0]
        have HG0 := Lib.hid hg0
        clear hg0
        go_wp2
        go_ret2
        exact ⟨_, rfl, ST.out.2.2, fun _ => ⟨rfl, ST.out.2.1⟩, fun h => absurd HG0.out h⟩
      · obtain rfl : RV = 0 := by rw [← HRV.out, if_neg hg0]
        have hg1 : ((H2.gen : Int) == 0) = false := by simp; omega
        have HG0 := Lib.hid hg0
        clear hg0
        by_cases hu : U = 0
        · have HUZ := Lib.hid hu
          clear hu
          go_wp2_with fail
          refine wp_loop_rounds 1 ?_
          rw [rounds_succ]
          go_wp2_with fail
          have US : Hid (∀ wx, Ext wr wx → Calls Try.prog 36 #[.pointer (some ⟨s, 0, none⟩)] wx fun e w' => e = .returned (.int .i64 0) ∧ Ext wx w') := Lib.hid fun wx he => by
            have h9 := used_any (ST.out.1.ext he) (by rw [HU.out]; omega)
            rw [HU.out, HUZ.out] at h9
            exact h9
          obtain ⟨d0, d1, d2, d3, d4, d5, d6, df, dl⟩ := ST.out.1.cells
          have e5 : ∀ g', (wr.ext g').cell? ⟨s, 5, none⟩ = some (.slice none 0 0) := fun g' => (Ext.cell (⟨g', rfl⟩ : Ext wr (wr.ext g')) dl).trans d5
          clear d0 d1 d2 d3 d4 d5 d6 df dl
          refine region_quiet (by kernel_rfl) (by kernel_rfl) ?_
          iterate 8 (go_big_quiet_step (exact calls_ext (US.out _ ⟨_, rfl⟩)))
          refine wpQuiet_nil ?_
          intro w2 hE
          have S2 : Hid (StAt base w2 s D H2 none 0 0 [] false ∧ DK base w2 D (bumps m 2) ∧ Keep w w2 (TchS base w)) := Lib.hid ⟨ST.out.1.ext hE, ST.out.2.1.ext hE, ST.out.2.2.tchS (Keep.ofExt hE _)⟩
          clear hE US e5 ST
          go_wp2_with fail
          have US : Hid (∀ wx, Ext w2 wx → Calls Try.prog 36 #[.pointer (some ⟨s, 0, none⟩)] wx fun e w' => e = .returned (.int .i64 0) ∧ Ext wx w') := Lib.hid fun wx he => by
            have h9 := used_any (S2.out.1.ext he) (by rw [HU.out]; omega)
            rw [HU.out, HUZ.out] at h9
            exact h9
          obtain ⟨d0, d1, d2, d3, d4, d5, d6, df, dl⟩ := S2.out.1.cells
          have e5 : ∀ g', (w2.ext g').cell? ⟨s, 5, none⟩ = some (.slice none 0 0) := fun g' => (Ext.cell (⟨g', rfl⟩ : Ext w2 (w2.ext g')) dl).trans d5
          clear d0 d1 d2 d3 d4 d5 d6 df
          go_wp2_with fail
          refine region_tail 10 (by kernel_rfl) (by kernel_rfl) ?_
          simp only [List.take_succ_cons, List.take_zero, List.drop_succ_cons, List.drop_zero]
          iterate 10 (go_big_quiet_step (exact calls_ext (US.out _ ⟨_, rfl⟩)))
          refine wpQuiet_nil ?_
          intro w9 hE
          have Q0 := S2.out.1.ext hE
          have KS := Keep.setCell (w := w9) (g := s) (i := 5) (v := .slice none 0 0)
          have Q1 := Q0.put (h' := H2) 5 (.slice none 0 0) rfl (Own.nil _ _)
          have FIN := Lib.hid (And.intro Q1 (And.intro ((S2.out.2.1.ext hE).off KS Q0.tch) ((S2.out.2.2.tchS (Keep.ofExt hE _)).tchS (KS.mono Q0.tchS))))
          obtain ⟨d0, d1, d2, d3, d4, d5, d6, df, dl⟩ := Q0.cells
          clear Q0 Q1 KS hE e5 US d0 d1 d2 d3 d4 d6
          go_wp2
          go_ret2
          refine ⟨_, rfl, FIN.out.2.2, fun h => absurd h HG0.out, fun _ => ⟨s, _, none, 0, 0, rfl, HSB.out, FIN.out.2.1, (HR.out.bumps 2).mono (by omega), by unfold opnM; rw [if_pos HUZ.out], ?_⟩⟩
          rw [HUZ.out, List.take_zero]
          exact FIN.out.1
        · have hup : 0 < U := by omega
          clear hu
          go_wp2_with fail
          refine wp_loop_rounds 2 ?_
          rw [rounds_succ]
          go_wp2_with fail
          have US : Hid (∀ wx, Ext wr wx → Calls Try.prog 36 #[.pointer (some ⟨s, 0, none⟩)] wx fun e w' => e = .returned (.int .i64 (U : Int)) ∧ Ext wx w') := Lib.hid fun wx he => by
            have h9 := used_any (ST.out.1.ext he) (by rw [HU.out]; omega)
            rw [HU.out] at h9
            exact h9
          obtain ⟨d0, d1, d2, d3, d4, d5, d6, df, dl⟩ := ST.out.1.cells
          have e5 : ∀ g', (wr.ext g').cell? ⟨s, 5, none⟩ = some (.slice none 0 0) := fun g' => (Ext.cell (⟨g', rfl⟩ : Ext wr (wr.ext g')) dl).trans d5
          clear d0 d1 d2 d3 d4 d5 d6 df dl
          refine region_quiet (by kernel_rfl) (by kernel_rfl) ?_
          iterate 8 (go_big_quiet_step (exact calls_ext (US.out _ ⟨_, rfl⟩)))
          refine wpQuiet_nil ?_
          intro w2 hE
          have S2 : Hid (StAt base w2 s D H2 none 0 0 [] false ∧ DK base w2 D (bumps m 2) ∧ Keep w w2 (TchS base w)) := Lib.hid ⟨ST.out.1.ext hE, ST.out.2.1.ext hE, ST.out.2.2.tchS (Keep.ofExt hE _)⟩
          clear hE US e5 ST
          obtain ⟨F, hF⟩ : ∃ x, 2 + H2.half * m.hs = x := ⟨_, rfl⟩
          have hFb : F < m.B.length := by
            have h1 : H2.half * m.hs ≤ 1 * m.hs := Nat.mul_le_mul hhf (Nat.le_refl _)
            have h2 := HBD.out.2.2.1
            have h3 : 2 + 2 * m.hs ≤ m.B.length := by unfold DM.hs; omega
            have h4 : 0 < m.hs := by unfold DM.hs; omega
            omega
          have hF60 : F ≤ 60 := by have := HBD.out.2.2.2.1; omega
          have HF := Lib.hid hF
          have FA := first_any H2.half S2.out.1 S2.out.2.1 (by show 4 ≤ m.B.length; exact HBD.out.2.2.1) (by show m.B.length ≤ 4096; have := HBD.out.2.2.2.1; omega) hhf
          rw [(bumps_eq m 2).1, hF] at FA
          have FAH := Lib.hid FA
          clear FA hF
          obtain ⟨d0, d1, d2, d3, d4, d5, d6, df, dl⟩ := S2.out.1.cells
          go_wp2_with fail
          refine FAH.out.mono ?_
          rintro e w3 ⟨rfl, hE⟩
          have S3 : Hid (StAt base w3 s D H2 none 0 0 [] false ∧ DK base w3 D (bumps m 2) ∧ Keep w w3 (TchS base w)) := Lib.hid ⟨S2.out.1.ext hE, S2.out.2.1.ext hE, S2.out.2.2.tchS (Keep.ofExt hE _)⟩
          clear hE FAH S2 d0 d1 d2 d3 d4 d5 d6 df dl
          have hck : (bumps m 2).check (F : Int) = 0 := by
            have e := bumps_eq m 2
            unfold DM.check
            rw [e.2.2.2.1, HR.out.down, e.2.2.1, if_neg (by simp), if_neg (by omega)]
          have RD := read_d (base := base) F w3 S3.out.2.1 (HR.out.bumps 2).ok (by omega) hck
          rw [(bumps_eq m 2).2.1, HSZ.out, bumps_now] at RD
          have RDH := Lib.hid RD
          clear RD hck
          go_wp2_with fail
          refine RDH.out.mono ?_
          rintro e w4 ⟨A, c, rfl, hO, hD, hK⟩
          have S4 : Hid (StAt base w4 s D H2 none 0 0 [] false ∧ DK base w4 D ((bumps m 2).bump F) ∧ Keep w w4 (TchS base w)) := Lib.hid ⟨S3.out.1.keep hK, hD, S3.out.2.2.tchS hK.ofTch⟩
          have O4 := Lib.hid hO.bytes
          have hlen : (m.now F).length = sz := by rw [← HSZ.out]; exact HR.out.ok.nowLen hFb
          have HLN := Lib.hid hlen
          obtain ⟨d0, d1, d2, d3, d4, d5, d6, df, dl⟩ := S4.out.1.cells
          have ON : Hid (Own base w4 none 0 0 []) := Lib.hid (Own.nil _ _)
          have ZZ : Hid (([] : List Nat).length + (m.now F).length ≤ 70368744177664) := Lib.hid (by rw [hlen]; simp; omega)
          have BS : Hid (base ≤ w4.heap.size) := Lib.hid (by have := S4.out.1.lt; have := S4.out.1.lo; omega)
          clear hO hD hK RDH S3 hlen d0 d1 d2 d3 d4 d6
          go_wp2_with (at_builtin; refine wpList_app rfl (.tmp 91) (.tmp 92) rfl rfl rfl ON.out O4.out ZZ.out BS.out ?_)
          intro A5 k5 c5 w5 hO hgr
          obtain rfl : sz = k5 := (hO.1.trans HLN.out).symm
          have E5 : Ext w4 w5 := Keep.toExt (Ext.refl w4) (Keep.grown hgr) (by simp [Value.ownBlock])
          have T5 := S4.out.1.ext E5
          have KS := Keep.setCell (w := w5) (g := s) (i := 5) (v := .slice A5 sz c5)
          have T6 := T5.put (h' := H2) 5 (.slice A5 sz c5) rfl hO
          have S6 : Hid (StAt base (w5.setCell ⟨s, 5, none⟩ (.slice A5 sz c5)) s D H2 A5 sz c5 (m.now F) false ∧ DK base (w5.setCell ⟨s, 5, none⟩ (.slice A5 sz c5)) D ((bumps m 2).bump F) ∧ Keep w (w5.setCell ⟨s, 5, none⟩ (.slice A5 sz c5)) (TchS base w)) :=
            Lib.hid ⟨T6, (S4.out.2.1.ext E5).off KS T5.tch, (S4.out.2.2.tchS (Keep.ofExt E5 _)).tchS (KS.mono T5.tchS)⟩
          have hdl5 : s < w5.heap.size := T5.lt
          obtain ⟨d0, d1, d2, d3, d4, d5, d6, df, dl⟩ := T5.cells
          clear d0 d1 d2 d3 d4 d6 hO hgr E5 T5 KS T6 S4 O4 ON ZZ BS
          go_wp2_with fail
          obtain ⟨w6, hw6⟩ : ∃ w6, w5.setCell ⟨s, 5, none⟩ (.slice A5 sz c5) = w6 := ⟨_, rfl⟩
          rw [hw6] at S6 ⊢
          clear hw6 d5 df dl hdl5
          rw [rounds_succ]
          go_wp2_with fail
          have US : Hid (∀ wx, Ext w6 wx → Calls Try.prog 36 #[.pointer (some ⟨s, 0, none⟩)] wx fun e w' => e = .returned (.int .i64 (U : Int)) ∧ Ext wx w') := Lib.hid fun wx he => by
            have h9 := used_any (S6.out.1.ext he) (by rw [HU.out]; omega)
            rw [HU.out] at h9
            exact h9
          obtain ⟨d0, d1, d2, d3, d4, d5, d6, df, dl⟩ := S6.out.1.cells
          have e5 : ∀ g', (w6.ext g').cell? ⟨s, 5, none⟩ = some (.slice A5 sz c5) := fun g' => (Ext.cell (⟨g', rfl⟩ : Ext w6 (w6.ext g')) dl).trans d5
          clear d0 d1 d2 d3 d4 d5 d6 df dl
          refine region_quiet (by kernel_rfl) (by kernel_rfl) ?_
          iterate 8 (go_big_quiet_step (exact calls_ext (US.out _ ⟨_, rfl⟩)))
          refine wpQuiet_nil ?_
          intro w7 hE
          have S7 : Hid (StAt base w7 s D H2 A5 sz c5 (m.now F) false ∧ DK base w7 D ((bumps m 2).bump F) ∧ Keep w w7 (TchS base w)) := Lib.hid ⟨S6.out.1.ext hE, S6.out.2.1.ext hE, S6.out.2.2.tchS (Keep.ofExt hE _)⟩
          clear hE US e5 S6
          have hUsz : ¬ (sz : Int) < (U : Int) := by omega
          have hc5 : sz ≤ c5 := by
            rcases own_cases S7.out.1.own with ⟨-, h1, -⟩ | ⟨_, -, h1, -⟩
            · omega
            · exact h1
          have hUc : U ≤ c5 := by omega
          go_wp2_with fail
          have US : Hid (∀ wx, Ext w7 wx → Calls Try.prog 36 #[.pointer (some ⟨s, 0, none⟩)] wx fun e w' => e = .returned (.int .i64 (U : Int)) ∧ Ext wx w') := Lib.hid fun wx he => by
            have h9 := used_any (S7.out.1.ext he) (by rw [HU.out]; omega)
            rw [HU.out] at h9
            exact h9
          obtain ⟨d0, d1, d2, d3, d4, d5, d6, df, dl⟩ := S7.out.1.cells
          have e5 : ∀ g', (w7.ext g').cell? ⟨s, 5, none⟩ = some (.slice A5 sz c5) := fun g' => (Ext.cell (⟨g', rfl⟩ : Ext w7 (w7.ext g')) dl).trans d5
          clear d0 d1 d2 d3 d4 d5 d6 df
          go_wp2_with fail
          refine region_tail 10 (by kernel_rfl) (by kernel_rfl) ?_
          simp only [List.take_succ_cons, List.take_zero, List.drop_succ_cons, List.drop_zero]
          iterate 10 (go_big_quiet_step (exact calls_ext (US.out _ ⟨_, rfl⟩)))
          refine wpQuiet_nil ?_
          intro w9 hE
          have Q0 := S7.out.1.ext hE
          have KS := Keep.setCell (w := w9) (g := s) (i := 5) (v := .slice A5 U c5)
          have Q1 := Q0.put (h' := H2) 5 (.slice A5 U c5) rfl (own_prefix Q0.own U (by rw [HLN.out]; omega))
          have FIN := Lib.hid (And.intro Q1 (And.intro ((S7.out.2.1.ext hE).off KS Q0.tch) ((S7.out.2.2.tchS (Keep.ofExt hE _)).tchS (KS.mono Q0.tchS))))
          obtain ⟨d0, d1, d2, d3, d4, d5, d6, df, dl⟩ := Q0.cells
          clear Q0 Q1 KS hE e5 US d0 d1 d2 d3 d4 d6
          go_wp2
          go_ret2
          refine ⟨_, rfl, FIN.out.2.2, fun h => absurd h HG0.out, fun _ => ⟨s, _, A5, U, c5, rfl, HSB.out, FIN.out.2.1, ((HR.out.bumps 2).bump F).mono (by omega), by unfold opnM; rw [if_neg (by omega), HF.out], ?_⟩⟩
          rw [HF.out]
          exact FIN.out.1

end Go.Proofs.Ytbpdjekibcbaaaa
