import Derived.Test.YtbpdjekibcbaaaaSStD
namespace Go.Proofs.Ytbpdjekibcbaaaa
open Go.RowKit
set_option linter.unusedVariables false
set_option linter.unusedSimpArgs false

/-- the state of a save -/
structure SvSt (base : Nat) (w0 wr : World) (s D q : Nat) (h0 : Hd) (A0 : Option Addr) (n0 cap0 : Nat) (b0 : List Nat) (h : Hd) (Ab : Option Addr) (nb cb : Nat) (bl : List Nat) (m : DM) : Prop where
  st : StAt base wr s D h0 A0 n0 cap0 b0 true
  dk : DK base wr D m
  src : Own base wr Ab nb cb bl
  hd : wr.heap[q]? = some (.cells #[.int .i64 (h.gen : Int), .int .i64 (h.half : Int), .int .i64 (h.snap : Int), .int .i64 (h.log : Int)] 23 (0, 0))
  lo : base ≤ wr.heap.size
  kp : Keep w0 wr (TchS base w0)

section
variable {base : Nat} {w0 wr wx : World} {s D q : Nat} {h0 : Hd} {A0 : Option Addr} {n0 cap0 : Nat} {b0 : List Nat} {h : Hd} {Ab : Option Addr} {nb cb : Nat} {bl : List Nat} {m m' : DM}
theorem SvSt.ext (H : SvSt base w0 wr s D q h0 A0 n0 cap0 b0 h Ab nb cb bl m) (he : Ext wr wx) : SvSt base w0 wx s D q h0 A0 n0 cap0 b0 h Ab nb cb bl m :=
  ⟨H.st.ext he, H.dk.ext he, H.src.ext he, he.heapAt H.hd, Nat.le_trans H.lo he.size, H.kp.tchS (Keep.ofExt he _)⟩
theorem SvSt.disk (H : SvSt base w0 wr s D q h0 A0 n0 cap0 b0 h Ab nb cb bl m) (hk : Keep wr wx (Tch base wr)) (hd : DK base wx D m') : SvSt base w0 wx s D q h0 A0 n0 cap0 b0 h Ab nb cb bl m' := by
  refine ⟨H.st.keep hk, hd, H.src.tch hk, ?_, Nat.le_trans H.lo hk.size, H.kp.tchS hk.ofTch⟩
  rw [hk.block q (Array.getElem?_eq_some_iff.1 H.hd).1 ?_]
  · exact H.hd
  · rintro ⟨_, c, t, f, hh, ht⟩
    have := type_ne H.hd hh
    subst this
    exact absurd ht (by decide)
theorem SvSt.cells (H : SvSt base w0 wr s D q h0 A0 n0 cap0 b0 h Ab nb cb bl m) :
    (wr.cell? ⟨q, 0, none⟩ = some (.int .i64 (h.gen : Int)) ∧ wr.cell? ⟨q, 1, none⟩ = some (.int .i64 (h.half : Int)) ∧ wr.cell? ⟨q, 2, none⟩ = some (.int .i64 (h.snap : Int)) ∧ wr.cell? ⟨q, 3, none⟩ = some (.int .i64 (h.log : Int)) ∧ q < wr.heap.size) ∧
    wr.cell? ⟨s, 0, none⟩ = some (.pointer (some ⟨D, 0, none⟩)) ∧ s < wr.heap.size :=
  ⟨⟨cell_of_row wr q 0 _ _ (0, 0) H.hd, cell_of_row wr q 1 _ _ (0, 0) H.hd, cell_of_row wr q 2 _ _ (0, 0) H.hd, cell_of_row wr q 3 _ _ (0, 0) H.hd, (Array.getElem?_eq_some_iff.1 H.hd).1⟩, H.st.cells.1, H.st.lt⟩
end

theorem StAt.own_off {base base' : Nat} {w : World} {s D : Nat} {h : Hd} {A : Option Addr} {n cap : Nat} {b : List Nat} {dn : Bool} (H : StAt base w s D h A n cap b dn) {A' : Option Addr} {n' cap' : Nat} {b' : List Nat} (O : Own base' w A' n' cap' b') (j : Nat) (v : Value) : Own base' (w.setCell ⟨s, j, none⟩ v) A' n' cap' b' := by
  refine O.keep Keep.setCell ?_
  rintro k hk rfl
  obtain ⟨cur, hc⟩ := row_type O.2.1 hk
  exact absurd (type_ne hc H.blk) (by decide)

set_option maxRecDepth 100000 in
set_option maxHeartbeats 6400000 in
theorem save_any {base : Nat} (s D : Nat) (m : DM) (h0 N1 : Hd) (A0 : Option Addr) (n0 cap0 : Nat) (b0 : List Nat) (Ab : Option Addr) (nb cb : Nat) (bl : List Nat) (fr n : Nat) (w : World)
    (H : StAt base w s D h0 A0 n0 cap0 b0 false) (K : DK base w D m) (R : Rest m n) (hn : n ≤ 800000) (O : Own base w Ab nb cb bl) (hbase : base ≤ w.heap.size)
    (hg : N1.gen ≤ 1000000) (hh : N1.half ≤ 1) (hs : N1.snap ≤ 2147483648) (hl : N1.log ≤ 2147483648) (hlen : bl.length ≤ m.hs * m.sz) (hfr : fr * m.sz ≤ bl.length) :
    Calls Try.prog 34 #[.pointer (some ⟨s, 0, none⟩), .agg #[.int .i64 (N1.gen : Int), .int .i64 (N1.half : Int), .int .i64 (N1.snap : Int), .int .i64 (N1.log : Int)], .slice Ab nb cb, .int .i64 (fr : Int)] w fun e w' =>
      e = .returned (.int .i64 0) ∧ StAt base w' s D N1 Ab nb cb bl false ∧ DK base w' D (m.saved N1 bl fr (cnt bl.length m.sz fr)) ∧ Keep w w' (TchS base w) := by
  have hsz : 32 ≤ m.sz ∧ m.sz ≤ 512 := ⟨R.sz, R.ok.sz.2⟩
  have hnb := R.nb
  have hhs : m.hs ≤ 29 := by unfold DM.hs; omega
  have hhb : 2 + 2 * m.hs ≤ m.B.length := by unfold DM.hs; omega
  have hlen2 : bl.length ≤ 14848 := Nat.le_trans hlen (Nat.mul_le_mul hhs hsz.2)
  have hhm : N1.half * m.hs ≤ m.hs := by have := Nat.mul_le_mul hh (Nat.le_refl m.hs); omega
  have hjb : ∀ j, (fr + j) * m.sz < bl.length → fr + j < m.hs := fun j hj => Nat.lt_of_mul_lt_mul_right (Nat.lt_of_lt_of_le hj hlen)
  have hfr2 : fr ≤ 29 := by
    have := Nat.le_of_mul_le_mul_right (Nat.le_trans hfr hlen) (by omega : 0 < m.sz)
    omega
  obtain ⟨C, hC⟩ : ∃ C, cnt bl.length m.sz fr = C := ⟨_, rfl⟩
  have hlt : ∀ j, j ≤ C → (j < C ↔ (fr + j) * m.sz < bl.length) := fun j hj => by rw [← hC] at hj ⊢; exact cnt_lt (by omega) hfr hj
  rw [hC]
  have hC2 : C ≤ 29 := by
    rcases Nat.eq_zero_or_pos C with h1 | h1
    · omega
    · have := hjb (C - 1) ((hlt (C - 1) (by omega)).1 (by omega)); omega
  have hbnd : ∀ j, j < C → 2 + N1.half * m.hs + (fr + j) < m.B.length := fun j hj => by
    have := hjb j ((hlt j (by omega)).1 hj); omega
  have HLT := Lib.hid hlt
  have HBD := Lib.hid hbnd
  have RR := Lib.hid R
  have OL := Lib.hid O.1
  have HC0 := H.cells
  obtain ⟨c0, c1, c2, c3, c4, c5, c6, cf, cl⟩ := HC0
  have HH := Lib.hid (And.intro H (And.intro K O))
  obtain ⟨sz, hszv⟩ : ∃ x, m.sz = x := ⟨_, rfl⟩
  have HSZ := Lib.hid hszv
  have EQS := Lib.hid (R.eqs N1 bl fr C)
  have MOK := Lib.hid (R.midOk N1 bl fr C (by omega) hbnd)
  have HHM := Lib.hid (And.intro hhm (And.intro hhb hjb))
  rw [hszv] at hsz
  clear H K O hlt hbnd hC hjb hhm hhb hlen hfr R hszv c1 c2 c3 c4 c5
  go_enter Try.func34, Try.ntmps34
  go_wp2_with fail
  have E1 : Hid (Ext w (w.alloc (.cells #[.int .i64 (N1.gen : Int), .int .i64 (N1.half : Int), .int .i64 (N1.snap : Int), .int .i64 (N1.log : Int)] 23))) := Lib.hid ((Ext.refl w).alloc _)
  have DZ := dsize_any (HH.out.2.1.ext E1.out)
  rw [HSZ.out] at DZ
  refine DZ.mono ?_
  clear DZ
  rintro e w2 ⟨rfl, hE⟩
  obtain ⟨q, hq⟩ : ∃ q, w.heap.size = q := ⟨_, rfl⟩
  have E2 := Lib.hid (E1.out.trans hE)
  have hq2 : w2.heap[q]? = some (.cells #[.int .i64 (N1.gen : Int), .int .i64 (N1.half : Int), .int .i64 (N1.snap : Int), .int .i64 (N1.log : Int)] 23 (0, 0)) := hE.heapAt (by rw [← hq]; simp only [World.alloc]; rw [Array.getElem?_push_size])
  rw [hq]
  have H2 := HH.out.1.ext E2.out
  obtain ⟨d0, d1, d2, d3, d4, d5, d6, df, dl⟩ := H2.cells
  have hsq : s ≠ q := by have := HH.out.1.lt; omega
  have P2 := H2.put (b' := b0) 6 (.bool true) (h' := h0) (A' := A0) (n' := n0) (cap' := cap0) (dn' := true) rfl H2.own
  have ST0 : Hid (SvSt base w (w2.setCell ⟨s, 6, none⟩ (.bool true)) s D q h0 A0 n0 cap0 b0 N1 Ab nb cb bl (m.wrote N1.half bl fr 0)) := by
    refine Lib.hid ⟨P2, ?_, ?_, ?_, ?_, ?_⟩
    · rw [RR.out.wrote0]; exact (HH.out.2.1.ext E2.out).off Keep.setCell H2.tch
    · refine (HH.out.2.2.ext E2.out).keep Keep.setCell ?_
      rintro k hk rfl
      obtain ⟨cur, hc⟩ := row_type (HH.out.2.2.ext E2.out).2.1 hk
      exact absurd (type_ne hc H2.blk) (by decide)
    · rw [setCell_heap hsq.symm]; exact hq2
    · have := E2.out.size; simp; omega
    · exact (Keep.ofExt E2.out _).tchS (Keep.setCell.mono H2.tchS)
  clear P2 H2 hq2 hsq hE E1 hq hbase d1 d2 d3 d4 d5 c0 c6 cf cl
  go_wp2
  obtain ⟨w3, hw3⟩ : ∃ w3, w2.setCell ⟨s, 6, none⟩ (.bool true) = w3 := ⟨_, rfl⟩
  rw [hw3] at ST0 ⊢
  clear hw3 d0 d6 df dl E2
  go_loopw [10] (fun t10 wr => ∃ j i : Nat, j ≤ C ∧ t10 = .int .i64 (i : Int) ∧ Hid (i = fr + j ∧ SvSt base w wr s D q h0 A0 n0 cap0 b0 N1 Ab nb cb bl (m.wrote N1.half bl fr j))) (fun t10 _ => 4000 - (intOf t10).toNat)
  case atStart => exact ⟨0, fr, by omega, rfl, Lib.hid ⟨rfl, ST0.out⟩⟩
  case round =>
    clear ST0
    obtain ⟨j, i, hj, rfl, ST⟩ := hrel
    have hij := Lib.hid ST.out.1
    have S1 := Lib.hid ST.out.2
    clear ST
    obtain ⟨⟨q0, q1, q2, q3, hql⟩, z0, hzl⟩ := S1.out.cells
    have him : i ≤ 60 := by have := hij.out; omega
    obtain ⟨P, hP⟩ : ∃ P, i * sz = P := ⟨_, rfl⟩
    have hPi : (i : Int) * (sz : Int) = (P : Int) := by rw [← hP]; push_cast; rfl
    have hP2 : P ≤ 60 * 512 := by rw [← hP]; exact Nat.mul_le_mul him hsz.2
    have hiff : j < C ↔ P < nb := by
      have := HLT.out j hj
      rw [HSZ.out, ← hij.out, hP, ← OL.out] at this
      exact this
    have HP := Lib.hid hP
    clear hP
    by_cases hc : P < nb
    · have hc' : (P : Int) < (nb : Int) := by omega
      have hjC := hiff.2 hc
      have MK := zeros_u8 sz (by omega)
      obtain ⟨g, rfl, hcb, hcb2⟩ : ∃ g, Ab = some ⟨g, 0, none⟩ ∧ nb ≤ cb ∧ cb ≤ 9223372036854775807 := by
        rcases own_cases S1.out.src with ⟨_, h1, _⟩ | h1
        · omega
        · exact h1
      have hcP : ¬ cb = P := by omega
      obtain ⟨g2, hg2⟩ : ∃ g2, wr.heap.size = g2 := ⟨_, rfl⟩
      have EA : Hid (Ext wr (wr.alloc (.cells (madeCells #[.int .u8 0] sz) 5))) := Lib.hid ((Ext.refl wr).alloc _)
      have HB := (S1.out.src.bytes.drop P (by rw [← OL.out]; omega)).1
      rw [Nat.zero_add] at HB
      have HG2 := Lib.hid hg2
      obtain ⟨kc, w5, hcp, hO5, hK5⟩ := copy_own base 0 (wr.alloc (.cells (madeCells #[.int .u8 0] sz) 5)) g2 sz (nb - P) (cb - P) ⟨g, P, none⟩ (bl.drop P) hsz.2 (by rw [← hg2]; simp only [World.alloc]; rw [Array.getElem?_push_size]) (by rw [← hg2]; exact S1.out.lo) (HB.ext EA.out) (by omega)
      have HCP := Lib.hid hcp
      have E5 : Hid (Ext wr w5) := Lib.hid (Keep.toExt EA.out hK5 (by rintro k rfl; omega))
      have S5 := Lib.hid (S1.out.ext E5.out)
      have O5 : Hid (Own base w5 (some ⟨g2, 0, none⟩) sz sz (chunk m.sz bl (fr + j))) := Lib.hid (by
        unfold chunk
        rw [HSZ.out, ← hij.out, HP.out]
        exact hO5)
      clear hcp hO5 hK5 HB S1 E5
      go_wp2_with (refine wpList_copyR rfl (.tmp 39) (.tmp 44) 24 24 rfl (.slice (some ⟨g2, 0, none⟩) sz sz) (.slice (some ⟨g, P, none⟩) (nb - P) (cb - P)) rfl rfl (HCP.out _) ?_; simp only [Act.put, List.setIfInBounds_toArray, List.set_cons_zero, List.set_cons_succ])
      clear HCP EA
      obtain ⟨⟨q0, q1, q2, q3, hql⟩, z0, hzl⟩ := S5.out.cells
      obtain ⟨F, hF⟩ : ∃ F, 2 + N1.half * m.hs = F := ⟨_, rfl⟩
      have hFb : F ≤ 4000 := by have := HHM.out.1; omega
      have FA : Hid (∀ wx, Ext w5 wx → Calls Try.prog 37 #[.pointer (some ⟨s, 0, none⟩), .int .i64 (N1.half : Int)] wx fun e w' => e = .returned (.int .i64 (F : Int)) ∧ Ext wx w') := Lib.hid fun wx he => by
        rw [← hF]; exact first_any (m := m.wrote N1.half bl fr j) N1.half (S5.out.st.ext he) (S5.out.dk.ext he) hnb.1 (by show m.B.length ≤ 4096; omega) hh
      have e0 : ∀ g', (w5.ext g').cell? ⟨s, 0, none⟩ = some (.pointer (some ⟨D, 0, none⟩)) := fun g' => (Ext.cell (⟨g', rfl⟩ : Ext w5 (w5.ext g')) hzl).trans z0
      have HF := Lib.hid hF
      clear hF z0
      refine region_tail 11 (by kernel_rfl) (by kernel_rfl) ?_
      simp only [List.take_succ_cons, List.take_zero, List.drop_succ_cons, List.drop_zero]
      iterate 11 (go_big_quiet_step (exact calls_ext (FA.out _ ⟨_, rfl⟩)))
      refine wpQuiet_nil ?_
      intro w6 hE6
      have S6 := Lib.hid (S5.out.ext hE6)
      have O6 := Lib.hid (O5.out.ext hE6)
      clear hE6 e0 S5 O5 q0 q1 q2 q3 hql FA
      have hidx : (F : Int) + (i : Int) = ((2 + N1.half * m.hs + (fr + j) : Nat) : Int) := by rw [HF.out, ← hij.out]; push_cast; rfl
      have WD := write_d (base := base) ((2 + N1.half * m.hs + (fr + j) : Nat) : Int) (.slice (some ⟨g2, 0, none⟩) sz sz) (chunk m.sz bl (fr + j)) w6 S6.out.dk (RR.out.wroteOk N1.half bl fr j (by omega) (fun x hx => HBD.out x (by omega))) (by omega) O6.out.bytes S6.out.lo (padL_len _ _)
      rw [RR.out.wrote N1.half bl fr j (HBD.out j hjC), ← hidx] at WD
      have WDH := Lib.hid WD
      clear WD hidx
      go_wp2_with fail
      refine WDH.out.mono ?_
      rintro e w7 ⟨rfl, hD7, hK7⟩
      have S7 := Lib.hid (S6.out.disk hK7 hD7)
      clear hD7 hK7 S6 O6 WDH
      go_wp2
      go_roundw
      case rel => exact ⟨j + 1, i + 1, by omega, by go_num, Lib.hid ⟨by have := hij.out; omega, S7.out⟩⟩
      case measure => simp [intOf]; omega
    · have hc' : ¬ (P : Int) < (nb : Int) := by omega
      obtain rfl : j = C := by
        rcases Nat.lt_or_ge j C with h1 | h1
        · exact absurd (hiff.1 h1) hc
        · omega
      have SY := sync_d (base := base) wr S1.out.dk (RR.out.wroteOk N1.half bl fr j (by omega) HBD.out) (by omega) S1.out.lo
      rw [EQS.out.1] at SY
      have SYH := Lib.hid SY
      clear SY
      go_wp2_with fail
      refine SYH.out.mono ?_
      rintro e w4 ⟨rfl, hD, hK⟩
      have S4 := Lib.hid (S1.out.disk hK hD)
      clear hD hK S1 SYH q0 q1 q2 q3 hql z0 hzl
      go_wp2_with fail
      obtain ⟨⟨q0, q1, q2, q3, hql⟩, z0, hzl⟩ := S4.out.cells
      have e0 : ∀ g', (w4.ext g').cell? ⟨q, 0, none⟩ = some (.int .i64 (N1.gen : Int)) := fun g' => (Ext.cell (⟨g', rfl⟩ : Ext w4 (w4.ext g')) hql).trans q0
      have e1 : ∀ g', (w4.ext g').cell? ⟨q, 1, none⟩ = some (.int .i64 (N1.half : Int)) := fun g' => (Ext.cell (⟨g', rfl⟩ : Ext w4 (w4.ext g')) hql).trans q1
      have e2 : ∀ g', (w4.ext g').cell? ⟨q, 2, none⟩ = some (.int .i64 (N1.snap : Int)) := fun g' => (Ext.cell (⟨g', rfl⟩ : Ext w4 (w4.ext g')) hql).trans q2
      have e3 : ∀ g', (w4.ext g').cell? ⟨q, 3, none⟩ = some (.int .i64 (N1.log : Int)) := fun g' => (Ext.cell (⟨g', rfl⟩ : Ext w4 (w4.ext g')) hql).trans q3
      have e4 : ∀ g', (w4.ext g').cell? ⟨s, 0, none⟩ = some (.pointer (some ⟨D, 0, none⟩)) := fun g' => (Ext.cell (⟨g', rfl⟩ : Ext w4 (w4.ext g')) hzl).trans z0
      have hrem : (N1.gen : Int).tmod 2 = ((N1.gen % 2 : Nat) : Int) := by rw [Int.tmod_eq_emod_of_nonneg (by omega)]; omega
      obtain ⟨G2, hG2⟩ : ∃ x, N1.gen % 2 = x := ⟨_, rfl⟩
      rw [hG2] at hrem
      have HG2 := Lib.hid hG2
      have hG2b : G2 ≤ 1 := by omega
      clear q0 q1 q2 q3 z0 hG2
      refine region_flow 10 [78] (fun t v => match t with | 78 => ∃ A c, v = .slice A sz c | _ => False) (fun t v w' => match t with | 78 => ∃ A c, v = .slice A sz c ∧ Own base w' A sz c (hdrL N1.gen N1.half N1.snap N1.log sz) | _ => True) (by kernel_rfl) (by kernel_rfl) ?hq ?hu ?hR ?h
      case hq => intro t v h; split at h <;> simp_all
      case hu => intro t h; split at h <;> simp_all [undef]
      case hR =>
        intro t v wx wy _ hR he
        split at hR
        · obtain ⟨A, c, e, h1⟩ := hR; exact ⟨A, c, e, h1.ext he⟩
        · trivial
      case h =>
        dsimp only [List.take, List.drop]
        iterate 9 (refine Flow.plain rfl rfl ?_; go_big_quiet_step (fail); refine wpQuiet_nil ?_)
        refine Flow.call Try.call7 [.agg #[.int .i64 (N1.gen : Int), .int .i64 (N1.half : Int), .int .i64 (N1.snap : Int), .int .i64 (N1.log : Int)], .int .i64 (sz : Int)] rfl rfl rfl ?_ (fun wx hx hf => (encode_yes N1.gen N1.half N1.snap N1.log sz wx (by omega) (by omega) hh hs hl).mono ?_) ?_
        · exact ⟨.slice none sz 0, _, _, rfl⟩
        · rintro e w' ⟨A, c, rfl, hO, hE⟩
          exact ⟨_, rfl, hE, ⟨A, c, rfl⟩, A, c, rfl, hO.mono (Nat.le_trans S4.out.lo hx.size)⟩
        rintro v ⟨A, c, rfl⟩
        simp only [Act.put, List.setIfInBounds_toArray, List.set_cons_zero, List.set_cons_succ]
        refine Flow.nil fun w5 hx5 hf => ?_
        obtain ⟨A2, c2, e9, hO⟩ := hf 78 (by simp) ⟨A, c, rfl⟩
        simp [Act.eval] at e9
        obtain ⟨rfl, rfl⟩ := e9
        have S5 := Lib.hid (S4.out.ext hx5)
        have O5 := Lib.hid hO
        clear hf hO hx5 e0 e1 e2 e3 e4 S4 hql hzl
        have WD := write_d (base := base) ((G2 : Nat) : Int) (.slice A sz c) (hdrL N1.gen N1.half N1.snap N1.log sz) w5 S5.out.dk (MOK.out.1) (by omega) O5.out.bytes S5.out.lo (by rw [hdr_len _ _ _ _ _ hsz.1]; exact HSZ.out.symm)
        rw [← HG2.out, ← HSZ.out, EQS.out.2.1, HSZ.out, HG2.out] at WD
        have WDH := Lib.hid WD
        clear WD
        go_wp2_with fail
        refine WDH.out.mono ?_
        rintro e w7 ⟨rfl, hD7, hK7⟩
        have S7 := Lib.hid (S5.out.disk hK7 hD7)
        clear hD7 hK7 S5 O5 WDH
        obtain ⟨⟨q0, q1, q2, q3, hql⟩, z0, hzl⟩ := S7.out.cells
        have SY := sync_d (base := base) w7 S7.out.dk MOK.out.2 (by omega) S7.out.lo
        rw [EQS.out.2.2] at SY
        have SYH := Lib.hid SY
        clear SY
        go_wp2_with fail
        refine SYH.out.mono ?_
        rintro e w8 ⟨rfl, hD, hK⟩
        have S8 := Lib.hid (S7.out.disk hK hD)
        clear hD hK S7 SYH q0 q1 q2 q3 hql z0 hzl
        obtain ⟨⟨q0, q1, q2, q3, hql⟩, z0, hzl⟩ := S8.out.cells
        obtain ⟨d0, d1, d2, d3, d4, d5, d6, df, dl⟩ := S8.out.st.cells
        go_wp2
        go_ret
        have P0 := S8.out.st
        have O0 := S8.out.src
        have P1 := P0.put (h' := ⟨N1.gen, h0.half, h0.snap, h0.log⟩) 1 (.int .i64 (N1.gen : Int)) rfl P0.own
        have O1 := P0.own_off O0 1 (.int .i64 (N1.gen : Int))
        have P2 := P1.put (h' := ⟨N1.gen, N1.half, h0.snap, h0.log⟩) 2 (.int .i64 (N1.half : Int)) rfl P1.own
        have O2 := P1.own_off O1 2 (.int .i64 (N1.half : Int))
        have P3 := P2.put (h' := ⟨N1.gen, N1.half, N1.snap, h0.log⟩) 3 (.int .i64 (N1.snap : Int)) rfl P2.own
        have O3 := P2.own_off O2 3 (.int .i64 (N1.snap : Int))
        have P4 := P3.put (h' := N1) 4 (.int .i64 (N1.log : Int)) rfl P3.own
        have O4 := P3.own_off O3 4 (.int .i64 (N1.log : Int))
        have P5 := P4.put (h' := N1) 5 (.slice Ab nb cb) rfl O4
        have P6 := P5.put (h' := N1) (dn' := false) 6 (.bool false) rfl P5.own
        have KS := ((((Keep.setCell (w := w8) (g := s) (i := 1) (v := .int .i64 (N1.gen : Int))).trans (Keep.setCell (i := 2) (v := .int .i64 (N1.half : Int))) (fun _ _ h => h)).trans (Keep.setCell (i := 3) (v := .int .i64 (N1.snap : Int))) (fun _ _ h => h)).trans (Keep.setCell (i := 4) (v := .int .i64 (N1.log : Int))) (fun _ _ h => h)).trans ((Keep.setCell (i := 5) (v := .slice Ab nb cb)).trans (Keep.setCell (i := 6) (v := .bool false)) (fun _ _ h => h)) (fun _ _ h => h)
        exact ⟨rfl, P6, S8.out.dk.off KS P0.tch, S8.out.kp.tchS (KS.mono P0.tchS)⟩

end Go.Proofs.Ytbpdjekibcbaaaa
