import Derived.Test.YtbpdjekibcbaaaaSPlay0
namespace Go.Proofs.Ytbpdjekibcbaaaa
open Go.RowKit
set_option linter.unusedVariables false
set_option linter.unusedSimpArgs false
set_option maxRecDepth 100000
set_option maxHeartbeats 51200000

/-- the state between two calls -/
structure PlSt (base : Nat) (w wr : World) (s D : Nat) (CAP : Nat) (k : Nat) (As Al : Option Addr) (ns nl cs cl gen : Nat) (m : DM) (h : Hd) (b : List Nat) : Prop where
  st : StOk base wr s D m h b (210 + 100 * k)
  cap : m.hs * m.sz = CAP
  gen : h.gen = gen
  snap : Byt8 wr As ns cs (b.take h.snap)
  log : Byt8 wr Al nl cl (b.drop h.snap)
  ex : Ext w wr

theorem PlSt.ext {base : Nat} {w wr wx : World} {s D CAP k : Nat} {As Al : Option Addr} {ns nl cs cl gen : Nat} {m : DM} {h : Hd} {b : List Nat} (H : PlSt base w wr s D CAP k As Al ns nl cs cl gen m h b) (he : Ext wr wx) : PlSt base w wx s D CAP k As Al ns nl cs cl gen m h b :=
  ⟨H.st.ext he, H.cap, H.gen, H.snap.ext he, H.log.ext he, H.ex.trans he⟩
theorem StOk.mono {base : Nat} {w : World} {s D : Nat} {m : DM} {h : Hd} {b : List Nat} {n n' : Nat} (H : StOk base w s D m h b n) (hn : n ≤ n') : StOk base w s D m h b n' :=
  ⟨H.dk, H.st, H.r.mono hn, H.len, H.fit, H.half, Nat.le_trans H.gen hn, H.lo⟩
theorem PlSt.next {base : Nat} {w wr : World} {s D CAP k : Nat} {As Al : Option Addr} {ns nl cs cl gen : Nat} {m : DM} {h : Hd} {b : List Nat} (H : PlSt base w wr s D CAP k As Al ns nl cs cl gen m h b) : PlSt base w wr s D CAP (k + 1) As Al ns nl cs cl gen m h b :=
  ⟨H.st.mono (by omega), H.cap, H.gen, H.snap, H.log, H.ex⟩
theorem PlSt.lens {base : Nat} {w wr : World} {s D CAP k : Nat} {As Al : Option Addr} {ns nl cs cl gen : Nat} {m : DM} {h : Hd} {b : List Nat} (H : PlSt base w wr s D CAP k As Al ns nl cs cl gen m h b) : ns = h.snap ∧ nl = h.log ∧ ns + nl = b.length ∧ b.length ≤ CAP := by
  have h1 := (byt8_len H.snap).1
  have h2 := (byt8_len H.log).1
  have h3 := H.st.len
  have h4 := H.st.fit
  rw [List.length_take] at h1
  rw [List.length_drop] at h2
  rw [H.cap] at h4
  omega
theorem PlSt.bound {base : Nat} {w wr : World} {s D CAP k : Nat} {As Al : Option Addr} {ns nl cs cl gen : Nat} {m : DM} {h : Hd} {b : List Nat} (H : PlSt base w wr s D CAP k As Al ns nl cs cl gen m h b) : CAP ≤ 14848 := by
  have := H.st.r.bounds
  rw [← H.cap]; omega

theorem PlSt.sums {base : Nat} {w wr : World} {s D CAP k : Nat} {As Al : Option Addr} {ns nl cs cl gen : Nat} {m : DM} {h : Hd} {b : List Nat} (H : PlSt base w wr s D CAP k As Al ns nl cs cl gen m h b) : ns + nl ≤ CAP := by
  have := H.lens
  omega

theorem StorePlays_main (n z : Nat) (v : Value) (os : List OpV) (w : World) (hn : 4 ≤ n ∧ n ≤ 60) (hz : 32 ≤ z ∧ z ≤ 512) (hO : OpsAt w v os) :
    Calls Try.prog 5 #[.int .i64 (n : Int), .int .i64 (z : Int), v] w fun e w' => e = .returned (.bool true) ∧ Ext w w' := by
  have AW := Lib.hid (fun wx => awake_any wx)
  have OO := Lib.hid hO
  obtain ⟨X, xc, rfl, hc1, hc2, _⟩ := hO
  obtain ⟨N, hN⟩ : ∃ N, os.length = N := ⟨_, rfl⟩
  have HN := Lib.hid hN
  rw [hN] at hc1 OO ⊢
  have NW := Lib.hid (new_d n z w (by omega) (by omega))
  have R0 := Lib.hid (rest_new n z hn hz)
  have F0 := Lib.hid (foldH_new n z hn.1)
  have MA := Lib.hid (fun wx => made_any n z wx hn hz)
  have hB : (DM.new n z).B.length = n := by simp [DM.new]
  have hb := R0.out.bounds
  obtain ⟨CAP, hCAP⟩ : ∃ x, (DM.new n z).cap = x := ⟨_, rfl⟩
  have hCb : CAP ≤ 14848 := by rw [← hCAP, hb.2.2.2.2.2.1]; exact hb.2.2.2.2.2.2
  have hCi : ((n : Int) - 2).tdiv 2 * (z : Int) = (CAP : Int) := by
    rw [← hCAP, hb.2.2.2.2.2.1, Int.tdiv_eq_ediv_of_nonneg (by omega)]
    have e1 : (DM.new n z).hs = (n - 2) / 2 := by unfold DM.hs; rw [hB]
    have e2 : (DM.new n z).sz = z := rfl
    rw [e1, e2]
    push_cast
    congr 1
    omega
  have hdv : 0 ≤ ((n : Int) - 2).tdiv 2 ∧ ((n : Int) - 2).tdiv 2 ≤ 100 := by rw [Int.tdiv_eq_ediv_of_nonneg (by omega)]; omega
  have MCAP : Hid ((madeM n z).hs * (madeM n z).sz = CAP) := Lib.hid (by
    have e := fmt_eq (DM.new n z) (by show 0 < z; omega) (by rw [hB]; omega)
    have e2 := bumps_eq (DM.new n z).fmt 2
    show (bumps (DM.new n z).fmt 2).hs * (bumps (DM.new n z).fmt 2).sz = CAP
    rw [e2.1, e2.2.1, e.2.2.1, e.2.2.2.1, ← hb.2.2.2.2.2.1, hCAP])
  have HCAP := Lib.hid hCAP
  have HZ : Hid ((DM.new n z).B.length ≤ 4096 ∧ (DM.new n z).sz ≤ 512) := Lib.hid ⟨by rw [hB]; omega, by show z ≤ 512; omega⟩
  have pe := ptr_eql
  clear hN hb hCAP hB
  obtain ⟨TD, hTD⟩ : ∃ x : Int, ((n : Int) - 2).tdiv 2 = x := ⟨_, rfl⟩
  rw [hTD] at hCi hdv
  go_enter Try.func5, Try.ntmps5
  go_wp2_with fail
  refine NW.out.mono ?_
  rintro e w1 ⟨D0, rfl, hD, hE⟩
  have D1 := Lib.hid hD
  have E1 := Lib.hid hE
  clear hD hE NW
  have OP := open_all D1.out R0.out (by omega) E1.out.size (by rw [F0.out]; simp)
  rw [F0.out] at OP
  have OPH := Lib.hid OP
  clear OP F0
  go_wp2_with fail
  refine OPH.out.mono ?_
  rintro e w2 ⟨x, rfl, hK, h1, -⟩
  obtain ⟨rfl, hD⟩ := h1 trivial
  have E2 := Lib.hid (Keep.more E1.out hK)
  have D2 := Lib.hid hD
  clear hK h1 hD E1 D1 OPH
  rw [if_pos trivial]
  go_wp2_with fail
  refine (MA.out w2).mono ?_
  rintro e w3 ⟨s, D, rfl, hS, hE⟩
  have E3 := Lib.hid (E2.out.trans hE)
  have D3 := Lib.hid (D2.out.ext hE)
  have S3 := Lib.hid hS
  have LO := Lib.hid E2.out.size
  clear hS hE E2 D2 MA
  have SM := small_any (.slice X N xc) os w3 (OO.out.ext E3.out)
  have SMH := Lib.hid SM
  have CP := Lib.hid (fun wx (he : Ext w3 wx) => cap0_any (D3.out.ext he) HZ.out.1 HZ.out.2)
  rw [(bumps_eq (DM.new n z) 2).2.2.2.2, HCAP.out] at CP
  have SC : Hid (∀ wx, Ext w3 wx → Calls Try.prog 17 #[.pointer (some ⟨s, 0, none⟩)] wx fun e w' => e = .returned (.int .i64 (CAP : Int)) ∧ Ext wx w') := Lib.hid fun wx he => by
    obtain ⟨A, k, cap, ST⟩ := S3.out.st
    have hb := S3.out.r.bounds
    rw [← MCAP.out, ← hb.2.2.2.2.2.1]
    exact scap_any (ST.ext he) (S3.out.dk.ext he) (by omega) (by omega)
  clear SM
  go_wp2_with fail
  refine SMH.out.mono ?_
  rintro e w4 ⟨hr, hE⟩
  have E34 := Lib.hid hE
  have E4 := Lib.hid (E3.out.trans hE)
  clear hE SMH
  rcases hr with ⟨rfl, h30, h400⟩ | rfl
  · have P0 : Hid (PlSt w2.heap.size w w4 s D CAP 0 none none 0 0 0 0 1 (madeM n z) ⟨1, 0, 0, 0⟩ []) := Lib.hid
      ⟨S3.out.ext E34.out, MCAP.out, rfl, (Own.nil 0 w4).byt8, (Own.nil 0 w4).byt8, E4.out⟩
    have H400 := Lib.hid h400
    clear h400
    rw [HN.out] at h30
    go_wp2_with fail
    refine (CP.out w4 E34.out).mono ?_
    rintro e w5 ⟨rfl, hE⟩
    have P1 := Lib.hid (P0.out.ext hE)
    have E35 := Lib.hid (E34.out.trans hE)
    clear hE P0 E34 E4
    go_wp2_with fail
    refine (SC.out w5 E35.out).mono ?_
    rintro e w6 ⟨rfl, hE⟩
    have P2 := Lib.hid (P1.out.ext hE)
    clear hE P1 E35 SC CP D3 S3 E3
    go_wp2_with fail
    obtain ⟨base, hbase⟩ : ∃ x, w2.heap.size = x := ⟨_, rfl⟩
    rw [hbase] at P2 LO
    clear hbase
    go_loopw [13, 14, 15, 116] (fun t13 t14 t15 t116 wr => ∃ (i gen : Nat) (As Al : Option Addr) (ns nl cs cl : Nat), i ≤ N ∧ t13 = .slice As ns cs ∧ t14 = .slice Al nl cl ∧ t15 = .int .i64 (gen : Int) ∧ t116 = .int .i64 (i : Int) ∧ gen ≤ 1 + i ∧ ns + nl ≤ CAP ∧ Hid (∃ m h b, PlSt base w wr s D CAP i As Al ns nl cs cl gen m h b)) (fun _ _ _ t116 _ => N - (intOf t116).toNat)
    case atStart => exact ⟨0, 1, none, none, 0, 0, 0, 0, by omega, rfl, rfl, rfl, rfl, by omega, by omega, Lib.hid ⟨_, _, _, P2.out⟩⟩
    case round =>
      clear P2
      obtain ⟨i, gen, As, Al, ns, nl, cs, cl, hi, rfl, rfl, rfl, rfl, hg, hsum, ST⟩ := hrel
      obtain ⟨m, h0, b, hP⟩ := ST.out
      have PP := Lib.hid hP
      clear hP ST
      by_cases hlt : i < N
      · have hlt' : (i : Int) < (N : Int) := by omega
        obtain ⟨ob, off, rfl, hbs, ho, c0, c1, c2, c3, c4, c5⟩ := (OO.out.ext PP.out.ex).at (by rw [HN.out]; exact hlt)
        have ho2 := ho.2
        have DB0 := (by
          obtain ⟨_, _, _, _, ho3, _⟩ := OO.out.at (by rw [HN.out]; exact hlt)
          exact ho3.1 : Bytes w (.slice (os.getD i op0).dA (os.getD i op0).dn (os.getD i op0).dc) (os.getD i op0).dl)
        have hd4 := H400.out i (by rw [HN.out]; exact hlt)
        clear ho
        obtain ⟨⟨kd, nn, dA, dn, dc, dl, KA, kn, kc, tr, ct⟩, hoo⟩ : ∃ x, os.getD i op0 = x := ⟨_, rfl⟩
        rw [hoo] at c0 c1 c2 c3 c4 c5 ho2 DB0 hd4
        dsimp only at c0 c1 c2 c3 c4 c5 ho2 DB0 hd4
        have DB := Lib.hid DB0
        have hdl : dl.length = dn := DB0.len.symm
        have HDL := Lib.hid hdl
        clear hoo DB0 hdl
        obtain ⟨q, hq⟩ : ∃ q, wr.heap.size = q := ⟨_, rfl⟩
        obtain ⟨wb, hwb⟩ : ∃ wb, wr.alloc (.cells #[.int .i64 kd, .int .i64 nn, .slice dA dn dc, .slice KA kn kc, .int .i64 tr, .int .i64 ct] 53) = wb := ⟨_, rfl⟩
        have EB : Ext wr wb := by rw [← hwb]; exact (Ext.refl wr).alloc _
        have QB : Hid (wb.heap[q]? = some (Obj.cells #[.int .i64 kd, .int .i64 nn, .slice dA dn dc, .slice KA kn kc, .int .i64 tr, .int .i64 ct] 53 (0, 0))) := Lib.hid (by rw [← hwb, ← hq]; exact heap_alloc_new _ _)
        have PB := Lib.hid (PP.out.ext EB)
        have b0 : wb.cell? ⟨q, 0, none⟩ = some (.int .i64 kd) := cell_of_row wb q 0 _ _ (0, 0) QB.out
        have b2 : wb.cell? ⟨q, 2, none⟩ = some (.slice dA dn dc) := cell_of_row wb q 2 _ _ (0, 0) QB.out
        have hqb : q < wb.heap.size := (Array.getElem?_eq_some_iff.1 QB.out).1
        have HWB := Lib.hid hwb
        have HQ := Lib.hid hq
        clear hwb hq EB PP
        have hLEN := PB.out.lens
        have hCAPb := PB.out.bound
        have hms := PB.out.cap
        have hgb : 210 + 100 * i ≤ 700000 := by omega
        by_cases hk1 : kd = 1
        · subst hk1
          by_cases hfit : ns + nl + dn ≤ CAP
          · have AP := append_yes (.slice dA dn dc) dl PB.out.st hgb (DB.out.ext PB.out.ex) (by rw [hms, HDL.out]; omega)
            have APH := Lib.hid AP
            have hcmp : ¬ (CAP : Int) - (ns : Int) - (nl : Int) < (dn : Int) := by omega
            clear AP hLEN hms
            go_wp2_with (rw [HWB.out, HQ.out])
            refine APH.out.mono ?_
            rintro e w6 ⟨rfl, hS, hK⟩
            have Q6 := Lib.hid (op_keep QB.out hK)
            have E6 := Lib.hid (Keep.toExt PB.out.ex hK (fun k hk => by
              rcases hk with h | h
              · exact Nat.le_trans LO.out h.1
              · exact Nat.le_trans LO.out h.1))
            have S6 := Lib.hid hS
            have SN6 := Lib.hid (PB.out.snap.keep hK)
            have LG6 := Lib.hid (PB.out.log.keep hK)
            have GEN := Lib.hid PB.out.gen
            have CPH : Hid ((m.app h0 b dl).hs * (m.app h0 b dl).sz = CAP) := Lib.hid (by
              rw [← PB.out.cap]
              unfold DM.app DM.saved DM.hs
              simp only [List.length_set, layB_len])
            have HLS := Lib.hid PB.out.lens
            have HSN : Hid (h0.snap ≤ b.length) := Lib.hid (by have := PB.out.st.len; omega)
            clear hS hK b0 b2 hqb PB APH QB
            have b2 : w6.cell? ⟨q, 2, none⟩ = some (.slice dA dn dc) := cell_of_row w6 q 2 _ _ (0, 0) Q6.out
            have b0 : w6.cell? ⟨q, 0, none⟩ = some (.int .i64 1) := cell_of_row w6 q 0 _ _ (0, 0) Q6.out
            have hqb : q < w6.heap.size := (Array.getElem?_eq_some_iff.1 Q6.out).1
            have hnc := byt8_len LG6.out
            obtain ⟨hnc1, hnc2, hnc3⟩ := hnc
            clear hnc1
            go_wp2_with fail
            have f2 : ∀ g', (w6.ext g').cell? ⟨q, 2, none⟩ = some (.slice dA dn dc) := fun g' => (Ext.cell (⟨g', rfl⟩ : Ext w6 (w6.ext g')) hqb).trans b2
            clear b2 b0
            cases Al with
            | none =>
              obtain ⟨rfl, rfl, hbl⟩ := byt8_nil LG6.out
              refine region_tail 8 (by kernel_rfl) (by kernel_rfl) ?_
              simp only [List.take_succ_cons, List.take_zero, List.drop_succ_cons, List.drop_zero]
              iterate 8 (go_big_quiet_step (fail))
              refine wpQuiet_nil ?_
              intro w7 hE
              have E7 := Lib.hid hE
              obtain ⟨A8, k8, c8, w8, hrun, hB8, hE8⟩ := run_app_full (A := none) (n := 0) 24 (byt8_full (LG6.out.ext hE)) (DB.out.ext (E6.out.trans hE)) (by have := (byt8_len LG6.out).1; rw [HDL.out, ← this]; omega)
              have RUN := Lib.hid hrun
              have E68 := E7.out.trans hE8
              have PF : Hid (PlSt base w w8 s D CAP (i + 1) As A8 ns k8 cs c8 (gen + 1) (m.app h0 b dl) (h0.app dl.length) (b ++ dl)) := Lib.hid
                ⟨(S6.out.ext E68).mono (by omega), CPH.out, by show h0.gen + 1 = _; rw [GEN.out], by
                  have : (b ++ dl).take (h0.app dl.length).snap = b.take h0.snap := List.take_append_of_le_length HSN.out
                  rw [this]; exact SN6.out.ext E68, by
                  have : (b ++ dl).drop (h0.app dl.length).snap = b.drop h0.snap ++ dl := List.drop_append_of_le_length HSN.out
                  rw [this]; exact hB8, E6.out.trans E68⟩
              have hqb' : q < w8.heap.size := Nat.lt_of_lt_of_le hqb E68.size
              clear hrun hB8 hE8 hE E68 f2
              go_wp2_with (at_builtin; refine Lib.wpList_append_run _ rfl (.tmp 148) (.tmp 150) 24 24 rfl _ _ rfl rfl _ _ RUN.out ?_; simp only [Act.put, List.setIfInBounds_toArray, List.set_cons_zero, List.set_cons_succ])
              clear RUN
              refine (is_any PF.out.st As A8 ns k8 cs c8 PF.out.snap.1 PF.out.log.1).mono ?_
              rintro e wz ⟨rfl, hE⟩
              have PG := Lib.hid (PF.out.ext hE)
              clear hE PF
              have SHH : Hid (Calls Try.prog 21 #[.pointer (some ⟨s, 0, none⟩)] wz fun e w' => ∃ y1 y2 y3, e = .returned (.agg #[.int .i64 ((gen : Int) + 1), .int .i64 y1, .int .i64 y2, .int .i64 y3]) ∧ Ext wz w') := Lib.hid (by
                obtain ⟨A, k, cap, ST⟩ := PG.out.st.st
                refine (sheader_any ST).mono ?_
                rintro e w' ⟨rfl, hE⟩
                rw [PG.out.gen]
                push_cast
                exact ⟨_, _, _, rfl, hE⟩)
              go_wp2_with fail
              refine SHH.out.mono ?_
              rintro e wy ⟨y1, y2, y3, rfl, hE⟩
              have PH := Lib.hid (PG.out.ext hE)
              have hfd : ∀ wv, (Instr.field 23 (.agg #[.int .i64 ((gen : Int) + 1), .int .i64 y1, .int .i64 y2, .int .i64 y3]) 0).run Try.prog wv = .ok (.int .i64 ((gen : Int) + 1)) wv := fun _ => by kernel_rfl
              clear hE PG SHH
              go_wp2
              go_roundw
              case rel => exact ⟨i + 1, (gen + 1), As, A8, ns, k8, cs, c8, by omega, rfl, rfl, by go_num, by go_num, by omega, PH.out.sums, Lib.hid ⟨_, _, _, PH.out⟩⟩
              case measure => simp [intOf]; omega
            | some la =>
              refine region_tail 8 (by kernel_rfl) (by kernel_rfl) ?_
              simp only [List.take_succ_cons, List.take_zero, List.drop_succ_cons, List.drop_zero]
              iterate 8 (go_big_quiet_step (fail))
              refine wpQuiet_nil ?_
              intro w7 hE
              have E7 := Lib.hid hE
              obtain ⟨A8, k8, c8, w8, hrun, hB8, hE8⟩ := run_app_full (A := (some la)) (n := nl) 24 (byt8_full (LG6.out.ext hE)) (DB.out.ext (E6.out.trans hE)) (by have := (byt8_len LG6.out).1; rw [HDL.out, ← this]; omega)
              have RUN := Lib.hid hrun
              have E68 := E7.out.trans hE8
              have PF : Hid (PlSt base w w8 s D CAP (i + 1) As A8 ns k8 cs c8 (gen + 1) (m.app h0 b dl) (h0.app dl.length) (b ++ dl)) := Lib.hid
                ⟨(S6.out.ext E68).mono (by omega), CPH.out, by show h0.gen + 1 = _; rw [GEN.out], by
                  have : (b ++ dl).take (h0.app dl.length).snap = b.take h0.snap := List.take_append_of_le_length HSN.out
                  rw [this]; exact SN6.out.ext E68, by
                  have : (b ++ dl).drop (h0.app dl.length).snap = b.drop h0.snap ++ dl := List.drop_append_of_le_length HSN.out
                  rw [this]; exact hB8, E6.out.trans E68⟩
              have hqb' : q < w8.heap.size := Nat.lt_of_lt_of_le hqb E68.size
              clear hrun hB8 hE8 hE E68 f2
              go_wp2_with (at_builtin; refine Lib.wpList_append_run _ rfl (.tmp 148) (.tmp 150) 24 24 rfl _ _ rfl rfl _ _ RUN.out ?_; simp only [Act.put, List.setIfInBounds_toArray, List.set_cons_zero, List.set_cons_succ])
              clear RUN
              refine (is_any PF.out.st As A8 ns k8 cs c8 PF.out.snap.1 PF.out.log.1).mono ?_
              rintro e wz ⟨rfl, hE⟩
              have PG := Lib.hid (PF.out.ext hE)
              clear hE PF
              have SHH : Hid (Calls Try.prog 21 #[.pointer (some ⟨s, 0, none⟩)] wz fun e w' => ∃ y1 y2 y3, e = .returned (.agg #[.int .i64 ((gen : Int) + 1), .int .i64 y1, .int .i64 y2, .int .i64 y3]) ∧ Ext wz w') := Lib.hid (by
                obtain ⟨A, k, cap, ST⟩ := PG.out.st.st
                refine (sheader_any ST).mono ?_
                rintro e w' ⟨rfl, hE⟩
                rw [PG.out.gen]
                push_cast
                exact ⟨_, _, _, rfl, hE⟩)
              go_wp2_with fail
              refine SHH.out.mono ?_
              rintro e wy ⟨y1, y2, y3, rfl, hE⟩
              have PH := Lib.hid (PG.out.ext hE)
              have hfd : ∀ wv, (Instr.field 23 (.agg #[.int .i64 ((gen : Int) + 1), .int .i64 y1, .int .i64 y2, .int .i64 y3]) 0).run Try.prog wv = .ok (.int .i64 ((gen : Int) + 1)) wv := fun _ => by kernel_rfl
              clear hE PG SHH
              go_wp2
              go_roundw
              case rel => exact ⟨i + 1, (gen + 1), As, A8, ns, k8, cs, c8, by omega, rfl, rfl, by go_num, by go_num, by omega, PH.out.sums, Lib.hid ⟨_, _, _, PH.out⟩⟩
              case measure => simp [intOf]; omega
          · have AP := append_no (.slice dA dn dc) dl PB.out.st hgb (DB.out.ext PB.out.ex) (by rw [HDL.out]; omega) (by rw [hms, HDL.out]; omega)
            have APH := Lib.hid AP
            have hcmp : (CAP : Int) - (ns : Int) - (nl : Int) < (dn : Int) := by omega
            clear AP hLEN hms
            go_wp2_with (rw [HWB.out, HQ.out])
            refine APH.out.mono ?_
            rintro e w6 ⟨rfl, hE⟩
            have PF := Lib.hid (PB.out.ext hE).next
            have b0' := (hE.cell hqb).trans b0
            have b2' := (hE.cell hqb).trans b2
            have hqb' : q < w6.heap.size := Nat.lt_of_lt_of_le hqb hE.size
            clear hE APH b0 b2 hqb PB QB
            go_wp2_with fail
            refine (is_any PF.out.st As Al ns nl cs cl PF.out.snap.1 PF.out.log.1).mono ?_
            rintro e wz ⟨rfl, hE⟩
            have PG := Lib.hid (PF.out.ext hE)
            clear hE PF
            have SHH : Hid (Calls Try.prog 21 #[.pointer (some ⟨s, 0, none⟩)] wz fun e w' => ∃ y1 y2 y3, e = .returned (.agg #[.int .i64 ((gen : Int)), .int .i64 y1, .int .i64 y2, .int .i64 y3]) ∧ Ext wz w') := Lib.hid (by
              obtain ⟨A, k, cap, ST⟩ := PG.out.st.st
              refine (sheader_any ST).mono ?_
              rintro e w' ⟨rfl, hE⟩
              rw [PG.out.gen]
              exact ⟨_, _, _, rfl, hE⟩)
            go_wp2_with fail
            refine SHH.out.mono ?_
            rintro e wy ⟨y1, y2, y3, rfl, hE⟩
            have PH := Lib.hid (PG.out.ext hE)
            have hfd : ∀ wv, (Instr.field 23 (.agg #[.int .i64 ((gen : Int)), .int .i64 y1, .int .i64 y2, .int .i64 y3]) 0).run Try.prog wv = .ok (.int .i64 ((gen : Int))) wv := fun _ => by kernel_rfl
            clear hE PG SHH
            go_wp2
            go_roundw
            case rel => exact ⟨i + 1, gen, As, Al, ns, nl, cs, cl, by omega, rfl, rfl, by go_num, by go_num, by omega, PH.out.sums, Lib.hid ⟨_, _, _, PH.out⟩⟩
            case measure => simp [intOf]; omega
        · by_cases hk2 : kd = 2
          · subst hk2
            by_cases hfit : dn ≤ CAP
            · have AP := compact_yes (.slice dA dn dc) dl PB.out.st hgb (DB.out.ext PB.out.ex) (by rw [hms, HDL.out]; omega)
              have APH := Lib.hid AP
              have hcmp : ¬ (CAP : Int) < (dn : Int) := by omega
              clear AP hLEN hms
              go_wp2_with (rw [HWB.out, HQ.out])
              refine APH.out.mono ?_
              rintro e w6 ⟨rfl, hS, hK⟩
              have Q6 := Lib.hid (op_keep QB.out hK)
              have E6 := Lib.hid (Keep.toExt PB.out.ex hK (fun k hk => by
                rcases hk with h | h
                · exact Nat.le_trans LO.out h.1
                · exact Nat.le_trans LO.out h.1))
              have S6 := Lib.hid hS
              have GEN := Lib.hid PB.out.gen
              have CPH : Hid ((m.com h0 dl).hs * (m.com h0 dl).sz = CAP) := Lib.hid (by
                rw [← PB.out.cap]
                unfold DM.com DM.saved DM.hs
                simp only [List.length_set, layB_len])
              clear hS hK b0 b2 hqb PB APH QB
              have b2 : w6.cell? ⟨q, 2, none⟩ = some (.slice dA dn dc) := cell_of_row w6 q 2 _ _ (0, 0) Q6.out
              have b0 : w6.cell? ⟨q, 0, none⟩ = some (.int .i64 2) := cell_of_row w6 q 0 _ _ (0, 0) Q6.out
              have hqb : q < w6.heap.size := (Array.getElem?_eq_some_iff.1 Q6.out).1
              obtain ⟨g6, hg6⟩ : ∃ g6, w6.heap.size = g6 := ⟨_, rfl⟩
              obtain ⟨w7, hw7⟩ : ∃ w7, w6.alloc (.cells #[] 5) = w7 := ⟨_, rfl⟩
              have E67 : Ext w6 w7 := by rw [← hw7]; exact (Ext.refl w6).alloc _
              have O7 : Hid (Own w6.heap.size w7 (some ⟨g6, 0, none⟩) 0 0 []) := Lib.hid (by rw [← hw7, ← hg6]; exact Own.fresh (Ext.refl w6) [] (fun i => by simp) (by simp))
              have B7 : Hid (Bytes w7 (.slice dA dn dc) dl) := Lib.hid (DB.out.ext (E6.out.trans E67))
              have Z7 : Hid (([] : List Nat).length + dl.length ≤ 70368744177664) := Lib.hid (by rw [HDL.out]; simp; omega)
              have L7 := Lib.hid E67.size
              have E67H := Lib.hid E67
              have HG6 := Lib.hid hg6
              have HW7 := Lib.hid hw7
              clear hg6 hw7 E67
              go_wp2_with (at_builtin; rw [HW7.out, HG6.out]; refine wpList_app rfl (.tmp 169) (.tmp 171) rfl rfl rfl O7.out B7.out Z7.out L7.out ?_)
              intro A8 k8 c8 w8 hO8 hgr
              have E8 : Ext w6 w8 := E67H.out.grown hgr O7.out.row
              obtain rfl : dn = k8 := (hO8.1.trans (by first | exact HDL.out | (rw [List.nil_append]; exact HDL.out))).symm
              have PF : Hid (PlSt base w w8 s D CAP (i + 1) A8 none dn 0 c8 0 (gen + 1) (m.com h0 dl) (h0.com dl.length) dl) := Lib.hid
                ⟨(S6.out.ext E8).mono (by omega), CPH.out, by show h0.gen + 1 = _; rw [GEN.out], by
                  have : dl.take (h0.com dl.length).snap = dl := List.take_of_length_le (Nat.le_refl _)
                  rw [this]; exact hO8.byt8, by
                  have : dl.drop (h0.com dl.length).snap = [] := List.drop_of_length_le (Nat.le_refl _)
                  rw [this]; exact (Own.nil 0 w8).byt8, E6.out.trans E8⟩
              have b0' := (E8.cell hqb).trans b0
              have b2' := (E8.cell hqb).trans b2
              have hqb' : q < w8.heap.size := Nat.lt_of_lt_of_le hqb E8.size
              clear hO8 hgr E8 O7 B7 Z7 L7 E67H HG6 HW7 S6 E6 Q6 GEN CPH b0 b2 hqb
              go_wp2_with fail
              refine (is_any PF.out.st A8 none dn 0 c8 0 PF.out.snap.1 PF.out.log.1).mono ?_
              rintro e wz ⟨rfl, hE⟩
              have PG := Lib.hid (PF.out.ext hE)
              clear hE PF
              have SHH : Hid (Calls Try.prog 21 #[.pointer (some ⟨s, 0, none⟩)] wz fun e w' => ∃ y1 y2 y3, e = .returned (.agg #[.int .i64 ((gen : Int) + 1), .int .i64 y1, .int .i64 y2, .int .i64 y3]) ∧ Ext wz w') := Lib.hid (by
                obtain ⟨A, k, cap, ST⟩ := PG.out.st.st
                refine (sheader_any ST).mono ?_
                rintro e w' ⟨rfl, hE⟩
                rw [PG.out.gen]
                push_cast
                exact ⟨_, _, _, rfl, hE⟩)
              go_wp2_with fail
              refine SHH.out.mono ?_
              rintro e wy ⟨y1, y2, y3, rfl, hE⟩
              have PH := Lib.hid (PG.out.ext hE)
              have hfd : ∀ wv, (Instr.field 23 (.agg #[.int .i64 ((gen : Int) + 1), .int .i64 y1, .int .i64 y2, .int .i64 y3]) 0).run Try.prog wv = .ok (.int .i64 ((gen : Int) + 1)) wv := fun _ => by kernel_rfl
              clear hE PG SHH
              go_wp2
              go_roundw
              case rel => exact ⟨i + 1, (gen + 1), A8, none, dn, 0, c8, 0, by omega, rfl, rfl, by go_num, by go_num, by omega, PH.out.sums, Lib.hid ⟨_, _, _, PH.out⟩⟩
              case measure => simp [intOf]; omega
            · have AP := compact_no (.slice dA dn dc) dl PB.out.st (DB.out.ext PB.out.ex) (by rw [HDL.out]; omega) (by rw [hms, HDL.out]; omega)
              have APH := Lib.hid AP
              have hcmp : (CAP : Int) < (dn : Int) := by omega
              clear AP hLEN hms
              go_wp2_with (rw [HWB.out, HQ.out])
              refine APH.out.mono ?_
              rintro e w6 ⟨rfl, hE⟩
              have PF := Lib.hid (PB.out.ext hE).next
              have b0' := (hE.cell hqb).trans b0
              have b2' := (hE.cell hqb).trans b2
              have hqb' : q < w6.heap.size := Nat.lt_of_lt_of_le hqb hE.size
              clear hE APH b0 b2 hqb PB QB
              go_wp2_with fail
              refine (is_any PF.out.st As Al ns nl cs cl PF.out.snap.1 PF.out.log.1).mono ?_
              rintro e wz ⟨rfl, hE⟩
              have PG := Lib.hid (PF.out.ext hE)
              clear hE PF
              have SHH : Hid (Calls Try.prog 21 #[.pointer (some ⟨s, 0, none⟩)] wz fun e w' => ∃ y1 y2 y3, e = .returned (.agg #[.int .i64 ((gen : Int)), .int .i64 y1, .int .i64 y2, .int .i64 y3]) ∧ Ext wz w') := Lib.hid (by
                obtain ⟨A, k, cap, ST⟩ := PG.out.st.st
                refine (sheader_any ST).mono ?_
                rintro e w' ⟨rfl, hE⟩
                rw [PG.out.gen]
                exact ⟨_, _, _, rfl, hE⟩)
              go_wp2_with fail
              refine SHH.out.mono ?_
              rintro e wy ⟨y1, y2, y3, rfl, hE⟩
              have PH := Lib.hid (PG.out.ext hE)
              have hfd : ∀ wv, (Instr.field 23 (.agg #[.int .i64 ((gen : Int)), .int .i64 y1, .int .i64 y2, .int .i64 y3]) 0).run Try.prog wv = .ok (.int .i64 ((gen : Int))) wv := fun _ => by kernel_rfl
              clear hE PG SHH
              go_wp2
              go_roundw
              case rel => exact ⟨i + 1, gen, As, Al, ns, nl, cs, cl, by omega, rfl, rfl, by go_num, by go_num, by omega, PH.out.sums, Lib.hid ⟨_, _, _, PH.out⟩⟩
              case measure => simp [intOf]; omega
          · have PF := Lib.hid PB.out.next
            have hk1' : (kd == 1) = false := by simpa using hk1
            have hk2' : (kd == 2) = false := by simpa using hk2
            clear PB hLEN hms
            go_wp2_with (rw [HWB.out, HQ.out])
            refine (is_any PF.out.st As Al ns nl cs cl PF.out.snap.1 PF.out.log.1).mono ?_
            rintro e wz ⟨rfl, hE⟩
            have PG := Lib.hid (PF.out.ext hE)
            clear hE PF
            have SHH : Hid (Calls Try.prog 21 #[.pointer (some ⟨s, 0, none⟩)] wz fun e w' => ∃ y1 y2 y3, e = .returned (.agg #[.int .i64 ((gen : Int)), .int .i64 y1, .int .i64 y2, .int .i64 y3]) ∧ Ext wz w') := Lib.hid (by
              obtain ⟨A, k, cap, ST⟩ := PG.out.st.st
              refine (sheader_any ST).mono ?_
              rintro e w' ⟨rfl, hE⟩
              rw [PG.out.gen]
              exact ⟨_, _, _, rfl, hE⟩)
            go_wp2_with fail
            refine SHH.out.mono ?_
            rintro e wy ⟨y1, y2, y3, rfl, hE⟩
            have PH := Lib.hid (PG.out.ext hE)
            have hfd : ∀ wv, (Instr.field 23 (.agg #[.int .i64 ((gen : Int)), .int .i64 y1, .int .i64 y2, .int .i64 y3]) 0).run Try.prog wv = .ok (.int .i64 ((gen : Int))) wv := fun _ => by kernel_rfl
            clear hE PG SHH
            go_wp2
            go_roundw
            case rel => exact ⟨i + 1, gen, As, Al, ns, nl, cs, cl, by omega, rfl, rfl, by go_num, by go_num, by omega, PH.out.sums, Lib.hid ⟨_, _, _, PH.out⟩⟩
            case measure => simp [intOf]; omega
      · have hlt' : ¬ (i : Int) < (N : Int) := by omega
        have EZ := Lib.hid PP.out.ex
        go_wp2_with fail
        refine (AW.out _).mono ?_
        rintro e w9 ⟨rfl, hE⟩
        have E9 := Lib.hid (EZ.out.trans hE)
        clear hE
        go_wp2
        go_ret
        exact ⟨rfl, E9.out⟩
  · go_wp2_with fail
    refine (CP.out w4 E34.out).mono ?_
    rintro e w5 ⟨rfl, hE⟩
    have E5 := Lib.hid (E4.out.trans hE)
    clear hE
    go_wp2_with fail
    refine (AW.out _).mono ?_
    rintro e w9 ⟨rfl, hE⟩
    have E9 := Lib.hid (E5.out.trans hE)
    clear hE
    go_wp2
    go_ret
    exact ⟨rfl, E9.out⟩

end Go.Proofs.Ytbpdjekibcbaaaa
