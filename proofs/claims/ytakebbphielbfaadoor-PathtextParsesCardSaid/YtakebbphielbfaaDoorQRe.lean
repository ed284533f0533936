import Derived.Test.YtakebbphielbfaaDoorQRc
namespace Go.Proofs.YtakebbphielbfaaDoor
open Go.RowKit
set_option linter.unusedVariables false
set_option linter.unusedSimpArgs false
set_option maxRecDepth 100000
set_option maxHeartbeats 6400000

theorem read_fail {ws : List (List UInt8)} {f : Nat} {st st' : Rd} {e : Int} (hlt : st.at_ < ws.length) (h : commandL ws st = (e, st')) (he : e ≠ 0) : readL ws (f + 1) st = (e, st') := by
  unfold readL; rw [if_pos hlt, h, if_pos he]
theorem read_next {ws : List (List UInt8)} {f : Nat} {st st' : Rd} (hlt : st.at_ < ws.length) (h : commandL ws st = (0, st')) : readL ws (f + 1) st = readL ws f st' := by
  conv => lhs; unfold readL
  rw [if_pos hlt, h, if_neg (by simp)]
theorem read_end {ws : List (List UInt8)} {f : Nat} {st : Rd} (hlt : ¬ st.at_ < ws.length) : readL ws (f + 1) st = (0, st) := by
  unfold readL; rw [if_neg hlt]

structure RS (r : Nat) (w wr : World) (ws : List (List UInt8)) (st : Rd) (f : Nat) (T : Int × Rd) : Prop where
  rk : RK w.heap.size r wr.heap.size wr ws st
  ok : RdOk ws st
  tot : readL ws f st = T
  fuel : ws.length - st.at_ < f
  ext : Ext w wr
  hr : w.heap.size ≤ r

/-- what Read answers: the error, the place, the path -/
def readS (s : List UInt8) : Int × Nat × List Sg := ((readT (wordsL s)).1, (readT (wordsL s)).2.at_, if (readT (wordsL s)).1 = 0 then (readT (wordsL s)).2.p else [])

theorem read_any (s : List UInt8) (w : World) (hs : s.length ≤ 2000) (hI : IV w) :
    Calls Tryd.prog 13 #[.string (ba s)] w fun e w' => ∃ v, e = .returned (.tuple #[v, .int .i64 ((readS s).2.1 : Int), .int .i64 (readS s).1]) ∧ OwnR sgR 42 w.heap.size w' v (readS s).2.2 ∧ Ext w w' := by
  have WD := Lib.hid (words_any s w (by omega))
  have WO := Lib.hid (words_wsok hs)
  have HI := Lib.hid hI
  obtain ⟨ws, hws⟩ : ∃ ws, wordsL s = ws := ⟨_, rfl⟩
  have RT : Hid (∀ e st, readT ws = (e, st) → readS s = (e, st.at_, if e = 0 then st.p else [])) := Lib.hid (fun e st h => by unfold readS; rw [hws, h])
  obtain ⟨TT, hTT⟩ : ∃ TT, readT ws = TT := ⟨_, rfl⟩
  rw [hws] at WD WO
  have HTT := Lib.hid hTT
  clear hI hws hTT
  go_enter Tryd.func13, Tryd.ntmps13
  go_wp2_with fail
  refine WD.out.mono ?_
  rintro e w1 ⟨wv, rfl, hO1, hE1⟩
  obtain ⟨A, c, rfl⟩ := hO1.slice
  obtain ⟨r, hr⟩ : ∃ r, w1.heap.size = r := ⟨_, rfl⟩
  obtain ⟨w2, hw2⟩ : ∃ w2, w1.alloc (.cells #[.slice A ws.length c, .int .i64 0, .slice none 0 0, .int .i64 0, .int .i64 0, .int .i64 0, .int .i64 0] 59) = w2 := ⟨_, rfl⟩
  have hb2 : w2.heap[r]? = some (.cells (rdC (.slice A ws.length c) (.slice none ([] : List Sg).length 0) rd0) 59 (0, 0)) := by rw [← hw2, ← hr]; exact heap_alloc_new w1 _
  have E12 : Ext w1 w2 := by rw [← hw2]; exact (Ext.refl _).alloc _
  have hrw : w.heap.size ≤ r := by rw [← hr]; exact hE1.size
  have S2 : Hid (RS r w w2 ws rd0 (ws.length + 1) TT) := Lib.hid (by
    have h9 := HI.out.lt
    refine ⟨⟨⟨A, c, none, 0, hb2, hO1.ext E12, fun k hk => by rw [← hr]; exact hO1.lt k hk, OwnR.nil _ _ _ _, fun k hk => by cases hk⟩, (HI.out.ext hE1).ext E12, by omega, hrw⟩, rd0_ok ws, HTT.out, by simp [rd0], hE1.trans E12, hrw⟩)
  clear hb2 E12 hrw hO1 hE1
  go_wp2
  clear hw2 hr
  go_loopw [6] (fun t6 wr => ∃ (st : Rd) (f : Nat), Hid (RS r w wr ws st f TT)) (fun t6 wr => 4000 - (intOf ((wr.cell? ⟨r, 1, none⟩).getD (.int .i64 0))).toNat)
  case atStart => exact ⟨_, _, S2⟩
  case round =>
    obtain ⟨st, f, ST⟩ := hrel
    obtain ⟨A1, cc1, A1', cc1', a0, a1, a2, -, -, -, -, -, -, -⟩ := ST.out.rk.cells
    have HA := Lib.hid a1
    have HR := ST.out.rk.lt
    obtain ⟨n, hn⟩ : ∃ n, ws.length = n := ⟨_, rfl⟩
    obtain ⟨i, hi⟩ : ∃ i, st.at_ = i := ⟨_, rfl⟩
    rw [hn] at a0
    rw [hi] at a1
    have few := WO.out.few
    have hle := ST.out.ok.le
    rw [hn, hi] at hle
    rw [hn] at few
    have HI2 := Lib.hid hi
    have HN := Lib.hid hn
    have d0 : ∀ g, (wr.ext g).cell? ⟨r, 0, none⟩ = some (.slice A1 n cc1) := fun g => (cellE g HR).trans a0
    have d1 : ∀ g, (wr.ext g).cell? ⟨r, 1, none⟩ = some (.int .i64 (i : Int)) := fun g => (cellE g HR).trans a1
    obtain ⟨f, rfl⟩ : ∃ f', f = f' + 1 := ⟨f - 1, by have := ST.out.fuel; omega⟩
    clear a0 a1 a2 hn hi
    by_cases hlt : i < n
    · have hlt' : (i : Int) < (n : Int) := by omega
      have HLT : Hid (st.at_ < ws.length) := Lib.hid (by rw [HI2.out, HN.out]; exact hlt)
      go_wp2_with fail
      refine region_quiet (by kernel_rfl) (by kernel_rfl) ?_
      iterate 10 (go_big_quiet_step (fail))
      refine wpQuiet_nil ?_
      intro w3 hE3
      have CM := Lib.hid (command_any (ST.out.rk.ext hE3) WO.out ST.out.ok HLT.out)
      have CO := Lib.hid (command_ok ST.out.ok HLT.out)
      have E3 : Hid (Ext w w3) := Lib.hid (ST.out.ext.trans hE3)
      obtain ⟨e1, st1, hc⟩ : ∃ e s, commandL ws st = (e, s) := ⟨_, _, rfl⟩
      have HC := Lib.hid hc
      rw [hc] at CM CO
      dsimp only at CM CO
      clear hc hE3 d0 d1
      go_wp2_with fail
      refine CM.out.mono ?_
      rintro e w4 ⟨rfl, hR4, hK4⟩
      have E4 : Hid (Ext w w4) := Lib.hid (Keep.toExt E3.out hK4 (fun k hk => by have := ST.out.hr; omega))
      by_cases he : e1 = 0
      · subst he
        have NX : Hid (RS r w w4 ws st1 f TT) := Lib.hid ⟨hR4, (CO.out.2.2 rfl).1, by rw [← ST.out.tot]; exact (read_next HLT.out HC.out).symm, by have := ST.out.fuel; have := (CO.out.2.2 rfl).2; have := (CO.out.2.2 rfl).1.le; omega, E4.out, ST.out.hr⟩
        have ME : Hid (4000 - (intOf ((w4.cell? ⟨r, 1, none⟩).getD (.int .i64 0))).toNat < 4000 - (intOf ((wr.cell? ⟨r, 1, none⟩).getD (.int .i64 0))).toNat) := Lib.hid (by
          obtain ⟨A3, cc3, A3', cc3', -, a3, -⟩ := hR4.cells
          rw [HA.out, a3]
          have := (CO.out.2.2 rfl).2
          have := (CO.out.2.2 rfl).1.le
          have := WO.out.few
          simp only [Option.getD_some, intOf, Int.toNat_natCast]
          omega)
        clear hR4 hK4 CM ST E3 E4 HA
        go_wp2
        go_roundw
        case rel => exact ⟨st1, f, NX⟩
        case measure => exact ME.out
      · have hne : (e1 == 0) = false := by simpa using he
        have RS1 : Hid (readS s = (e1, st1.at_, [])) := Lib.hid (by
          rw [RT.out e1 st1 (by rw [HTT.out, ← ST.out.tot]; exact read_fail HLT.out HC.out he), if_neg he])
        obtain ⟨A3, cc3, A3', cc3', -, a3, -⟩ := hR4.cells
        have HR4 := hR4.lt
        have d3 : ∀ g, (w4.ext g).cell? ⟨r, 1, none⟩ = some (.int .i64 (st1.at_ : Int)) := fun g => (cellE g HR4).trans a3
        clear hR4 hK4 CM ST E3 HA a3
        go_wp2_with fail
        refine region_quiet (by kernel_rfl) (by kernel_rfl) ?_
        iterate 8 (go_big_quiet_step (fail))
        refine wpQuiet_nil ?_
        intro w5 hE5
        have E5 := Lib.hid (E4.out.trans hE5)
        clear hE5 d3
        go_wp2
        go_ret3
        exact ⟨_, by rw [RS1.out] <;> rfl, by rw [RS1.out]; exact OwnR.nil _ _ _ _, E5.out⟩
    · have hlt' : ¬ (i : Int) < (n : Int) := by omega
      have RS1 : Hid (readS s = (0, st.at_, st.p)) := Lib.hid (by
        rw [RT.out 0 st (by rw [HTT.out, ← ST.out.tot]; exact read_end (by rw [HI2.out, HN.out]; exact hlt)), if_pos rfl])
      go_wp2_with fail
      refine region_quiet (by kernel_rfl) (by kernel_rfl) ?_
      iterate 10 (go_big_quiet_step (fail))
      refine wpQuiet_nil ?_
      intro w3 hE3
      have R3 := ST.out.rk.ext hE3
      obtain ⟨A3, cc3, A3', cc3', -, a3, a4, -, -, -, -, -, -, hO3⟩ := R3.cells
      have HR3 := R3.lt
      have d3 : ∀ g, (w3.ext g).cell? ⟨r, 1, none⟩ = some (.int .i64 (st.at_ : Int)) := fun g => (cellE g HR3).trans a3
      have d4 : ∀ g, (w3.ext g).cell? ⟨r, 2, none⟩ = some (.slice A3' st.p.length cc3') := fun g => (cellE g HR3).trans a4
      have HO := Lib.hid (hO3.mono (show w.heap.size ≤ r + 1 by have := ST.out.hr; omega))
      have E3 : Hid (Ext w w3) := Lib.hid (ST.out.ext.trans hE3)
      clear R3 hE3 ST HA a3 a4 d0 d1 hO3
      go_wp2_with fail
      refine region_quiet (by kernel_rfl) (by kernel_rfl) ?_
      iterate 11 (go_big_quiet_step (fail))
      refine wpQuiet_nil ?_
      intro w5 hE5
      have FIN := Lib.hid (And.intro (HO.out.ext hE5) (E3.out.trans hE5))
      clear hE5 d3 d4 HO E3
      go_wp2
      go_ret3
      exact ⟨_, by rw [RS1.out] <;> rfl, by rw [RS1.out]; exact FIN.out.1, FIN.out.2⟩
end Go.Proofs.YtakebbphielbfaaDoor
