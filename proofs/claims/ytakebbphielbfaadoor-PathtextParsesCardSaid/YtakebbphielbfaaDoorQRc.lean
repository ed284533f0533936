import Derived.Test.YtakebbphielbfaaDoorQRl
namespace Go.Proofs.YtakebbphielbfaaDoor
open Go.RowKit
set_option linter.unusedVariables false
set_option linter.unusedSimpArgs false
set_option maxRecDepth 100000
set_option maxHeartbeats 6400000

structure CS (b0 r : Nat) (w wr : World) (ws : List (List UInt8)) (st : Rd) (k : Int) (small : Bool) (f : Nat) (T : Int × Rd) : Prop where
  rk : RK b0 r wr.heap.size wr ws st
  ok : RdOk ws st
  hk : 1 ≤ k ∧ k ≤ 4
  hop : openL false st.p = true ∨ k = 1
  tot : groupsL ws f k small st = T
  fuel : ws.length - st.at_ < f
  keep : Keep w wr (fun k => r ≤ k)

/-- the loop of a command -/
theorem groups_fail {ws : List (List UInt8)} {f : Nat} {k : Int} {small : Bool} {st st' : Rd} {e : Int} (h : groupL ws k small st = (e, st')) (he : e ≠ 0) : groupsL ws (f + 1) k small st = (e, st') := by
  unfold groupsL; rw [h, if_pos he]
theorem groups_end {ws : List (List UInt8)} {f : Nat} {k : Int} {small : Bool} {st st' : Rd} (h : groupL ws k small st = (0, st')) (hn : isNum ws st'.at_ = false) : groupsL ws (f + 1) k small st = (0, st') := by
  unfold groupsL; rw [h, if_neg (by simp), if_neg (by simp [hn])]
theorem groups_next {ws : List (List UInt8)} {f : Nat} {k : Int} {small : Bool} {st st' : Rd} (h : groupL ws k small st = (0, st')) (hn : isNum ws st'.at_ = true) : groupsL ws (f + 1) k small st = groupsL ws f (if k = 1 then 2 else k) small st' := by
  conv => lhs; unfold groupsL
  rw [h, if_neg (by simp), if_pos hn]

theorem command_any {b0 r T : Nat} {w : World} {ws : List (List UInt8)} {st : Rd} (h : RK b0 r T w ws st) (hw : WsOk ws) (hok : RdOk ws st) (hlt : st.at_ < ws.length) :
    Calls Tryd.prog 25 #[.pointer (some ⟨r, 0, none⟩)] w fun e w' => e = .returned (.int .i64 (commandL ws st).1) ∧ RK b0 r w'.heap.size w' ws (commandL ws st).2 ∧ Keep w w' (fun k => r ≤ k) := by
  have H := Lib.hid h
  have W := Lib.hid hw
  have OK := Lib.hid hok
  have LT := Lib.hid hlt
  have PF : Hid (st.p.length ≤ 4000) := Lib.hid (by have := hok.few; have := hok.le; have := hw.few; omega)
  have LE := Lib.hid (letter_any h hw hlt PF.out)
  obtain ⟨x, hx⟩ : ∃ x, ws.getD st.at_ [] = x := ⟨_, rfl⟩
  rw [hx] at LE
  have CL : Hid (commandL ws st = if kindW x = 0 then (20, st) else if kindW x ≠ 1 ∧ openL false st.p = false then (33, st) else if kindW x = 5 then (0, ⟨st.at_ + 1, st.p ++ [⟨5, (0, 0), (0, 0), (0, 0)⟩], st.bg, st.bg⟩) else groupsL ws (ws.length + 1) (kindW x) (decide (97 ≤ (x.getD 0 0).toNat)) { st with at_ := st.at_ + 1 }) := Lib.hid (by rw [← hx]; rfl)
  have hr := kindW_range x
  clear h hw hok hlt hx
  by_cases h0 : kindW x = 0
  · have LL : letterL x st.p = (0, false, 20) := by rw [letterL, if_pos h0]
    rw [LL] at LE
    rw [if_pos h0] at CL
    go_enter Tryd.func25, Tryd.ntmps25
    go_wp2_with fail
    refine LE.out.mono ?_
    rintro e w1 ⟨rfl, hE⟩
    have FIN : Hid (RK b0 r w1.heap.size w1 ws st ∧ Keep w w1 (fun k => r ≤ k)) := Lib.hid ⟨(H.out.ext hE).top, Keep.ofExt hE _⟩
    clear hE
    go_wp2
    go_ret
    exact ⟨by rw [CL.out] <;> rfl, by rw [CL.out]; exact FIN.out.1, FIN.out.2⟩
  · rw [if_neg h0] at CL
    by_cases h1 : kindW x ≠ 1 ∧ openL false st.p = false
    · have LL : letterL x st.p = (0, false, 33) := by rw [letterL, if_neg h0, if_pos h1]
      rw [LL] at LE
      rw [if_pos h1] at CL
      go_enter Tryd.func25, Tryd.ntmps25
      go_wp2_with fail
      refine LE.out.mono ?_
      rintro e w1 ⟨rfl, hE⟩
      have FIN : Hid (RK b0 r w1.heap.size w1 ws st ∧ Keep w w1 (fun k => r ≤ k)) := Lib.hid ⟨(H.out.ext hE).top, Keep.ofExt hE _⟩
      clear hE
      go_wp2
      go_ret
      exact ⟨by rw [CL.out] <;> rfl, by rw [CL.out]; exact FIN.out.1, FIN.out.2⟩
    · have LL : letterL x st.p = (kindW x, decide (97 ≤ (x.getD 0 0).toNat), 0) := by rw [letterL, if_neg h0, if_neg h1]
      rw [LL] at LE
      rw [if_neg h1] at CL
      have HOP : Hid (openL false st.p = true ∨ kindW x = 1) := Lib.hid (by
        by_cases e : kindW x = 1
        · exact .inr e
        · refine .inl ?_
          cases hh : openL false st.p with
          | true => rfl
          | false => exact absurd ⟨e, hh⟩ h1)
      obtain ⟨k, hk⟩ : ∃ k, kindW x = k := ⟨_, rfl⟩
      obtain ⟨sm, hsm⟩ : ∃ sm, decide (97 ≤ (x.getD 0 0).toNat) = sm := ⟨_, rfl⟩
      rw [hk, hsm] at LE CL
      rw [hk] at HOP hr h0
      dsimp only at LE
      obtain ⟨i, hi⟩ : ∃ i, st.at_ = i := ⟨_, rfl⟩
      have HI := Lib.hid hi
      have few := W.out.few
      have hlt := LT.out
      have ib : i ≤ 3000 := by omega
      clear LL h1 hk hsm hi hlt few
      by_cases h5 : k = 5
      · subst h5
        rw [if_pos rfl] at CL
        go_enter Tryd.func25, Tryd.ntmps25
        go_wp2_with fail
        refine LE.out.mono ?_
        rintro e w1 ⟨rfl, hE⟩
        have R1 := H.out.ext hE
        obtain ⟨A, c, A', c', c0, c1, c2, c3, c4, c5, c6, fz, hsl, hO⟩ := R1.cells
        rw [HI.out] at c1
        have rl := R1.lt
        obtain ⟨⟨bx, by_⟩, hbg⟩ : ∃ z, st.bg = z := ⟨_, rfl⟩
        rw [hbg] at c5 c6
        dsimp only at c5 c6
        have P1 := R1.put ⟨i + 1, st.p, st.now, st.bg⟩ 1 (.int .i64 ((i : Int) + 1)) rfl (fun W P => by rfl)
        have P2 := P1.1.put ⟨i + 1, st.p, (bx, st.now.2), st.bg⟩ 3 (.int .i64 bx) rfl (fun W P => by rfl)
        have P3 := P2.1.put ⟨i + 1, st.p, (bx, by_), st.bg⟩ 4 (.int .i64 by_) rfl (fun W P => by rfl)
        obtain ⟨A2, c2', A2', c2'', -, -, -, -, -, u5, u6, -, -, -⟩ := P1.1.cells
        rw [hbg] at u5 u6
        dsimp only at u5 u6
        obtain ⟨w4, hw4⟩ : ∃ w4, ((w1.setCell ⟨r, 1, none⟩ (.int .i64 ((i : Int) + 1))).setCell ⟨r, 3, none⟩ (.int .i64 bx)).setCell ⟨r, 4, none⟩ (.int .i64 by_) = w4 := ⟨_, rfl⟩
        rw [hw4] at P3
        have AD : Hid (Calls Tryd.prog 37 #[.pointer (some ⟨r, 0, none⟩), .agg #[.int .i64 5, .int .i64 0, .int .i64 0, .int .i64 0, .int .i64 0, .int .i64 0, .int .i64 0]] w4 fun e w' => e = .returned (.int .i64 0) ∧ RK b0 r w'.heap.size w' ws ⟨i + 1, st.p ++ [⟨5, (0, 0), (0, 0), (0, 0)⟩], (bx, by_), st.bg⟩ ∧ Keep w4 w' (fun k => r ≤ k)) := Lib.hid (add_any P3.1 ⟨5, (0, 0), (0, 0), (0, 0)⟩ (by unfold sgR i64; decide) PF.out)
        have K4 : Hid (Keep w w4 (fun k => r ≤ k)) := Lib.hid ((Keep.ofExt hE _).trans ((P1.2.trans (P2.2.trans P3.2 (fun _ _ x => x)) (fun _ _ x => x)).mono (fun x e => by omega)) (fun _ _ x => x))
        have HBG := Lib.hid hbg
        clear hE R1 P1 P2 P3 c0 c2 hsl hO LE hbg
        go_wp2_with fail
        refine AD.out.mono ?_
        rintro e w5 ⟨rfl, hR, hK⟩
        have FIN : Hid (RK b0 r w5.heap.size w5 ws ⟨st.at_ + 1, st.p ++ [⟨5, (0, 0), (0, 0), (0, 0)⟩], st.bg, st.bg⟩ ∧ Keep w w5 (fun k => r ≤ k)) := Lib.hid ⟨by rw [HI.out]; rw [← HBG.out] at hR; exact hR, K4.out.trans hK (fun _ _ x => x)⟩
        clear hR hK AD K4
        go_wp2
        go_ret
        exact ⟨by rw [CL.out] <;> rfl, by rw [CL.out]; exact FIN.out.1, FIN.out.2⟩
      · rw [if_neg h5] at CL
        have hk4 : 1 ≤ k ∧ k ≤ 4 := by omega
        have h5' : (k == 5) = false := by simpa using h5
        obtain ⟨TT, hTT⟩ : ∃ TT, commandL ws st = TT := ⟨_, rfl⟩
        rw [hTT] at CL ⊢
        have HK4 := Lib.hid hk4
        clear hTT
        go_enter Tryd.func25, Tryd.ntmps25
        go_wp2_with fail
        refine LE.out.mono ?_
        rintro e w1 ⟨rfl, hE⟩
        have R1 := H.out.ext hE
        obtain ⟨A, c, A', c', c0, c1, c2, c3, c4, c5, c6, fz, hsl, hO⟩ := R1.cells
        rw [HI.out] at c1
        have rl := R1.lt
        have hf1 := fz 1
        have P1 := R1.put ⟨i + 1, st.p, st.now, st.bg⟩ 1 (.int .i64 ((i : Int) + 1)) rfl (fun W P => by rfl)
        have C0 : Hid (CS b0 r w (w1.setCell ⟨r, 1, none⟩ (.int .i64 ((i : Int) + 1))) ws { st with at_ := st.at_ + 1 } k sm (ws.length + 1) TT) := Lib.hid (by
          have h1 := OK.out
          have h2 := LT.out
          rw [← HI.out] at P1 ⊢
          exact ⟨P1.1.top, ⟨by dsimp only; omega, h1.now, h1.bg, h1.ok, by have := h1.few; dsimp only; omega⟩, HK4.out, HOP.out, CL.out.symm, by dsimp only; omega, (Keep.ofExt hE _).trans (P1.2.mono (fun x e => by omega)) (fun _ _ x => x)⟩)
        clear hE R1 P1 c0 c2 c3 c4 c5 c6 fz hsl hO LE hk4
        go_wp2
        go_loopw [3] (fun t3 wr => ∃ (k : Int) (st : Rd) (f : Nat), t3 = .int .i64 k ∧ (1 ≤ k ∧ k ≤ 4) ∧ Hid (CS b0 r w wr ws st k sm f TT)) (fun t3 wr => 4000 - (intOf ((wr.cell? ⟨r, 1, none⟩).getD (.int .i64 0))).toNat)
        case atStart => exact ⟨k, _, _, rfl, HK4.out, C0⟩
        case round =>
          obtain ⟨k, st, f, rfl, hk4, ST⟩ := hrel
          have GA := Lib.hid (group_any ST.out.rk W.out ST.out.ok k sm ST.out.hk ST.out.hop)
          have GO := Lib.hid (group_ok (small := sm) ST.out.ok ST.out.hk ST.out.hop)
          obtain ⟨A1, cc1, A1', cc1', -, a1, -⟩ := ST.out.rk.cells
          have HA := Lib.hid a1
          obtain ⟨e1, st1, hg⟩ : ∃ e s, groupL ws k sm st = (e, s) := ⟨_, _, rfl⟩
          have HG := Lib.hid hg
          rw [hg] at GA GO
          dsimp only at GA GO
          obtain ⟨f, rfl⟩ : ∃ f', f = f' + 1 := ⟨f - 1, by have := ST.out.fuel; omega⟩
          clear hg a1
          go_wp2_with fail
          refine GA.out.mono ?_
          rintro e w2 ⟨rfl, hR2, hK2⟩
          by_cases he : e1 = 0
          · subst he
            have ok1 := GO.out.2.2 rfl
            have IN := Lib.hid (isNum_any hR2 W.out ok1.1.le)
            have R2 := Lib.hid hR2
            have K2 : Hid (Keep w w2 (fun k => r ≤ k)) := Lib.hid (ST.out.keep.trans hK2 (fun _ _ x => x))
            have OK1 := Lib.hid ok1
            clear hR2 hK2 GA ok1
            cases hnum : isNum ws st1.at_ with
            | false =>
              rw [hnum] at IN
              have TT2 : Hid (TT = (0, st1)) := Lib.hid (by rw [← ST.out.tot]; exact groups_end HG.out hnum)
              clear hnum
              go_wp2_with fail
              refine IN.out.mono ?_
              rintro e w3 ⟨rfl, hE3⟩
              have FIN : Hid (RK b0 r w3.heap.size w3 ws st1 ∧ Keep w w3 (fun k => r ≤ k)) := Lib.hid ⟨(R2.out.ext hE3).top, K2.out.trans (Keep.ofExt hE3 _) (fun _ _ x => x)⟩
              clear hE3 IN R2 K2
              go_wp2
              go_ret
              exact ⟨by rw [TT2.out] <;> rfl, by rw [TT2.out]; exact FIN.out.1, FIN.out.2⟩
            | true =>
              rw [hnum] at IN
              have NX : Hid (∀ w3, Ext w2 w3 → CS b0 r w w3 ws st1 (if k = 1 then 2 else k) sm f TT) := Lib.hid (fun w3 hE3 =>
                ⟨(R2.out.ext hE3).top, OK1.out.1, by have := ST.out.hk; split <;> omega, .inl OK1.out.2.2, by rw [← ST.out.tot]; exact (groups_next HG.out hnum).symm, by have := ST.out.fuel; have := OK1.out.2.1; have := OK1.out.1.le; omega, K2.out.trans (Keep.ofExt hE3 _) (fun _ _ x => x)⟩)
              clear hnum
              go_wp2_with fail
              refine IN.out.mono ?_
              rintro e w3 ⟨rfl, hE3⟩
              have NX3 := Lib.hid (NX.out w3 hE3)
              have ME : Hid (4000 - (intOf ((w3.cell? ⟨r, 1, none⟩).getD (.int .i64 0))).toNat < 4000 - (intOf ((wr.cell? ⟨r, 1, none⟩).getD (.int .i64 0))).toNat) := Lib.hid (by
                obtain ⟨A3, cc3, A3', cc3', -, a3, -⟩ := NX3.out.rk.cells
                rw [HA.out, a3]
                have := OK1.out.2.1
                have := OK1.out.1.le
                have := W.out.few
                simp only [Option.getD_some, intOf, Int.toNat_natCast]
                omega)
              clear hE3 IN R2 K2 NX ST HA
              by_cases hk1 : k = 1
              · subst hk1
                rw [if_pos rfl] at NX3
                go_wp2
                go_roundw
                case rel => exact ⟨2, st1, f, rfl, by omega, NX3⟩
                case measure => exact ME.out
              · have hk1' : (k == 1) = false := by simpa using hk1
                rw [if_neg hk1] at NX3
                go_wp2
                go_roundw
                case rel => exact ⟨k, st1, f, rfl, hk4, NX3⟩
                case measure => exact ME.out
          · have hne : (e1 == 0) = false := by simpa using he
            have TT2 : Hid (TT = (e1, st1)) := Lib.hid (by rw [← ST.out.tot]; exact groups_fail HG.out he)
            have FIN : Hid (RK b0 r w2.heap.size w2 ws st1 ∧ Keep w w2 (fun k => r ≤ k)) := Lib.hid ⟨hR2, ST.out.keep.trans hK2 (fun _ _ x => x)⟩
            clear hR2 hK2 GA ST HA
            go_wp2
            go_ret
            exact ⟨by rw [TT2.out] <;> rfl, by rw [TT2.out]; exact FIN.out.1, FIN.out.2⟩
end Go.Proofs.YtakebbphielbfaaDoor
