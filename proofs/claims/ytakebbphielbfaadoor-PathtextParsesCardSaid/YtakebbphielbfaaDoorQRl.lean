import Derived.Test.YtakebbphielbfaaDoorQRg
namespace Go.Proofs.YtakebbphielbfaaDoor
open Go.RowKit
set_option linter.unusedVariables false
set_option linter.unusedSimpArgs false
set_option maxRecDepth 100000
set_option maxHeartbeats 6400000

def lettersL : List UInt8 := [32, 77, 76, 81, 67, 90]
theorem idx_all : ∀ n : Fin 256, (letB (UInt8.ofNat n.val) = true → ((Lib.indexByte lettersL (Lib.upperB (UInt8.ofNat n.val)) < 1 ∧ kindL (UInt8.ofNat n.val) = 0) ∨ (1 ≤ Lib.indexByte lettersL (Lib.upperB (UInt8.ofNat n.val)) ∧ kindL (UInt8.ofNat n.val) = Lib.indexByte lettersL (Lib.upperB (UInt8.ofNat n.val)))) ∧ n.val < 128) ∧ (letB (UInt8.ofNat n.val) = false → kindL (UInt8.ofNat n.val) = 0) := by decide +kernel
theorem idx_let (c : UInt8) (h : letB c = true) : ((Lib.indexByte lettersL (Lib.upperB c) < 1 ∧ kindL c = 0) ∨ (1 ≤ Lib.indexByte lettersL (Lib.upperB c) ∧ kindL c = Lib.indexByte lettersL (Lib.upperB c))) ∧ c.toNat < 128 := by
  have := (idx_all ⟨c.toNat, UInt8.toNat_lt c⟩).1
  simp only [UInt8.ofNat_toNat] at this
  exact this h
theorem idx_not (c : UInt8) (h : letB c = false) : kindL c = 0 := by
  have := (idx_all ⟨c.toNat, UInt8.toNat_lt c⟩).2
  simp only [UInt8.ofNat_toNat] at this
  exact this h

theorem openL_last (o : Bool) (p : List Sg) (h : 0 < p.length) : openL o p = decide ((p.getD (p.length - 1) noS).k ≠ 5) := by
  induction p generalizing o with
  | nil => simp at h
  | cons x p ih =>
    cases p with
    | nil => rfl
    | cons y p =>
      have := ih (decide (x.k ≠ 5)) (by simp)
      rw [show openL o (x :: y :: p) = openL (decide (x.k ≠ 5)) (y :: p) from rfl, this]
      simp

/-- what letter answers -/
def letterL (x : List UInt8) (p : List Sg) : Int × Bool × Int :=
  if kindW x = 0 then (0, false, 20) else if kindW x ≠ 1 ∧ openL false p = false then (0, false, 33) else (kindW x, decide (97 ≤ (x.getD 0 0).toNat), 0)

theorem letter_any {b0 r T : Nat} {w : World} {ws : List (List UInt8)} {st : Rd} (h : RK b0 r T w ws st) (hw : WsOk ws) (hlt : st.at_ < ws.length) (hp : st.p.length ≤ 4000) :
    Calls Tryd.prog 36 #[.pointer (some ⟨r, 0, none⟩)] w fun e w' => e = .returned (.tuple #[.int .i64 (letterL (ws.getD st.at_ []) st.p).1, .bool (letterL (ws.getD st.at_ []) st.p).2.1, .int .i64 (letterL (ws.getD st.at_ []) st.p).2.2]) ∧ Ext w w' := by
  obtain ⟨A, c, A', c', c0, c1, c2, c3, c4, c5, c6, fz, hsl, hO⟩ := h.cells
  have HSP := Lib.hid hO.sl
  have OKS := Lib.hid hO.2
  obtain ⟨i, hi⟩ : ∃ i, st.at_ = i := ⟨_, rfl⟩
  rw [hi] at c1 hlt ⊢
  obtain ⟨n, hn⟩ : ∃ n, ws.length = n := ⟨_, rfl⟩
  rw [hn] at c0 hlt hsl
  have few := hw.few
  rw [hn] at few
  have few2 : i ≤ 3000 := by omega
  have HR := h.lt
  have d0 : ∀ g, (w.ext g).cell? ⟨r, 0, none⟩ = some (.slice A n c) := fun g => (cellE g HR).trans c0
  have d1 : ∀ g, (w.ext g).cell? ⟨r, 1, none⟩ = some (.int .i64 (i : Int)) := fun g => (cellE g HR).trans c1
  obtain ⟨b, off, rfl, hb, hc⟩ := sl_word hsl hlt
  have d2 : ∀ g, (w.ext g).cell? ⟨b, off + i, none⟩ = some (.string (ba (ws.getD i []))) := fun g => (cellE g hb).trans hc
  have short := hw.short i
  obtain ⟨x, hx⟩ : ∃ x, ws.getD i [] = x := ⟨_, rfl⟩
  rw [hx] at d2 short
  have sz : (ba x).size = x.length := ba_size x
  obtain ⟨L, hL⟩ : ∃ L, x.length = L := ⟨_, rfl⟩
  rw [hL] at sz short
  have HC2 := Lib.hid c2
  rw [hx]
  clear h hi hn c0 c1 c2 c3 c4 c5 c6 fz hsl hO hw hc hx
  by_cases hL1 : L = 1
  · subst hL1
    obtain ⟨ch, rfl⟩ := List.length_eq_one_iff.1 hL
    have hpos : 0 < (ba [ch]).size := by omega
    have hby := ba_get [ch] 0 hpos
    simp only [List.getD_cons_zero] at hby
    have LT := Lib.hid (fun wx => let_any ch wx)
    cases hl : letB ch with
    | false =>
      have LL : Hid (letterL [ch] st.p = (0, false, 20)) := Lib.hid (by rw [letterL, if_pos (by rw [kindW, if_pos (by simp)]; exact idx_not ch hl)])
      rw [hl] at LT
      clear hl hL HSP OKS
      go_enter Tryd.func36, Tryd.ntmps36
      go_wp2_with fail
      refine region_quiet (by kernel_rfl) (by kernel_rfl) ?_
      iterate 11 (go_big_quiet_step (fail))
      refine wpQuiet_nil ?_
      intro w1 hE1
      have E1 := Lib.hid hE1
      clear hE1 d0 d1 d2
      go_wp2_with fail
      refine (LT.out _).mono ?_
      rintro e w2 ⟨rfl, hE2⟩
      have E2 := Lib.hid (E1.out.trans hE2)
      clear hE2 E1
      go_wp2
      go_ret3
      exact ⟨by rw [LL.out] <;> rfl, E2.out⟩
    | true =>
      obtain ⟨IX, h128⟩ := idx_let ch hl
      have TU : Hid (∀ wx, Calls Tryd.prog 46 #[.string (ba [ch])] wx fun e w' => e = .returned (.string ⟨#[Lib.upperB ch]⟩) ∧ Ext wx w') := Lib.hid (fun wx =>
        (Tryd.strings_ToUpper_ascii (ba [ch]) wx (by omega) (fun j b hj => by
          rw [ba_data] at hj
          rcases j with _ | j
          · simp at hj; subst hj; exact h128
          · simp at hj)).mono (fun e w' ⟨he, hb⟩ => ⟨by rw [he, ba_data]; rfl, ext_of_below hb⟩))
      obtain ⟨ix, hix⟩ : ∃ ix, Lib.indexByte lettersL (Lib.upperB ch) = ix := ⟨_, rfl⟩
      have ID : Hid (∀ wx, Calls Tryd.prog 45 #[.string { data := #[32, 77, 76, 81, 67, 90] }, .string ⟨#[Lib.upperB ch]⟩] wx fun e w' => e = .returned (.int .i64 ix) ∧ Ext wx w') := Lib.hid (fun wx =>
        (Tryd.strings_Index_one { data := #[32, 77, 76, 81, 67, 90] } (Lib.upperB ch) wx).mono (fun e w' ⟨he, hb⟩ => ⟨by rw [he, ← hix]; rfl, by rw [hb]; exact Ext.refl _⟩))
      rw [hix] at IX
      have HIX := Lib.hid IX
      have KW : Hid (kindW [ch] = kindL ch) := Lib.hid rfl
      rw [hl] at LT
      clear hix hl hL IX
      go_enter Tryd.func36, Tryd.ntmps36
      go_wp2_with fail
      refine region_quiet (by kernel_rfl) (by kernel_rfl) ?_
      iterate 11 (go_big_quiet_step (fail))
      refine wpQuiet_nil ?_
      intro w1 hE1
      have E1 := Lib.hid hE1
      clear hE1 d0 d1 d2
      go_wp2_with fail
      refine (LT.out _).mono ?_
      rintro e w2 ⟨rfl, hE2⟩
      have E2 := Lib.hid (E1.out.trans hE2)
      clear hE2 E1
      go_wp2_with fail
      refine (TU.out _).mono ?_
      rintro e w3 ⟨rfl, hE3⟩
      have E3 := Lib.hid (E2.out.trans hE3)
      clear hE3 E2
      go_wp2_with fail
      refine (ID.out _).mono ?_
      rintro e w4 ⟨rfl, hE4⟩
      have E4 := Lib.hid (E3.out.trans hE4)
      clear hE4 E3 LT TU ID
      obtain ⟨m, hm⟩ : ∃ m, ch.toNat = m := ⟨_, rfl⟩
      have HMM := Lib.hid hm
      rcases HIX.out with ⟨hx1, hx2⟩ | ⟨hx1, hx2⟩
      · have LL : Hid (letterL [ch] st.p = (0, false, 20)) := Lib.hid (by rw [letterL, if_pos (by rw [KW.out]; exact hx2)])
        go_wp2
        go_ret3
        exact ⟨by rw [LL.out] <;> rfl, E4.out⟩
      · have hx1' : ¬ ix < 1 := by omega
        have KW2 : Hid (kindW [ch] = ix) := Lib.hid (KW.out.trans hx2)
        have hx5 : ix ≤ 5 := by rw [← hx2]; exact (kindL_range ch).2
        have HR4 : r < w4.heap.size := Nat.lt_of_lt_of_le HR E4.out.size
        obtain ⟨N, hN⟩ : ∃ N, st.p.length = N := ⟨_, rfl⟩
        have HNN := Lib.hid hN
        rw [hN] at hp
        have g0 : ∀ g, (w4.ext g).cell? ⟨r, 2, none⟩ = some (.slice A' N c') := by
          intro g; rw [← HNN.out]; exact (cellE g HR4).trans ((E4.out.cell HR).trans HC2.out)
        have H0 : Hid (kindW [ch] ≠ 0) := Lib.hid (by rw [KW2.out]; omega)
        clear hN hx2
        by_cases hk1 : ix = 1
        · have LL : Hid (letterL [ch] st.p = (ix, decide (97 ≤ m), 0)) := Lib.hid (by rw [letterL, if_neg H0.out, if_neg (by rw [KW2.out]; intro h; exact h.1 hk1), KW2.out]; simp [HMM.out])
          subst hk1
          go_wp2_with fail
          refine region_quiet (by kernel_rfl) (by kernel_rfl) ?_
          iterate 27 (go_big_quiet_step (fail))
          refine wpQuiet_nil ?_
          intro w5 hE5
          have E5 := Lib.hid (E4.out.trans hE5)
          clear hE5 E4 g0
          by_cases h97 : 97 ≤ m
          · have h97' : 97 ≤ (m : Int) := by omega
            have LL2 : Hid (letterL [ch] st.p = (1, true, 0)) := Lib.hid (by rw [LL.out, decide_eq_true h97])
            go_wp2_with fail
            refine region_quiet (by kernel_rfl) (by kernel_rfl) ?_
            iterate 7 (go_big_quiet_step (fail))
            refine wpQuiet_nil ?_
            intro w6 hE6
            have E6 := Lib.hid (E5.out.trans hE6)
            clear hE6
            go_wp2
            go_ret3
            exact ⟨by rw [LL2.out] <;> rfl, E6.out⟩
          · have h97' : ¬ 97 ≤ (m : Int) := by omega
            have hd97 : decide (97 ≤ (m : Int)) = false := decide_eq_false h97'
            have LL2 : Hid (letterL [ch] st.p = (1, false, 0)) := Lib.hid (by rw [LL.out, decide_eq_false h97])
            go_wp2_with fail
            refine region_quiet (by kernel_rfl) (by kernel_rfl) ?_
            iterate 7 (go_big_quiet_step (fail))
            refine wpQuiet_nil ?_
            intro w6 hE6
            have E6 := Lib.hid (E5.out.trans hE6)
            clear hE6
            go_wp2
            go_ret3
            exact ⟨by rw [LL2.out] <;> rfl, E6.out⟩
        · have hk1' : (ix == 1) = false := by simpa using hk1
          have hb1 : (ix != 1) = true := by simpa using hk1
          have hb2 : decide (ix = 1) = false := by simpa using hk1
          have hb3 : (!(ix == 1)) = true := by rw [hk1']; rfl
          have hb4 : decide (ix ≠ 1) = true := by simpa using hk1
          by_cases hN0 : N = 0
          · have LL : Hid (letterL [ch] st.p = (0, false, 33)) := Lib.hid (by rw [letterL, if_neg H0.out, if_pos ⟨by rw [KW2.out]; exact hk1, by rw [List.eq_nil_of_length_eq_zero (HNN.out.trans hN0)]; rfl⟩])
            subst hN0
            go_wp2_with fail
            refine region_quiet (by kernel_rfl) (by kernel_rfl) ?_
            iterate 27 (go_big_quiet_step (fail))
            refine wpQuiet_nil ?_
            intro w5 hE5
            have E5 := Lib.hid (E4.out.trans hE5)
            clear hE5 E4 g0
            go_wp2
            go_ret3
            exact ⟨by rw [LL.out] <;> rfl, E5.out⟩
          · have hN0' : ((N : Int) == 0) = false := by simp; omega
            have hsl : Sl sgR w (.slice A' N c') st.p := by rw [← HNN.out]; exact HSP.out
            obtain ⟨N1, hN1⟩ : ∃ N1, N = N1 + 1 := ⟨N - 1, by omega⟩
            have hNl : N1 < N := by omega
            have hNl' : (N1 : Int) < (N : Int) := by omega
            obtain ⟨b2, off2, rfl, hb2, _, hcl⟩ := hsl.at (i := N1) (by omega)
            have hc0 := hcl 0 (by decide)
            obtain ⟨kk, hkk⟩ : ∃ kk, (st.p.getD N1 noS).k = kk := ⟨_, rfl⟩
            have g1 : ∀ g, (w4.ext g).cell? ⟨b2, off2 + N1 * 7, none⟩ = some (.int .i64 kk) := by
              intro g
              rw [cellE g (Nat.lt_of_lt_of_le hb2 E4.out.size), E4.out.cell hb2]
              have := hc0
              rw [← hkk]
              exact this
            have OP : Hid (openL false st.p = decide (kk ≠ 5)) := Lib.hid (by rw [openL_last false st.p (by rw [HNN.out]; omega), HNN.out, hN1, Nat.add_sub_cancel, hkk])
            have wrN : IntKind.i64.wrap ((N : Int) - 1) = (N1 : Int) := by rw [IntKind.wrap_i64]; omega
            clear hc0 hcl hsl hkk hN1
            by_cases h5 : kk = 5
            · subst h5
              have LL : Hid (letterL [ch] st.p = (0, false, 33)) := Lib.hid (by rw [letterL, if_neg H0.out, if_pos ⟨by rw [KW2.out]; exact hk1, by rw [OP.out]; rfl⟩])
              go_wp2_with fail
              refine region_quiet (by kernel_rfl) (by kernel_rfl) ?_
              iterate 27 (go_big_quiet_step (fail))
              refine wpQuiet_nil ?_
              intro w5 hE5
              have E5 := Lib.hid (E4.out.trans hE5)
              clear hE5 E4 g0 g1
              go_wp2
              go_ret3
              exact ⟨by rw [LL.out] <;> rfl, E5.out⟩
            · have h5' : (kk == 5) = false := by simpa using h5
              have LL : Hid (letterL [ch] st.p = (ix, decide (97 ≤ m), 0)) := Lib.hid (by rw [letterL, if_neg H0.out, if_neg (by rw [OP.out]; intro h; simp [h5] at h), KW2.out]; simp [HMM.out])
              go_wp2_with fail
              refine region_quiet (by kernel_rfl) (by kernel_rfl) ?_
              iterate 27 (go_big_quiet_step (fail))
              refine wpQuiet_nil ?_
              intro w5 hE5
              have E5 := Lib.hid (E4.out.trans hE5)
              clear hE5 E4 g0 g1
              by_cases h97 : 97 ≤ m
              · have h97' : 97 ≤ (m : Int) := by omega
                have LL2 : Hid (letterL [ch] st.p = (ix, true, 0)) := Lib.hid (by rw [LL.out, decide_eq_true h97])
                go_wp2_with fail
                refine region_quiet (by kernel_rfl) (by kernel_rfl) ?_
                iterate 7 (go_big_quiet_step (fail))
                refine wpQuiet_nil ?_
                intro w6 hE6
                have E6 := Lib.hid (E5.out.trans hE6)
                clear hE6
                go_wp2
                go_ret3
                exact ⟨by rw [LL2.out] <;> rfl, E6.out⟩
              · have h97' : ¬ 97 ≤ (m : Int) := by omega
                have hd97 : decide (97 ≤ (m : Int)) = false := decide_eq_false h97'
                have LL2 : Hid (letterL [ch] st.p = (ix, false, 0)) := Lib.hid (by rw [LL.out, decide_eq_false h97])
                go_wp2_with fail
                refine region_quiet (by kernel_rfl) (by kernel_rfl) ?_
                iterate 7 (go_big_quiet_step (fail))
                refine wpQuiet_nil ?_
                intro w6 hE6
                have E6 := Lib.hid (E5.out.trans hE6)
                clear hE6
                go_wp2
                go_ret3
                exact ⟨by rw [LL2.out] <;> rfl, E6.out⟩
  · have LL : Hid (letterL x st.p = (0, false, 20)) := Lib.hid (by rw [letterL, if_pos (by rw [kindW, if_neg (by omega)])])
    have hne : ((L : Int) == 1) = false := by simp; omega
    clear HSP OKS
    go_enter Tryd.func36, Tryd.ntmps36
    go_wp2_with fail
    refine region_quiet (by kernel_rfl) (by kernel_rfl) ?_
    iterate 11 (go_big_quiet_step (fail))
    refine wpQuiet_nil ?_
    intro w1 hE1
    have E1 := Lib.hid hE1
    clear hE1 d0 d1 d2
    go_wp2
    go_ret3
    exact ⟨by rw [LL.out] <;> rfl, E1.out⟩
end Go.Proofs.YtakebbphielbfaaDoor
