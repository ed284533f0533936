import Derived.Test.YtakebbphielbfaaDoorQRk
namespace Go.Proofs.YtakebbphielbfaaDoor
open Go.RowKit
set_option linter.unusedVariables false
set_option linter.unusedSimpArgs false
set_option maxRecDepth 100000
set_option maxHeartbeats 6400000

theorem ba_get (s : List UInt8) (i : Nat) (h : i < (ba s).size) : (ba s)[i] = s.getD i 0 := by
  have : (ba s)[i] = s[i]'(by rw [ba_size] at h; exact h) := rfl
  rw [this, List.getD_eq_getElem?_getD, List.getElem?_eq_getElem (by rw [ba_size] at h; exact h)]; rfl

theorem cellE {w : World} (g : Junk) {b i : Nat} (hb : b < w.heap.size) : (w.ext g).cell? ⟨b, i, none⟩ = w.cell? ⟨b, i, none⟩ := Ext.cell (w := w) ⟨g, rfl⟩ hb

theorem isNum_any {b0 r T : Nat} {w : World} {ws : List (List UInt8)} {st : Rd} (h : RK b0 r T w ws st) (hw : WsOk ws) (hle : st.at_ ≤ ws.length) :
    Calls Tryd.prog 39 #[.pointer (some ⟨r, 0, none⟩)] w fun e w' => e = .returned (.bool (isNum ws st.at_)) ∧ Ext w w' := by
  obtain ⟨A, c, A', c', c0, c1, c2, c3, c4, c5, c6, fz, hsl, hO⟩ := h.cells
  obtain ⟨i, hi⟩ : ∃ i, st.at_ = i := ⟨_, rfl⟩
  rw [hi] at c1 hle ⊢
  obtain ⟨n, hn⟩ : ∃ n, ws.length = n := ⟨_, rfl⟩
  rw [hn] at c0 hle hsl
  have few := hw.few
  rw [hn] at few
  have HR := h.lt
  have d0 : ∀ g, (w.ext g).cell? ⟨r, 0, none⟩ = some (.slice A n c) := fun g => (cellE g HR).trans c0
  have d1 : ∀ g, (w.ext g).cell? ⟨r, 1, none⟩ = some (.int .i64 (i : Int)) := fun g => (cellE g HR).trans c1
  by_cases hlt : i < n
  · have hlt' : (i : Int) < (n : Int) := by omega
    obtain ⟨b, off, rfl, hb, hc⟩ := sl_word hsl hlt
    have d2 : ∀ g, (w.ext g).cell? ⟨b, off + i, none⟩ = some (.string (ba (ws.getD i []))) := fun g => (cellE g hb).trans hc
    have hok := (hw.ok i (by omega)).1
    obtain ⟨x, hx⟩ : ∃ x, ws.getD i [] = x := ⟨_, rfl⟩
    have NX : Hid (isNum ws i = !letB (x.getD 0 0)) := Lib.hid (by rw [isNum, hx, hn, decide_eq_true hlt, Bool.true_and])
    rw [hx] at d2 hok
    have sz : (ba x).size = x.length := ba_size x
    obtain ⟨L, hL⟩ : ∃ L, x.length = L := ⟨_, rfl⟩
    rw [hL] at sz
    have hL0 : 0 < L := by rw [← hL]; exact List.length_pos_iff.2 hok
    have hpos : 0 < (ba x).size := by omega
    have hby := ba_get x 0 hpos
    obtain ⟨ch, hch⟩ : ∃ ch, x.getD 0 0 = ch := ⟨_, rfl⟩
    rw [hch] at hby NX
    have LT := Lib.hid (fun wx => let_any ch wx)
    rw [NX.out]
    clear h hi hn c0 c1 c2 c3 c4 c5 c6 fz hsl hO hw hc hx hok hL hch NX
    go_enter Tryd.func39, Tryd.ntmps39
    go_wp2_with fail
    refine region_quiet (by kernel_rfl) (by kernel_rfl) ?_
    iterate 26 (go_big_quiet_step (exact calls_ext (LT.out _)))
    refine wpQuiet_nil ?_
    rintro _ ⟨g7, rfl⟩
    go_wp2
    go_ret
    exact ⟨rfl, ⟨g7, rfl⟩⟩
  · have hlt' : ¬ (i : Int) < (n : Int) := by omega
    have NX : Hid (isNum ws i = false) := Lib.hid (by rw [isNum, hn, decide_eq_false hlt, Bool.false_and])
    rw [NX.out]
    clear h hi hn c2 c3 c4 c5 c6 fz hsl hO hw NX c0 c1
    go_enter Tryd.func39, Tryd.ntmps39
    go_wp2_with fail
    refine region_quiet (by kernel_rfl) (by kernel_rfl) ?_
    iterate 26 (go_big_quiet_step (fail))
    refine wpQuiet_nil ?_
    rintro _ ⟨g7, rfl⟩
    go_wp2
    go_ret
    exact ⟨rfl, ⟨g7, rfl⟩⟩

/-- the reader behind a number -/
def stN (st : Rd) (e : Int) : Rd := if e = 0 then { st with at_ := st.at_ + 1 } else st
theorem stN_0 (st : Rd) : stN st 0 = { st with at_ := st.at_ + 1 } := rfl
theorem stN_n (st : Rd) {e : Int} (h : e ≠ 0) : stN st e = st := if_neg h

theorem num_any {b0 r T : Nat} {w : World} {ws : List (List UInt8)} {st : Rd} (h : RK b0 r T w ws st) (hw : WsOk ws) (hle : st.at_ ≤ ws.length) (more : Int) (hm : inR more) :
    Calls Tryd.prog 47 #[.pointer (some ⟨r, 0, none⟩), .int .i64 more] w fun e w' => e = .returned (.tuple #[.int .i64 (num1 ws st.at_ more).1, .int .i64 (num1 ws st.at_ more).2]) ∧ RK b0 r T w' ws (stN st (num1 ws st.at_ more).2) ∧ Keep w w' (fun k => k = r) := by
  obtain ⟨A, c, A', c', c0, c1, c2, c3, c4, c5, c6, fz, hsl, hO⟩ := h.cells
  obtain ⟨i, hi⟩ : ∃ i, st.at_ = i := ⟨_, rfl⟩
  have HI := Lib.hid hi
  rw [hi] at c1 hle ⊢
  obtain ⟨n, hn⟩ : ∃ n, ws.length = n := ⟨_, rfl⟩
  rw [hn] at c0 hle hsl
  have few := hw.few
  rw [hn] at few
  have HR := h.lt
  have H := Lib.hid h
  have d0 : ∀ g, (w.ext g).cell? ⟨r, 0, none⟩ = some (.slice A n c) := fun g => (cellE g HR).trans c0
  have d1 : ∀ g, (w.ext g).cell? ⟨r, 1, none⟩ = some (.int .i64 (i : Int)) := fun g => (cellE g HR).trans c1
  by_cases hlt : i < n
  · have hne : ((i : Int) == (n : Int)) = false := by simp; omega
    obtain ⟨b, off, rfl, hb, hc⟩ := sl_word hsl hlt
    have short := hw.short i
    obtain ⟨x, hx⟩ : ∃ x, ws.getD i [] = x := ⟨_, rfl⟩
    rw [hx] at hc short
    have PA : Hid (∀ wx, Ext w wx → Calls Tryd.prog 55 #[.string (ba x)] wx fun e w' => e = .returned (.tuple #[.int .i64 (parseR x).1, .int .i64 (parseR x).2]) ∧ Ext wx w') := Lib.hid (fun wx hE => by
      have := parse_any (ba x) wx (by rw [ba_size]; exact short) (h.ext hE).iv
      rw [ba_data] at this
      exact this)
    have NX : Hid (num1 ws i more = if (parseR x).2 = 0 then (if inR ((parseR x).1 + more) then ((parseR x).1 + more, 0) else (0, 10)) else (0, 20)) := Lib.hid (by
      rw [num1, if_pos (by omega), hx])
    have PO := Lib.hid (parseR_or x)
    have few2 : i ≤ 3000 := by omega
    have hfz := fz 1
    clear h hi hn c0 c1 c2 c3 c4 c5 c6 fz hsl hO hw hx short
    go_enter Tryd.func47, Tryd.ntmps47
    go_wp2_with fail
    refine region_quiet (by kernel_rfl) (by kernel_rfl) ?_
    iterate 10 (go_big_quiet_step (fail))
    refine wpQuiet_nil ?_
    intro w1 hE1
    have E1 := Lib.hid hE1
    have HR1 : r < w1.heap.size := Nat.lt_of_lt_of_le HR hE1.size
    have e0 : ∀ g, (w1.ext g).cell? ⟨r, 0, none⟩ = some (.slice (some ⟨b, off, none⟩) n c) := by
      obtain ⟨g1, rfl⟩ := hE1
      intro g; exact (cellE g HR1).trans (d0 g1)
    have e1 : ∀ g, (w1.ext g).cell? ⟨r, 1, none⟩ = some (.int .i64 (i : Int)) := by
      obtain ⟨g1, rfl⟩ := hE1
      intro g; exact (cellE g HR1).trans (d1 g1)
    have e2 : ∀ g, (w1.ext g).cell? ⟨b, off + i, none⟩ = some (.string (ba x)) := fun g => (cellE g (Nat.lt_of_lt_of_le hb hE1.size)).trans ((hE1.cell hb).trans hc)
    clear hE1 d0 d1 hc hb
    have PA1 : Hid (∀ g, Calls Tryd.prog 55 #[.string (ba x)] (w1.ext g) fun e w' => e = .returned (.tuple #[.int .i64 (parseR x).1, .int .i64 (parseR x).2]) ∧ Ext (w1.ext g) w') := Lib.hid (fun g => PA.out _ (E1.out.trans ⟨g, rfl⟩))
    obtain ⟨p1, hp1⟩ : ∃ z, (parseR x).1 = z := ⟨_, rfl⟩
    obtain ⟨p2, hp2⟩ : ∃ z, (parseR x).2 = z := ⟨_, rfl⟩
    rw [hp1, hp2] at PA1 NX
    have PO2 : Hid ((p1 = 0 ∧ p2 = 20) ∨ (p2 = 0 ∧ inR p1)) := Lib.hid (by
      rcases PO.out with e | ⟨m, e, hm, _⟩
      · left; rw [← hp1, ← hp2, e]; exact ⟨rfl, rfl⟩
      · right; rw [← hp1, ← hp2, e]; exact ⟨rfl, hm⟩)
    clear PA PO hp1 hp2
    go_wp2_with fail
    refine region_quiet (by kernel_rfl) (by kernel_rfl) ?_
    iterate 16 (go_big_quiet_step (exact calls_ext (PA1.out _)))
    refine wpQuiet_nil ?_
    intro w2 hE2
    have E2 := Lib.hid (E1.out.trans hE2)
    clear hE2 E1 e0 e1 e2 PA1
    rcases PO2.out with ⟨rfl, rfl⟩ | ⟨rfl, hr1⟩
    · rw [if_neg (by decide)] at NX
      have FIN : Hid (RK b0 r T w2 ws st ∧ Keep w w2 (fun k => k = r)) := Lib.hid ⟨H.out.ext E2.out, Keep.ofExt E2.out _⟩
      clear H PO2
      go_wp2
      go_ret2
      exact ⟨by rw [NX.out] <;> rfl, by rw [NX.out, stN_n _ (by decide)]; exact FIN.out.1, FIN.out.2⟩
    · rw [if_pos rfl] at NX
      by_cases hin : inR (p1 + more)
      · rw [if_pos hin] at NX
        have AD := Lib.hid (fun wx => add_yes p1 more wx hr1 hm hin)
        clear PO2
        go_wp2_with fail
        refine (AD.out _).mono ?_
        rintro e w3 ⟨rfl, hE3⟩
        have R3 := (H.out.ext E2.out).ext hE3
        obtain ⟨A3, c3, A3', c3', k0, k1, -, -, -, -, -, kf, -, -⟩ := R3.cells
        rw [HI.out] at k1
        have hfz := kf 1
        have HR3 := R3.lt
        have FIN := Lib.hid (R3.put { st with at_ := i + 1 } 1 (.int .i64 ((i : Int) + 1)) rfl (fun W P => by rfl))
        have KE : Hid (Keep w w3 (fun k => k = r)) := Lib.hid (Keep.ofExt (E2.out.trans hE3) _)
        clear hE3 R3 k0 kf E2 AD H hin hr1
        go_wp2
        go_ret2
        exact ⟨by rw [NX.out] <;> rfl, by rw [NX.out, stN_0, HI.out]; exact FIN.out.1, KE.out.trans FIN.out.2 (fun _ _ x => x)⟩
      · rw [if_neg hin] at NX
        have AD := Lib.hid (fun wx => add_no p1 more wx (fun hh => hin hh.2.2))
        have H2 := Lib.hid (H.out.ext E2.out)
        clear PO2 H
        go_wp2_with fail
        refine (AD.out _).mono ?_
        rintro e w3 ⟨rfl, hE3⟩
        have FIN : Hid (RK b0 r T w3 ws st ∧ Keep w w3 (fun k => k = r)) := Lib.hid ⟨H2.out.ext hE3, Keep.ofExt (E2.out.trans hE3) _⟩
        clear hE3 H2 E2 AD hin hr1
        go_wp2
        go_ret2
        exact ⟨by rw [NX.out] <;> rfl, by rw [NX.out, stN_n _ (by decide)]; exact FIN.out.1, FIN.out.2⟩
  · obtain rfl : i = n := by omega
    have NX : Hid (num1 ws i more = (0, 20)) := Lib.hid (by rw [num1, if_neg (by omega)])
    rw [NX.out]
    clear h hi hn c0 c1 c2 c3 c4 c5 c6 fz hsl hO hw NX
    go_enter Tryd.func47, Tryd.ntmps47
    go_wp2_with fail
    refine region_quiet (by kernel_rfl) (by kernel_rfl) ?_
    iterate 10 (go_big_quiet_step (fail))
    refine wpQuiet_nil ?_
    intro w1 hE1
    have FIN : Hid (RK b0 r T w1 ws st ∧ Keep w w1 (fun k => k = r)) := Lib.hid ⟨H.out.ext hE1, Keep.ofExt hE1 _⟩
    clear hE1 H d0 d1
    go_wp2
    go_ret2
    exact ⟨rfl, by rw [stN_n _ (by decide)]; exact FIN.out.1, FIN.out.2⟩
end Go.Proofs.YtakebbphielbfaaDoor
