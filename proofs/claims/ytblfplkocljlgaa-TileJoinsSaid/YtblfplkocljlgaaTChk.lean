import Derived.Test.YtblfplkocljlgaaTPix
namespace Go.Proofs.Ytblfplkocljlgaa
open Go.RowKit
set_option linter.unusedVariables false
set_option linter.unusedSimpArgs false

/-- is an image right? -/
def rightI (W H : Int) (l : List Px) : Bool := sideB W && sideB H && decide ((l.length : Int) = W * H) && allRight l

theorem mul_bd {W H : Int} (h1 : sideB W = true) (h2 : sideB H = true) : 1 ≤ W * H ∧ W * H ≤ 65536 := by
  simp only [sideB, decide_eq_true_eq] at h1 h2
  have a := Int.mul_le_mul h1.1 h2.1 (by omega) (by omega)
  have b := Int.mul_le_mul h1.2 h2.2 (by omega) (by omega)
  omega

/-- an image by value -/
def imgV (W H : Int) (v : Value) : Value := .agg #[.int .i64 W, .int .i64 H, v]

def errB (b : Bool) : Int := if b then 0 else 30

set_option maxRecDepth 100000 in
set_option maxHeartbeats 1600000 in
theorem check_any (W H : Int) (v : Value) (l : List Px) (w : World) (hW : -9223372036854775808 ≤ W ∧ W ≤ 9223372036854775807) (hH : -9223372036854775808 ≤ H ∧ H ≤ 9223372036854775807) (hl : Pix .u8 w v l) :
    Calls Try.prog 25 #[.agg #[.int .i64 W, .int .i64 H, v]] w fun e w' => e = .returned (.int .i64 (errB (rightI W H l))) ∧ Ext w w' := by
  have P := Lib.hid hl
  obtain ⟨A, cap, rfl, hn, hcap, _⟩ := hl
  obtain ⟨N, hN⟩ : ∃ N, l.length = N := ⟨_, rfl⟩
  rw [hN] at P hn
  rw [hN]
  have HN := Lib.hid hN
  clear hN
  obtain ⟨R, hR⟩ : ∃ R, rightI W H l = R := ⟨_, rfl⟩
  rw [hR]
  have HR := Lib.hid hR
  clear hR
  have SW := Lib.hid (fun wx => side_any W wx hW.1 hW.2)
  have SH := Lib.hid (fun wx => side_any H wx hH.1 hH.2)
  obtain ⟨bW, hbW⟩ : ∃ b, sideB W = b := ⟨_, rfl⟩
  obtain ⟨bH, hbH⟩ : ∃ b, sideB H = b := ⟨_, rfl⟩
  rw [hbW] at SW
  rw [hbH] at SH
  have HB := Lib.hid (And.intro hbW hbH)
  cases bW with
  | false =>
    obtain rfl : R = false := by rw [← HR.out]; simp [rightI, hbW]
    clear hbW hbH
    go_enter Try.func25, Try.ntmps25
    go_wp2_with fail
    refine (SW.out _).mono ?_
    rintro e w1 ⟨rfl, rfl⟩
    go_wp2
    go_ret
    exact ⟨rfl, (Ext.refl w).alloc _⟩
  | true =>
    cases bH with
    | false =>
      obtain rfl : R = false := by rw [← HR.out]; simp [rightI, hbH]
      clear hbW hbH
      go_enter Try.func25, Try.ntmps25
      go_wp2_with fail
      refine (SW.out _).mono ?_
      rintro e w1 ⟨rfl, rfl⟩
      go_wp2_with fail
      refine (SH.out _).mono ?_
      rintro e w1 ⟨rfl, rfl⟩
      go_wp2
      go_ret
      exact ⟨rfl, (Ext.refl w).alloc _⟩
    | true =>
      obtain ⟨m1, m2⟩ := mul_bd hbW hbH
      clear hbW hbH
      by_cases hq : (N : Int) = W * H
      · have HQ := Lib.hid hq
        have E1 : Hid (Ext w (w.alloc (.cells #[.int .i64 W, .int .i64 H, .slice A N cap] 47))) := (Ext.refl w).alloc _
        have CC := Lib.hid (containsFunc_any (.slice A N cap) l _ (P.out.ext E1.out))
        obtain ⟨X, hX⟩ : ∃ X, allRight l = X := ⟨_, rfl⟩
        rw [hX] at CC
        obtain rfl : R = X := by rw [← HR.out, rightI, HB.out.1, HB.out.2, HN.out, hX]; simp [hq]
        have hdec : decide ((N : Int) = W * H) = true := by simpa using hq
        clear hX
        cases R with
        | true =>
          rw [show (!true) = false from rfl] at CC
          go_enter Try.func25, Try.ntmps25
          go_wp2_with fail
          refine (SW.out _).mono ?_
          rintro e w1 ⟨rfl, rfl⟩
          go_wp2_with fail
          refine (SH.out _).mono ?_
          rintro e w1 ⟨rfl, rfl⟩
          go_wp2_with fail
          refine CC.out.mono ?_
          rintro e w1 ⟨rfl, hE⟩
          have E := Lib.hid hE
          clear hE
          go_wp2
          go_ret
          exact ⟨rfl, E1.out.trans E.out⟩
        | false =>
          rw [show (!false) = true from rfl] at CC
          go_enter Try.func25, Try.ntmps25
          go_wp2_with fail
          refine (SW.out _).mono ?_
          rintro e w1 ⟨rfl, rfl⟩
          go_wp2_with fail
          refine (SH.out _).mono ?_
          rintro e w1 ⟨rfl, rfl⟩
          go_wp2_with fail
          refine CC.out.mono ?_
          rintro e w1 ⟨rfl, hE⟩
          have E := Lib.hid hE
          clear hE
          go_wp2
          go_ret
          exact ⟨rfl, E1.out.trans E.out⟩
      · obtain rfl : R = false := by rw [← HR.out, rightI, HB.out.1, HB.out.2, HN.out]; simp [hq]
        go_enter Try.func25, Try.ntmps25
        go_wp2_with fail
        refine (SW.out _).mono ?_
        rintro e w1 ⟨rfl, rfl⟩
        go_wp2_with fail
        refine (SH.out _).mono ?_
        rintro e w1 ⟨rfl, rfl⟩
        go_wp2
        go_ret
        exact ⟨rfl, (Ext.refl w).alloc _⟩

theorem box_any (W H : Int) (v : Value) (w : World) :
    Calls Try.prog 51 #[.agg #[.int .i64 W, .int .i64 H, v]] w fun e w' => e = .returned (.agg #[.int .i64 0, .int .i64 0, .int .i64 W, .int .i64 H]) ∧ Ext w w' := by
  go_enter Try.func51, Try.ntmps51
  go_wp2
  exact bodyPost_ret (v := .agg #[.int .i64 0, .int .i64 0, .int .i64 W, .int .i64 H]) (by simp [results, Try.results51, go_sem]) rfl ⟨rfl, by ((repeat (first | exact Ext.refl _ | apply Ext.alloc | apply Ext.drew' | apply Ext.drewN | apply Ext.ext)))⟩

end Go.Proofs.Ytblfplkocljlgaa
