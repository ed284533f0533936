import Derived.Test.YtakebbphielbfaaDoorQRs
namespace Go.Proofs.YtakebbphielbfaaDoor
open Go.RowKit
set_option linter.unusedVariables false
set_option linter.unusedSimpArgs false
set_option maxRecDepth 100000
set_option maxHeartbeats 6400000

theorem parseS_ok {s : List UInt8} (h : (parseS s).1 = 0) : checkL false (parseS s).2 = 0 ∧ (parseS s).2.length ≤ s.length ∧ joinW (parseS s).2 = s := by
  unfold parseS at h ⊢
  split at h
  · cases h
  · rename_i h1
    have h0 : (readS s).1 = 0 := Classical.not_not.1 h1
    rw [if_neg h1]
    split at h
    · rename_i h2
      rw [if_pos h2]
      obtain ⟨c1, c2⟩ := readS_ok h0
      refine ⟨c1, c2, ?_⟩
      dsimp only
      rw [showT, if_pos c1] at h2
      exact h2
    · cases h
theorem parseS_no {s : List UInt8} (h : (parseS s).1 ≠ 0) : parseS s = (20, []) := by
  unfold parseS at h ⊢
  split
  · rfl
  · rename_i h1
    rw [if_neg h1] at h
    split
    · rename_i h2; rw [if_pos h2] at h; exact absurd rfl h
    · rfl

theorem PathtextParses_walk (s : ByteArray) (w : World) (hI : IV w) : Calls Tryd.prog 5 #[.string s] w fun e w' => e = .returned (.bool true) ∧ Ext w w' := by
  have AW := Lib.hid (fun wx (h : Ext w wx) => awake_any wx (hI.ext h))
  have HI := Lib.hid hI
  clear hI
  obtain ⟨sl, hsl⟩ : ∃ sl, s.data.toList = sl := ⟨_, rfl⟩
  have hs : s = ba sl := by rw [← hsl, ba_self]
  subst hs
  clear hsl
  have sz : (ba sl).size = sl.length := ba_size sl
  obtain ⟨N, hN⟩ : ∃ N, sl.length = N := ⟨_, rfl⟩
  have HN := Lib.hid hN
  rw [hN] at sz
  clear hN
  by_cases h500 : N ≤ 500
  · have h500' : ¬ 500 < (N : Int) := by omega
    have PA := Lib.hid (parseP_any sl w (by rw [HN.out]; omega) HI.out)
    by_cases h0 : (parseS sl).1 = 0
    · obtain ⟨c1, c2, c3⟩ := parseS_ok h0
      obtain ⟨⟨er, p⟩, hp⟩ : ∃ z, parseS sl = z := ⟨_, rfl⟩
      rw [hp] at PA c1 c2 c3 h0
      dsimp only at PA c1 c2 c3 h0
      subst h0
      obtain ⟨n, hn⟩ : ∃ n, p.length = n := ⟨_, rfl⟩
      have HPN := Lib.hid hn
      rw [hn, HN.out] at c2
      have C1 := Lib.hid c1
      have C3 := Lib.hid c3
      have BE : ((ba sl).toList == (ba sl).toList) = true := by simp
      clear hp c1 c3 hn
      go_enter Tryd.func5, Tryd.ntmps5
      go_wp2_with fail
      refine PA.out.mono ?_
      rintro e w1 ⟨v, rfl, hO, hE⟩
      obtain ⟨A, c, rfl⟩ := hO.slice
      have S1 := Lib.hid hO.sl
      have E1 := Lib.hid hE
      rw [HPN.out] at S1 ⊢
      clear hO hE PA
      have R1 := Lib.hid (fun wx (h : Ext w1 wx) => ref_any A n c p wx (S1.out.ext h) (by omega))
      go_wp2_with fail
      refine (R1.out w1 (Ext.refl _)).mono ?_
      rintro e w2 ⟨A2, cc2, rfl, hO2, hE2⟩
      have CK := Lib.hid (rcheck_ok A2 n cc2 p w2 hO2.sl (by omega) C1.out)
      have E2 := Lib.hid hE2
      clear hO2 hE2
      go_wp2_with fail
      refine CK.out.mono ?_
      rintro e w3 ⟨rfl, hE3⟩
      have E3 := Lib.hid (E2.out.trans hE3)
      clear hE3 CK
      go_wp2_with fail
      refine (R1.out w3 E3.out).mono ?_
      rintro e w4 ⟨A4, cc4, rfl, hO4, hE4⟩
      have SH := Lib.hid (rshow_ok A4 n cc4 p w4 hO4.sl (by omega) C1.out)
      rw [C3.out] at SH
      have E4 := Lib.hid (E3.out.trans hE4)
      clear hO4 hE4 R1
      go_wp2_with fail
      refine SH.out.mono ?_
      rintro e w5 ⟨rfl, hE5⟩
      have E5 := Lib.hid (E1.out.trans (E4.out.trans hE5))
      clear hE5 SH
      go_wp2_with fail
      refine (AW.out _ E5.out).mono ?_
      rintro e w9 ⟨rfl, hE⟩
      have E9 := Lib.hid (E5.out.trans hE)
      clear hE
      go_wp2
      go_ret
      exact ⟨rfl, E9.out⟩
    · have hp := parseS_no h0
      rw [hp] at PA
      dsimp only at PA
      clear hp h0
      go_enter Tryd.func5, Tryd.ntmps5
      go_wp2_with fail
      refine PA.out.mono ?_
      rintro e w1 ⟨v, rfl, hO, hE⟩
      obtain ⟨A, c, rfl⟩ := hO.slice
      have E1 := Lib.hid hE
      clear hO hE PA
      go_wp2_with fail
      refine (AW.out _ E1.out).mono ?_
      rintro e w9 ⟨rfl, hE⟩
      have E9 := Lib.hid (E1.out.trans hE)
      clear hE
      go_wp2
      go_ret
      exact ⟨rfl, E9.out⟩
  · have h500' : 500 < (N : Int) := by omega
    go_enter Tryd.func5, Tryd.ntmps5
    go_wp2_with fail
    refine (AW.out _ (Ext.refl _)).mono ?_
    rintro e w9 ⟨rfl, hE⟩
    have E9 := Lib.hid hE
    clear hE
    go_wp2
    go_ret
    exact ⟨rfl, E9.out⟩
end Go.Proofs.YtakebbphielbfaaDoor
