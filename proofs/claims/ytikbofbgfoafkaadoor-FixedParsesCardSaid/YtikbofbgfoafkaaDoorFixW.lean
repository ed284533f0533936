import Derived.Test.YtikbofbgfoafkaaDoorFixP
namespace Go.Proofs.YtikbofbgfoafkaaDoor
open Go.RowKit
set_option linter.unusedVariables false
set_option linter.unusedSimpArgs false

set_option maxRecDepth 100000 in
set_option maxHeartbeats 6400000 in
theorem FixedParses_walk (s : ByteArray) (w : World) (hI : IV w) : Calls Tryd.prog 8 #[.string s] w fun e w' => e = .returned (.bool true) ∧ Ext w w' := by
  have AW := Lib.hid (fun wx => awake_any wx)
  by_cases h2 : 200 < s.size
  · have h2' : (200 : Int) < (s.size : Int) := by omega
    clear hI
    go_enter Tryd.func8, Tryd.ntmps8
    go_wp2_with fail
    refine (AW.out _).mono ?_
    rintro e w9 ⟨rfl, hE⟩
    have E9 := Lib.hid hE
    clear hE
    go_wp2
    go_ret
    exact ⟨rfl, E9.out⟩
  · have h2' : ¬ (200 : Int) < (s.size : Int) := by omega
    have PA := parse_any s w (by omega) hI
    rcases parseR_or s.data.toList with hr | ⟨m, hr, hm, ht⟩
    · rw [hr] at PA
      have PAH := Lib.hid PA
      clear PA hr hI h2
      go_enter Tryd.func8, Tryd.ntmps8
      go_wp2_with fail
      refine PAH.out.mono ?_
      rintro e w1 ⟨rfl, hE⟩
      have E1 := Lib.hid hE
      clear hE PAH
      go_wp2_with fail
      refine (AW.out _).mono ?_
      rintro e w9 ⟨rfl, hE⟩
      have E9 := Lib.hid (E1.out.trans hE)
      clear hE
      go_wp2
      go_ret
      exact ⟨rfl, E9.out⟩
    · rw [hr] at PA
      have PAH := Lib.hid PA
      have IN := Lib.hid (fun wx => refIn_yes m wx hm)
      have RT := Lib.hid (fun wx => refText_any m wx hm)
      rw [ht] at RT
      have hba : ba s.data.toList = s := rfl
      rw [hba] at RT
      clear PA hr hI h2 ht hba
      go_enter Tryd.func8, Tryd.ntmps8
      go_wp2_with fail
      refine PAH.out.mono ?_
      rintro e w1 ⟨rfl, hE⟩
      have E1 := Lib.hid hE
      clear hE PAH
      go_wp2_with fail
      refine (IN.out w1).mono ?_
      rintro e w2 ⟨rfl, hE⟩
      have E2 := Lib.hid (E1.out.trans hE)
      clear hE E1
      go_wp2_with fail
      refine (RT.out w2).mono ?_
      rintro e w3 ⟨rfl, hE⟩
      have E3 := Lib.hid (E2.out.trans hE)
      clear hE E2
      go_wp2_with fail
      refine (AW.out _).mono ?_
      rintro e w9 ⟨rfl, hE⟩
      have E9 := Lib.hid (E3.out.trans hE)
      clear hE
      go_wp2
      go_ret
      exact ⟨rfl, E9.out⟩

set_option maxRecDepth 100000 in
set_option maxHeartbeats 6400000 in
theorem FixedTexts_walk (a : Int) (w : World) (hI : IV w) : Calls Tryd.prog 7 #[.int .i64 a] w fun e w' => e = .returned (.bool true) ∧ Ext w w' := by
  have AW := Lib.hid (fun wx => awake_any wx)
  by_cases hin : -2147483648 ≤ a ∧ a ≤ 2147483648
  · have TX := Lib.hid (text_any a w hin hI.tab)
    have IN := Lib.hid (fun wx => refIn_yes a wx hin)
    have RT := Lib.hid (fun wx => refText_any a wx hin)
    have PA : Hid (∀ wx, Ext w wx → Calls Tryd.prog 23 #[.string (ba (textL a))] wx fun e w' => e = .returned (.tuple #[.int .i64 a, .int .i64 0]) ∧ Ext wx w') := Lib.hid fun wx he => by
      have := parse_any (ba (textL a)) wx (by rw [ba_size]; have := text_len (a := a) (by omega); omega) (hI.ext he)
      have hd : (ba (textL a)).data.toList = textL a := rfl
      rw [hd, parse_text a hin] at this
      exact this
    obtain ⟨T, hT⟩ : ∃ T, ba (textL a) = T := ⟨_, rfl⟩
    rw [hT] at TX RT PA
    clear hI hin hT
    go_enter Tryd.func7, Tryd.ntmps7
    go_wp2_with fail
    refine TX.out.mono ?_
    rintro e w1 ⟨rfl, hE⟩
    have E1 := Lib.hid hE
    clear hE TX
    go_wp2_with fail
    refine (IN.out w1).mono ?_
    rintro e w2 ⟨rfl, hE⟩
    have E2 := Lib.hid (E1.out.trans hE)
    clear hE E1
    go_wp2_with fail
    refine (PA.out w2 E2.out).mono ?_
    rintro e w3 ⟨rfl, hE⟩
    have E3 := Lib.hid (E2.out.trans hE)
    clear hE E2
    go_wp2_with fail
    refine (RT.out w3).mono ?_
    rintro e w4 ⟨rfl, hE⟩
    have E4 := Lib.hid (E3.out.trans hE)
    clear hE E3
    go_wp2_with fail
    refine (AW.out _).mono ?_
    rintro e w9 ⟨rfl, hE⟩
    have E9 := Lib.hid (E4.out.trans hE)
    clear hE
    go_wp2
    go_ret
    exact ⟨rfl, E9.out⟩
  · have TX := Lib.hid (text_no a w hin)
    have IN := Lib.hid (fun wx => refIn_no a wx hin)
    have IN2 := Lib.hid (fun wx => in_no a wx hin)
    clear hI hin
    go_enter Tryd.func7, Tryd.ntmps7
    go_wp2_with fail
    refine TX.out.mono ?_
    rintro e w1 ⟨rfl, hE⟩
    have E1 := Lib.hid hE
    clear hE TX
    go_wp2_with fail
    refine (IN.out w1).mono ?_
    rintro e w2 ⟨rfl, hE⟩
    have E2 := Lib.hid (E1.out.trans hE)
    clear hE E1
    have eb : (ba []).toList.isEmpty = true := by rw [ByteArray.toList_eq]; rfl
    go_wp2_with fail
    refine (IN2.out w2).mono ?_
    rintro e w3 ⟨rfl, hE⟩
    have E3 := Lib.hid (E2.out.trans hE)
    clear hE E2
    go_wp2_with fail
    refine (AW.out _).mono ?_
    rintro e w9 ⟨rfl, hE⟩
    have E9 := Lib.hid (E3.out.trans hE)
    clear hE
    go_wp2
    go_ret
    exact ⟨rfl, E9.out⟩

end Go.Proofs.YtikbofbgfoafkaaDoor
