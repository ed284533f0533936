import Derived.Test.YtakebbphielbfaaDoorQAw
namespace Go.Proofs.YtakebbphielbfaaDoor
open Go.RowKit
set_option linter.unusedVariables false
set_option linter.unusedSimpArgs false
set_option maxRecDepth 100000
set_option maxHeartbeats 6400000

theorem PathtextWords_walk (s : ByteArray) (w : World) (hI : IV w) : Calls Tryd.prog 3 #[.string s] w fun e w' => e = .returned (.bool true) ∧ Ext w w' := by
  have AW := Lib.hid (fun wx (h : Ext w wx) => awake_any wx (hI.ext h))
  clear hI
  obtain ⟨sl, hsl⟩ : ∃ sl, s.data.toList = sl := ⟨_, rfl⟩
  have hs : s = ba sl := by rw [← hsl, ba_self]
  subst hs
  clear hsl
  have sz : (ba sl).size = sl.length := ba_size sl
  obtain ⟨N, hN⟩ : ∃ N, sl.length = N := ⟨_, rfl⟩
  rw [hN] at sz
  by_cases h500 : N ≤ 500
  · have h500' : ¬ 500 < (N : Int) := by omega
    have W1 := Lib.hid (words_any sl w (by omega))
    have W2 := Lib.hid (fun wx => refWords_any sl wx (by omega))
    have WO := Lib.hid (wordsL_ok sl)
    have WL := Lib.hid (wordsL_len sl)
    have WS := Lib.hid (wordsL_sum sl)
    have WA := Lib.hid (words_again (wordsL sl) WO.out)
    obtain ⟨ws, hws⟩ : ∃ ws, wordsL sl = ws := ⟨_, rfl⟩
    rw [hws] at W1 W2 WO WL WS WA
    have WQ := Lib.hid (wordsL_sum sl)
    obtain ⟨n, hn⟩ : ∃ n, ws.length = n := ⟨_, rfl⟩
    have HNW := Lib.hid hn
    have hn5 : n ≤ 500 := by rw [← hn]; have := WL.out; omega
    have SUM : Hid (sumLen ws ≤ 500) := Lib.hid (by have := WS.out; omega)
    clear hws WQ hN
    go_enter Tryd.func3, Tryd.ntmps3
    go_wp2_with fail
    refine W1.out.mono ?_
    rintro e w1 ⟨v1, rfl, hO1, hE1⟩
    obtain ⟨A1, c1, rfl⟩ := hO1.slice
    have S1 := Lib.hid hO1.sl
    have E1 := Lib.hid hE1
    clear hO1 hE1
    go_wp2_with fail
    refine (W2.out w1).mono ?_
    rintro e w2 ⟨v2, rfl, hO2, hE2⟩
    obtain ⟨A2, c2, rfl⟩ := hO2.slice
    have S2 := Lib.hid hO2.sl
    have S1' := Lib.hid (S1.out.ext hE2)
    have E2 := Lib.hid (E1.out.trans hE2)
    rw [hn] at S1' S2 ⊢
    clear hO2 hE2 S1 W1 W2 hn
    have AG0 : ({ data := #[44] } : ByteArray) = ba (againL (ws.take 0)) := rfl
    go_wp2
    go_loopw [5, 24] (fun t5 t24 wr => ∃ (i : Nat) (g : List UInt8), i ≤ n ∧ g.length ≤ 2100 ∧ t5 = .string (ba g) ∧ t24 = .int .i64 (i : Int) ∧ Hid (g = againL (ws.take i) ∧ Ext w2 wr)) (fun _ t24 _ => n - (intOf t24).toNat)
    case atStart => exact ⟨0, againL (ws.take 0), by omega, by simp [againL], rfl, rfl, Lib.hid ⟨rfl, Ext.refl _⟩⟩
    case round =>
      obtain ⟨i, g, hi, hg, rfl, rfl, ST⟩ := hrel
      by_cases hlt : i < n
      · have hlt' : (i : Int) < (n : Int) := by omega
        obtain ⟨b1, o1, rfl, hb1, hc1⟩ := sl_word S1'.out hlt
        obtain ⟨b2, o2, rfl, hb2, hc2⟩ := sl_word S2.out hlt
        have hok := WO.out (ws.getD i []) (by
          rw [List.getD_eq_getElem?_getD, List.getElem?_eq_getElem (by rw [HNW.out]; exact hlt)]; exact List.getElem_mem _)
        have TK : Hid (againL (ws.take (i + 1)) = g ++ (ws.getD i [] ++ [32, 44, 10])) := Lib.hid (by
          rw [List.take_succ_eq_append_getElem (by rw [HNW.out]; exact hlt), againL_snoc, ← ST.out.1, List.getD_eq_getElem?_getD, List.getElem?_eq_getElem (by rw [HNW.out]; exact hlt)]; rfl)
        have GL : Hid ((againL (ws.take (i + 1))).length ≤ 2100) := Lib.hid (by
          rw [againL_len]
          have h1 : sumLen (ws.take (i + 1)) + sumLen (ws.drop (i + 1)) = sumLen ws := by rw [← sumLen_append, List.take_append_drop]
          have h2 : (ws.take (i + 1)).length ≤ n := by simp; omega
          have := SUM.out
          omega)
        obtain ⟨x, hx⟩ : ∃ x, ws.getD i [] = x := ⟨_, rfl⟩
        rw [hx] at hc1 hc2 hok TK
        have xl : x.length ≤ 2100 := by
          have := GL.out
          rw [TK.out] at this
          simp only [List.length_append] at this
          omega
        have EM : (ba x).toList.isEmpty = false := by
          rw [ba_isEmpty]
          cases x with
          | nil => exact absurd rfl hok.1
          | cons a b => rfl
        have d1 : ∀ gg, (wr.ext gg).cell? ⟨b1, o1 + i, none⟩ = some (.string (ba x)) := fun gg => (cellE gg (Nat.lt_of_lt_of_le hb1 ST.out.2.size)).trans ((ST.out.2.cell hb1).trans hc1)
        have d2 : ∀ gg, (wr.ext gg).cell? ⟨b2, o2 + i, none⟩ = some (.string (ba x)) := fun gg => (cellE gg (Nat.lt_of_lt_of_le hb2 ST.out.2.size)).trans ((ST.out.2.cell hb2).trans hc2)
        have zg : (ba g).size ≤ 2100 := by rw [ba_size]; exact hg
        have zx : (ba x).size ≤ 2100 := by rw [ba_size]; exact xl
        have zs : (ba x ++ { data := #[32, 44, 10] }).size ≤ 2103 := by
          have : ba x ++ { data := #[32, 44, 10] } = ba (x ++ [32, 44, 10]) := ba_app x [32, 44, 10]
          rw [this, ba_size, List.length_append]
          simp only [List.length_cons, List.length_nil]
          omega
        have CC : Hid (ba g ++ (ba x ++ { data := #[32, 44, 10] }) = ba (againL (ws.take (i + 1)))) := Lib.hid (by
          have h1 : ba x ++ { data := #[32, 44, 10] } = ba (x ++ [32, 44, 10]) := ba_app x [32, 44, 10]
          rw [h1, ba_app, TK.out])
        clear hx hok hc1 hc2
        go_wp2_with fail
        refine region_quiet (by kernel_rfl) (by kernel_rfl) ?_
        iterate 16 (go_big_quiet_step (fail))
        refine wpQuiet_nil ?_
        intro w3 hE3
        have E3 : Hid (againL (ws.take (i + 1)) = againL (ws.take (i + 1)) ∧ Ext w2 w3) := Lib.hid ⟨rfl, ST.out.2.trans hE3⟩
        have k1 : w3.cell? ⟨b1, o1 + i, none⟩ = some (.string (ba x)) := by
          obtain ⟨gg, rfl⟩ := hE3
          exact d1 gg
        clear hE3 d1 d2 ST TK
        go_wp2
        go_roundw
        case rel => exact ⟨i + 1, _, by omega, GL.out, by rw [CC.out], by go_num, E3⟩
        case measure => simp [intOf]; omega
      · have hlt' : ¬ (i : Int) < (n : Int) := by omega
        have W3 : Hid (Calls Tryd.prog 7 #[.string (ba g)] wr fun e w' => ∃ v, e = .returned v ∧ OwnR strR 9 wr.heap.size w' v ws ∧ Ext wr w') := Lib.hid (by
          have h := words_any g wr (by omega)
          have hg2 : g = againL ws := by rw [ST.out.1, List.take_of_length_le (by rw [HNW.out]; omega)]
          rw [hg2, WA.out] at h
          rw [hg2]
          exact h)
        go_wp2_with fail
        refine W3.out.mono ?_
        rintro e w3 ⟨v3, rfl, hO3, hE3⟩
        obtain ⟨A3, c3, rfl⟩ := hO3.slice
        have S3 := Lib.hid hO3.sl
        have E3 := Lib.hid (ST.out.2.trans hE3)
        rw [HNW.out] at S3 ⊢
        clear hO3 hE3 W3 ST hlt hlt' hi hg AG0
        go_wp2
        go_loopw [60] (fun t60 wr => ∃ i : Nat, i ≤ n ∧ t60 = .int .i64 (i : Int) ∧ Hid (Ext w3 wr)) (fun t60 _ => n - (intOf t60).toNat)
        case atStart => exact ⟨0, by omega, rfl, Lib.hid (Ext.refl _)⟩
        case round =>
          obtain ⟨j, hj, rfl, ST⟩ := hrel
          by_cases hlt : j < n
          · have hlt' : (j : Int) < (n : Int) := by omega
            obtain ⟨b1, o1, rfl, hb1, hc1⟩ := sl_word (S1'.out.ext E3.out) hlt
            obtain ⟨b3, o3, rfl, hb3, hc3⟩ := sl_word S3.out hlt
            obtain ⟨x, hx⟩ : ∃ x, ws.getD j [] = x := ⟨_, rfl⟩
            rw [hx] at hc1 hc3
            have d1 : ∀ gg, (wr.ext gg).cell? ⟨b1, o1 + j, none⟩ = some (.string (ba x)) := fun gg => (cellE gg (Nat.lt_of_lt_of_le hb1 ST.out.size)).trans ((ST.out.cell hb1).trans hc1)
            have d3 : ∀ gg, (wr.ext gg).cell? ⟨b3, o3 + j, none⟩ = some (.string (ba x)) := fun gg => (cellE gg (Nat.lt_of_lt_of_le hb3 ST.out.size)).trans ((ST.out.cell hb3).trans hc3)
            clear hx hc1 hc3
            go_wp2_with fail
            refine region_quiet (by kernel_rfl) (by kernel_rfl) ?_
            iterate 9 (go_big_quiet_step (fail))
            refine wpQuiet_nil ?_
            intro w4 hE4
            have E4 := Lib.hid (ST.out.trans hE4)
            clear hE4 d1 d3 ST
            go_wp2
            go_roundw
            case rel => exact ⟨j + 1, by omega, by go_num, E4⟩
            case measure => simp [intOf]; omega
          · have hlt' : ¬ (j : Int) < (n : Int) := by omega
            have E5 := Lib.hid (E2.out.trans (E3.out.trans ST.out))
            go_wp2_with fail
            refine (AW.out _ E5.out).mono ?_
            rintro e w9 ⟨rfl, hE⟩
            have E9 := Lib.hid (E5.out.trans hE)
            clear hE
            go_wp2
            go_ret
            exact ⟨rfl, E9.out⟩
  · have h500' : 500 < (N : Int) := by omega
    go_enter Tryd.func3, Tryd.ntmps3
    go_wp2_with fail
    refine (AW.out _ (Ext.refl _)).mono ?_
    rintro e w9 ⟨rfl, hE⟩
    have E9 := Lib.hid hE
    clear hE
    go_wp2
    go_ret
    exact ⟨rfl, E9.out⟩
end Go.Proofs.YtakebbphielbfaaDoor
