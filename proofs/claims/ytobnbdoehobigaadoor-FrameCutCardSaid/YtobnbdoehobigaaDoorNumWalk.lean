import Derived.Test.YtobnbdoehobigaaDoorNums
import Derived.Deep.RegionHeld3
namespace Go.Proofs.YtobnbdoehobigaaDoor
open Go.RowKit
set_option linter.unusedVariables false
set_option linter.unusedSimpArgs false

theorem InAt.keep {w w' : World} {gi n c : Nat} {A : Option Addr} {l : List Nat} {bad : Bool} {S : Nat → Prop} (h : InAt w gi A n c l bad) (hk : Keep w w' S) (hg : ¬ S gi) (hA : ∀ a, A = some a → ¬ S a.block) : InAt w' gi A n c l bad :=
  ⟨Nat.lt_of_lt_of_le h.hi hk.size, by rw [hk.cell h.hi hg]; exact h.c0, by rw [hk.cell h.hi hg]; exact h.c1, by rw [hk.frozen h.hi hg]; exact h.f0, by rw [hk.frozen h.hi hg]; exact h.f1, h.bytes.keep hk hA, h.apart⟩

theorem inText_read (gi : Nat) (A : Option Addr) (n c : Nat) (w : World) (t rest : List Nat) (wx : World) (hx : Ext w wx) (hgi : w.heap.size ≤ gi) (ht : t.length ≤ 9223372036854775807) (h : InAt wx gi A n c (textL t ++ rest) false) :
    Calls Tryd.prog 18 #[.pointer (some ⟨gi, 0, none⟩)] wx fun e w' => ∃ v', e = .returned v' ∧ Ext w w' ∧ (∀ wy, Ext w' wy → (convert 22 9 v').run Tryd.prog wy = .ok (.string (strOf t)) wy) ∧ ∃ A4 n4 c4, InAt w' gi A4 n4 c4 rest false := by
  have hd : dec 0 0 (textL t ++ rest) = some (zig (t.length : Int), t ++ rest) := by
    rw [textL, List.append_assoc]
    exact dec_intL _ _ (by omega) (by omega)
  refine (inText_any gi A n c _ wx h).mono fun e w' hp => ?_
  rw [hd] at hp
  unfold TextPost at hp
  simp only at hp
  rw [unzig_zig, if_pos ⟨by omega, by simp; omega⟩] at hp
  obtain ⟨v', rfl, hB, A4, n4, c4, hI4, hK4, _⟩ := hp
  simp only [Int.toNat_natCast, List.take_left, List.drop_left] at hB hI4
  exact ⟨v', rfl, hK4.toExt hx (fun k hk => by rw [hk]; exact hgi), fun wy hy => conv_bytes (hB.ext hy), A4, n4, c4, hI4⟩

set_option maxRecDepth 100000 in
set_option maxHeartbeats 12800000 in
theorem FrameNumbers_walk (v : Value) (L : List Int) (v2 : Value) (T : List (List Nat)) (w : World) (hb : Ints w v L) (hb2 : Texts w v2 T) (hT : Tab w) :
    Calls Tryd.prog 4 #[v, v2] w fun e w' => e = .returned (.bool true) ∧ Ext w w' := by
  have TT := Lib.hid hT
  have I := Lib.hid hb
  have X := Lib.hid hb2
  clear hT
  obtain ⟨A0, c0, rfl, _, _, _, _⟩ := hb
  obtain ⟨A1, c1, rfl, _, _, _⟩ := hb2
  by_cases hlen : 60 < L.length ∨ 30 < T.length
  · by_cases h60 : 60 < L.length
    · have hl : (60 : Int) < (L.length : Int) := by omega
      go_enter Tryd.func4, Tryd.ntmps4
      go_wp2_with fail
      refine (awake_any _ TT.out).mono ?_
      rintro e w' ⟨rfl, g, rfl⟩
      go_wp2
      go_ret
      exact ⟨rfl, ⟨g, rfl⟩⟩
    · have hl : ¬ (60 : Int) < (L.length : Int) := by omega
      have hl2 : (30 : Int) < (T.length : Int) := by omega
      go_enter Tryd.func4, Tryd.ntmps4
      go_wp2_with fail
      refine (awake_any _ TT.out).mono ?_
      rintro e w' ⟨rfl, g, rfl⟩
      go_wp2
      go_ret
      exact ⟨rfl, ⟨g, rfl⟩⟩
  · have hl : ¬ (60 : Int) < (L.length : Int) := by omega
    have hl2 : ¬ (30 : Int) < (T.length : Int) := by omega
    have HL := Lib.hid (show L.length ≤ 60 ∧ T.length ≤ 30 by omega)
    clear hlen
    obtain ⟨N, hN⟩ : ∃ N, L.length = N := ⟨_, rfl⟩
    obtain ⟨M, hM⟩ : ∃ M, T.length = M := ⟨_, rfl⟩
    rw [hN] at hl
    rw [hM] at hl2
    rw [hN, hM]
    rw [hN] at I
    rw [hM] at X
    have HN := Lib.hid hN
    have HM := Lib.hid hM
    clear hN hM
    go_enter Tryd.func4, Tryd.ntmps4
    go_wp2_with fail
    have O0 : Hid (Two w.heap.size (w.alloc (.cells #[.slice none 0 0] 31)) w.heap.size none 0 0 [] none 0 0 []) := by
      refine ⟨⟨Nat.le_refl _, by simp, by simp [go_sem], by simp [go_sem], Own.nil _ _, by simp [Value.ownBlock]⟩, Own.nil _ _, by simp [Value.ownBlock], fun k hk => by simp [Value.ownBlock]⟩
    have E0 : Hid (Ext w (w.alloc (.cells #[.slice none 0 0] 31))) := (Ext.refl w).alloc _
    go_loopw [6, 29] (fun t6 t29 wr => ∃ (i : Nat) (B1 B2 : Option Addr) (n1 d1 n2 d2 : Nat), i ≤ N ∧ t6 = .slice B2 n2 d2 ∧ t29 = .int .i64 (i : Int) ∧ Two w.heap.size wr w.heap.size B1 n1 d1 (numsL (L.take i)) B2 n2 d2 (numsL (L.take i)) ∧ Ext w wr) (fun _ t29 _ => N - (intOf t29).toNat)
    case atStart => exact ⟨0, none, none, 0, 0, 0, 0, by omega, rfl, rfl, O0.out, E0.out⟩
    case round =>
      clear O0 E0
      obtain ⟨i, B1, B2, n1, d1, n2, d2, hi, rfl, rfl, hO, hE⟩ := hrel
      have O := Lib.hid hO
      have E := Lib.hid hE
      clear hO hE
      by_cases hlt : i < N
      · have hlt' : (i : Int) < (N : Int) := by omega
        obtain ⟨b, off, z, rfl, hcell', hz, hzi⟩ := (I.out.ext E.out).at hlt
        have HZ := Lib.hid hzi
        have hz1 := hz.1
        have hz2 := hz.2
        clear hzi hz
        have hcell := hcell'
        clear hcell'
        go_wp2_with fail
        refine (outInt_any w.heap.size w.heap.size B1 n1 d1 (numsL (L.take i)) z _ O.out.out E.out.size (by have := nums_len L i HL.out.1; omega) hz1 hz2).mono ?_
        rintro e w1 ⟨rfl, B1', n1', d1', hO1, hK1, hA1⟩
        have E1 := Lib.hid (hK1.toExt E.out (fun k hk => by
          rcases hk with rfl | hk
          · exact Nat.le_refl _
          · exact O.out.out.own.row k hk))
        have O1 := Lib.hid (O.out.put hO1 hK1 hA1)
        clear hO1 hK1 hA1 O E hcell
        go_wp2_with fail
        refine (refInt_any z _ hz1 hz2).mono ?_
        rintro e w2 ⟨A, n, cap, rfl, hO2, hE2⟩
        have O2 := Lib.hid (O1.out.ext hE2)
        have E2 := Lib.hid (E1.out.trans hE2)
        have Y2 := Lib.hid hO2.bytes
        have Z2 : Hid ((numsL (L.take i)).length + (intL z).length ≤ 70368744177664) := Lib.hid (by have := nums_len L i HL.out.1; have := uvarL_len z; omega)
        clear hO2 hE2 O1 E1
        go_wp2_with (at_builtin; refine wpList_app2 rfl (.tmp 35) (.tmp 37) rfl rfl rfl O2.out.want Y2.out Z2.out E2.out.size ?_)
        intro D d cap2 w3 hO hgr hD
        have O3 := Lib.hid (O2.out.grow hO hgr hD)
        have E3 := Lib.hid (E2.out.grown hgr O2.out.want.row)
        clear hO hgr hD O2 E2
        go_wp2
        go_roundw
        case rel =>
          have ht := nums_take L i (by have := HN.out; omega)
          rw [HZ.out] at ht
          rw [← ht] at O3
          exact ⟨i + 1, B1', D, n1', d1', d, cap2, by omega, rfl, by go_num, O3.out, E3.out⟩
        case measure => simp [intOf]; omega
      · have hlt' : ¬ (i : Int) < (N : Int) := by omega
        obtain rfl : N = i := by omega
        have hfull : L.take N = L := by rw [List.take_of_length_le (by have := HN.out; omega)]
        rw [hfull] at O
        clear hfull hi
        go_wp2_with fail
        go_loopw [6, 42] (fun t6 t42 wr => ∃ (i : Nat) (B1 B2 : Option Addr) (n1 d1 n2 d2 : Nat), i ≤ M ∧ t6 = .slice B2 n2 d2 ∧ t42 = .int .i64 (i : Int) ∧ Two w.heap.size wr w.heap.size B1 n1 d1 (numsL L ++ textsL (T.take i)) B2 n2 d2 (numsL L ++ textsL (T.take i)) ∧ Ext w wr ∧ Small T i) (fun _ t42 _ => M - (intOf t42).toNat)
        case atStart => exact ⟨0, B1, B2, n1, d1, n2, d2, by omega, rfl, rfl, by simpa [textsL] using O.out, E.out, fun j hj => by omega⟩
        case round =>
          clear O E
          obtain ⟨i, B1, B2, n1, d1, n2, d2, hi, rfl, rfl, hO, hE, hS⟩ := hrel
          have O := Lib.hid hO
          have E := Lib.hid hE
          have S := Lib.hid hS
          clear hO hE hS
          by_cases hlt : i < M
          · have hlt' : (i : Int) < (M : Int) := by omega
            obtain ⟨b, off, Bt, m, ct, t, rfl, hcell0, hbt, hti⟩ := X.out.at hlt
            have hcell' := (E.out.cell (World.block_lt_of_cell? _ _ hcell0)).trans hcell0
            have HTI := Lib.hid hti
            have BT0 := Lib.hid hbt
            have hm : m = t.length := hbt.len
            clear hti hbt hcell0
            have hcell := hcell'
            clear hcell'
            by_cases h300 : 300 < m
            · have h300' : (300 : Int) < (m : Int) := by omega
              clear hm
              go_wp2_with fail
              refine (awake_any _ (TT.out.ext E.out)).mono ?_
              rintro e w' ⟨rfl, g, rfl⟩
              go_wp2
              go_ret
              exact ⟨rfl, E.out.ext g⟩
            · have h300' : ¬ (300 : Int) < (m : Int) := by omega
              subst hm
              have HS3 := Lib.hid (show t.length ≤ 300 by omega)
              have HLO := Lib.hid (show (numsL L ++ textsL (T.take i)).length ≤ 9900 by
                have h1 := nums_len L N HL.out.1
                rw [List.take_of_length_le (by have := HN.out; omega)] at h1
                have h2 := texts_len T i S.out (by have := HM.out; omega) HL.out.2
                simp only [List.length_append]; omega)
              have BW := Lib.hid (fun (wx : World) (h : Ext w wx) => BT0.out.ext h)
              go_wp2_with fail
              refine (outText_any w.heap.size w.heap.size B1 n1 d1 (numsL L ++ textsL (T.take i)) (.slice Bt t.length ct) t _ O.out.out E.out.size (by have := HLO.out; omega) (by have := HS3.out; omega) (fun w' hk => BW.out _ (hk.toExt E.out (fun k hk => by
                rcases hk with rfl | hk
                · exact Nat.le_refl _
                · exact O.out.out.own.row k hk)))).mono ?_
              rintro e w1 ⟨rfl, B1', n1', d1', hO1, hK1, hA1⟩
              have E1 := Lib.hid (hK1.toExt E.out (fun k hk => by
                rcases hk with rfl | hk
                · exact Nat.le_refl _
                · exact O.out.out.own.row k hk))
              have O1 := Lib.hid (O.out.put hO1 hK1 hA1)
              clear hO1 hK1 hA1 O E hcell BT0
              go_wp2_with fail
              refine (refInt_any (t.length : Int) _ (by omega) (by have := HS3.out; omega)).mono ?_
              rintro e w2 ⟨A, n, cap, rfl, hO2, hE2⟩
              have O2 := Lib.hid (O1.out.ext hE2)
              have E2 := Lib.hid (E1.out.trans hE2)
              have Y2 := Lib.hid hO2.bytes
              have Z2 : Hid ((numsL L ++ textsL (T.take i)).length + (intL (t.length : Int)).length ≤ 70368744177664) := Lib.hid (by have := HLO.out; have := uvarL_len (t.length : Int); omega)
              clear hO2 hE2 O1 E1
              go_wp2_with (at_builtin; refine wpList_app2 rfl (.tmp 52) (.tmp 55) rfl rfl rfl O2.out.want Y2.out Z2.out E2.out.size ?_)
              intro D d cap2 w3 hO hgr hD
              have O3 := Lib.hid (O2.out.grow hO hgr hD)
              have E3 := Lib.hid (E2.out.grown hgr O2.out.want.row)
              have Y3 := Lib.hid (BW.out _ E3.out)
              have Z3 : Hid ((numsL L ++ (textsL (T.take i) ++ intL (t.length : Int))).length + t.length ≤ 70368744177664) := Lib.hid (by have := HLO.out; have := HS3.out; have := uvarL_len (t.length : Int); simp only [List.length_append] at *; omega)
              clear hO hgr hD O2 E2
              go_wp2_with (at_builtin; refine wpList_app2 rfl (.tmp 56) (.tmp 57) rfl rfl rfl O3.out.want Y3.out Z3.out E3.out.size ?_)
              intro D' d' cap3 w4 hO hgr hD
              have O4 := Lib.hid (O3.out.grow hO hgr hD)
              have E4 := Lib.hid (E3.out.grown hgr O3.out.want.row)
              clear hO hgr hD O3 E3
              go_wp2
              go_roundw
              case rel =>
                have ht := texts_take T i (by have := HM.out; omega)
                rw [HTI.out, textL] at ht
                have O5 := O4.out
                simp only [List.append_assoc] at O5
                refine ⟨i + 1, B1', D', n1', d1', d', cap3, by omega, rfl, by go_num, by rw [ht]; exact O5, E4.out, fun j hj => ?_⟩
                by_cases hji : j = i
                · subst hji; rw [HTI.out]; exact HS3.out
                · exact S.out j (by omega)
              case measure => simp [intOf]; omega
          · have hlt' : ¬ (i : Int) < (M : Int) := by omega
            obtain rfl : M = i := by omega
            have hfull : T.take M = T := by rw [List.take_of_length_le (by have := HM.out; omega)]
            rw [hfull] at O
            have HLO := Lib.hid (show (numsL L ++ textsL T).length ≤ 9900 by
                have h1 := nums_len L N HL.out.1
                rw [List.take_of_length_le (by have := HN.out; omega)] at h1
                have h2 := texts_len T M S.out (by have := HM.out; omega) HL.out.2
                rw [hfull] at h2
                simp only [List.length_append]; omega)
            clear hfull hi
            go_wp2_with fail
            refine (outBytes_any w.heap.size w.heap.size B1 n1 d1 (numsL L ++ textsL T) _ O.out.out (by have := HLO.out; omega)).mono ?_
            rintro e w1 ⟨A, n, cap, rfl, hO1, hE1⟩
            have E1 := Lib.hid (E.out.trans hE1)
            have P := Lib.hid (hO1.mono E.out.size)
            have hcv1 := conv_bytes hO1.bytes
            have hcv2 := conv_bytes (O.out.ext hE1).want.bytes
            have hn := hO1.bytes.len
            have HNN := Lib.hid hn
            clear O E hO1 hE1 hn
            go_wp2_with fail
            refine (newIn_any (.slice A n cap) (numsL L ++ textsL T) _ P.out.bytes (by have := HLO.out; omega)).mono ?_
            rintro e w2 ⟨gi, A3, n3, c3, rfl, hgi, hI3, hA3, hE2⟩
            have P2 := Lib.hid (P.out.ext hE2)
            have GI := Lib.hid hgi
            have I3 := Lib.hid hI3
            have A3H := Lib.hid hA3
            have E2 := Lib.hid (E1.out.trans hE2)
            have P1 := P
            have E1W := Lib.hid E1.out.size
            clear hI3 hA3 hE2 P E1 hcv1 hcv2 hgi
            have G := Lib.hid (show ∀ g, A = some ⟨g, 0, none⟩ → g ≠ gi ∧ ∀ a, A3 = some a → g ≠ a.block by
              intro g hg
              have h1 := (P1.out.2.1.lt g (by rw [hg]; rfl)).2
              refine ⟨by have := GI.out; omega, fun a ha => ?_⟩
              have := A3H.out a ha
              omega)
            clear P1
            go_wp2_with fail
            go_loopw [70] (fun t70 wr => ∃ (i : Nat), i ≤ n ∧ t70 = .int .i64 (i : Int) ∧ InAt wr gi A3 n3 c3 (numsL L ++ textsL T) false ∧ (0 < n → ∃ g, A = some ⟨g, 0, none⟩ ∧ Row w.heap.size wr g n) ∧ Ext w wr) (fun t70 _ => n - (intOf t70).toNat)
            case atStart => exact ⟨0, by omega, rfl, I3.out, P2.out.toRow, E2.out⟩
            case round =>
              clear I3 P2 E2
              obtain ⟨i, hi, rfl, hI, hR, hE⟩ := hrel
              have I3 := Lib.hid hI
              have E := Lib.hid hE
              by_cases hlt : i < n
              · have hlt' : (i : Int) < (n : Int) := by omega
                obtain ⟨g, hgA, hR2⟩ := hR (by omega)
                subst hgA
                have R := Lib.hid hR2
                obtain ⟨q1, x, q2, q3⟩ := hR2.2.2 i hlt
                have hx : (x : Int) ≤ 255 := by omega
                clear hI hR hR2 hE q2
                have hnb : n ≤ 9900 := by have := HNN.out; have := HLO.out; omega
                go_wp2
                refine ⟨⟨i + 1, by omega, by go_num, ?_, fun _ => ⟨g, rfl, R.out.set i _ (by omega) (by omega)⟩, ?_⟩, by simp [intOf]; omega⟩
                · exact I3.out.keep Keep.setCell (fun e => (G.out g rfl).1 e.symm) (fun a ha e => (G.out g rfl).2 a ha e.symm)
                · exact Keep.toExt (S := fun k => k = g) E.out Keep.setCell (fun k hk => by rw [hk]; exact R.out.1)
              · have hlt' : ¬ (i : Int) < (n : Int) := by omega
                clear hI hR hE
                have GW := Lib.hid (show w.heap.size ≤ gi by have := GI.out; have := E1W.out; omega)
                have I4 := I3
                clear G GI A3H
                go_wp2_with fail
                go_loopw [82] (fun t82 wr => ∃ (i : Nat) (Ai : Option Addr) (ni ci : Nat), i ≤ N ∧ t82 = .int .i64 (i : Int) ∧ InAt wr gi Ai ni ci (numsL (L.drop i) ++ textsL T) false ∧ Ext w wr) (fun t82 _ => N - (intOf t82).toNat)
                case atStart => exact ⟨0, A3, n3, c3, by omega, rfl, I4.out, E.out⟩
                case round =>
                  clear I3 I4 E
                  obtain ⟨i, Ai, ni, ci, hi, rfl, hI, hE⟩ := hrel
                  have I3 := Lib.hid hI
                  have E := Lib.hid hE
                  clear hI hE
                  by_cases hlt : i < N
                  · have hlt' : (i : Int) < (N : Int) := by omega
                    obtain ⟨b, off, z, rfl, hcell', hz, hzi⟩ := (I.out.ext E.out).at hlt
                    have hz1 := hz.1
                    have hz2 := hz.2
                    have hdec : dec 0 0 (numsL (L.drop i) ++ textsL T) = some (zig z, numsL (L.drop (i + 1)) ++ textsL T) := by
                      rw [nums_drop L i (by have := HN.out; omega), hzi, List.append_assoc]
                      exact dec_intL z _ hz1 hz2
                    have HD := Lib.hid hdec
                    clear hzi hz hdec
                    have hcell := hcell'
                    clear hcell'
                    go_wp2_with fail
                    refine (inInt_any gi Ai ni ci _ _ I3.out).mono ?_
                    rintro e w4 hp
                    rw [HD.out] at hp
                    obtain ⟨rfl, A4, n4, c4, hI4, hK4, _⟩ := hp
                    rw [unzig_zig]
                    have I5 := Lib.hid hI4
                    have E5 := Lib.hid (hK4.toExt E.out (fun k hk => by rw [hk]; exact GW.out))
                    clear hI4 hK4 hcell I3 E
                    go_wp2
                    go_roundw
                    case rel => exact ⟨i + 1, A4, n4, c4, by omega, by go_num, I5.out, E5.out⟩
                    case measure => simp [intOf]; omega
                  · have hlt' : ¬ (i : Int) < (N : Int) := by omega
                    obtain rfl : N = i := by omega
                    have hfull : L.drop N = [] := by rw [List.drop_eq_nil_of_le (by have := HN.out; omega)]
                    rw [hfull] at I3
                    clear hfull hi
                    go_wp2_with fail
                    go_loopw [93] (fun t93 wr => ∃ (i : Nat) (Ai : Option Addr) (ni ci : Nat), i ≤ M ∧ t93 = .int .i64 (i : Int) ∧ InAt wr gi Ai ni ci (textsL (T.drop i)) false ∧ Ext w wr) (fun t93 _ => M - (intOf t93).toNat)
                    case atStart => exact ⟨0, Ai, ni, ci, by omega, rfl, I3.out, E.out⟩
                    case round =>
                      clear I3 E
                      obtain ⟨i, Ai, ni, ci, hi, rfl, hI, hE⟩ := hrel
                      have I3 := Lib.hid hI
                      have E := Lib.hid hE
                      clear hI hE
                      by_cases hlt : i < M
                      · have hlt' : (i : Int) < (M : Int) := by omega
                        obtain ⟨b, off, Bt, m, ct, t, rfl, hcell0, hbt, hti⟩ := X.out.at hlt
                        have hcell' := (E.out.cell (World.block_lt_of_cell? _ _ hcell0)).trans hcell0
                        have hm : m = t.length := hbt.len
                        subst hm
                        have HD := Lib.hid (show t.length ≤ 9223372036854775807 ∧ textsL (T.drop i) = textL t ++ textsL (T.drop (i + 1)) by
                          refine ⟨?_, by rw [texts_drop T i (by have := HM.out; omega), hti]⟩
                          have := S.out i (by omega)
                          rw [hti] at this; omega)
                        have BW := Lib.hid (fun (wx : World) (h : Ext w wx) => hbt.ext h)
                        clear hti hbt hcell0
                        have hcell := hcell'
                        clear hcell'
                        have CT := Lib.hid (fun (wx : World) (hx : Ext wr wx) => inText_read gi Ai ni ci w t (textsL (T.drop (i + 1))) wx (E.out.trans hx) GW.out HD.out.1 ((HD.out.2 ▸ I3.out).keep (Keep.ofExt hx (fun _ => False)) (fun h => h) (fun _ _ h => h)))
                        have HC : ∀ wx, Ext w wx → (convert 22 9 (.slice Bt t.length ct)).run Tryd.prog wx = .ok (.string (strOf t)) wx := fun wx hx => conv_bytes (BW.out wx hx)
                        have hE0 := E.out
                        clear I3
                        go_upto_region 37 with fail
                        go_cut [102] (fun s102 wx => s102 = .bool false ∧ Ext w wx ∧ ∃ A4 n4 c4, InAt wx gi A4 n4 c4 (textsL (T.drop (i + 1))) false)
                        case first =>
                          have hE1 := hE0.drew'
                          go_region_with (first | (go_at_call 18; refine (CT.out _ (by ((repeat (first | exact Ext.refl _ | apply Ext.alloc | apply Ext.drew' | apply Ext.drewN | apply Ext.ext))))).mono ?_; rintro e w' ⟨v', rfl, hx1, hx2, hx3⟩; have hx4 := hx2 _ (Ext.refl _)))
                          all_goals
                            go_wp2_with fail
                            go_meet
                            exact ⟨rfl, hx1, hx3⟩
                        case rest =>
                          obtain ⟨rfl, hx1, A4, n4, c4, hI4⟩ := hcut
                          have I5 := Lib.hid hI4
                          have E5 := Lib.hid hx1
                          clear hx1 hI4 hE0 HC E
                          go_wp2
                          go_roundw
                          case rel => exact ⟨i + 1, A4, n4, c4, by omega, by go_num, I5.out, E5.out⟩
                          case measure => simp [intOf]; omega
                      · have hlt' : ¬ (i : Int) < (M : Int) := by omega
                        obtain rfl : M = i := by omega
                        have hfull : T.drop M = [] := by rw [List.drop_eq_nil_of_le (by have := HM.out; omega)]
                        rw [hfull] at I3
                        clear hfull hi
                        go_wp2_with fail
                        refine (inDone_any gi Ai ni ci (textsL []) false _ I3.out).mono ?_
                        rintro e w4 ⟨rfl, rfl⟩
                        rw [show (!false && decide (textsL [] = [])) = true from rfl]
                        go_wp2_with fail
                        refine (inBad_any gi Ai ni ci (textsL []) false _ I3.out).mono ?_
                        rintro e w4 ⟨rfl, rfl⟩
                        go_wp2_with fail
                        refine (awake_any _ (TT.out.ext E.out)).mono ?_
                        rintro e w5 ⟨rfl, g5, rfl⟩
                        go_wp2
                        go_ret
                        exact ⟨rfl, E.out.ext g5⟩

end Go.Proofs.YtobnbdoehobigaaDoor
