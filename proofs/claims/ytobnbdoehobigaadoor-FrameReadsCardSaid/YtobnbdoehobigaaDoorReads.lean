import Derived.Test.YtobnbdoehobigaaDoorRefRead
import Derived.Test.YtobnbdoehobigaaDoorNumWalk
import Derived.Deep.RegionHeld3
namespace Go.Proofs.YtobnbdoehobigaaDoor
open Go.RowKit
set_option linter.unusedVariables false
set_option linter.unusedSimpArgs false

/-- what reads, between the kinds -/
def ReadSt (w0 wr : World) (gi : Nat) (l : List Nat) (a : Nat) (bad : Bool) : Prop :=
  Ext w0 wr ∧ a ≤ l.length ∧ match bad with
    | true => ∃ A n c l', InAt wr gi A n c l' true
    | false => ∃ A n c, InAt wr gi A n c (l.drop a) false

theorem ReadSt.bad {w0 w w' : World} {gi a : Nat} {l : List Nat} {A : Option Addr} (hE : Ext w0 w) (ha : a ≤ l.length) (hg : w0.heap.size ≤ gi) (h : InBad w w' gi A) : ReadSt w0 w' gi l a true := by
  obtain ⟨A', n', c', l', hI, hK, _⟩ := h
  exact ⟨hK.toExt hE (fun k hk => by rw [hk]; exact hg), ha, A', n', c', l', hI⟩

theorem ReadSt.left {w0 w w' : World} {gi a : Nat} {l rest : List Nat} {A : Option Addr} (hE : Ext w0 w) (ha : a ≤ l.length) (hg : w0.heap.size ≤ gi) (hr : rest = l.drop a) (h : InLeft w w' gi A rest) : ReadSt w0 w' gi l a false := by
  obtain ⟨A', n', c', hI, hK, _⟩ := h
  subst hr
  exact ⟨hK.toExt hE (fun k hk => by rw [hk]; exact hg), ha, A', n', c', hI⟩

theorem ReadSt.ext {w0 w w' : World} {gi a : Nat} {l : List Nat} {bad : Bool} (h : ReadSt w0 w gi l a bad) (he : Ext w w') : ReadSt w0 w' gi l a bad := by
  obtain ⟨h1, h2, h3⟩ := h
  refine ⟨h1.trans he, h2, ?_⟩
  cases bad with
  | true => obtain ⟨A, n, c, l', hI⟩ := h3; exact ⟨A, n, c, l', hI.keep (Keep.ofExt he (fun _ => False)) (fun h => h) (fun _ _ h => h)⟩
  | false => obtain ⟨A, n, c, hI⟩ := h3; exact ⟨A, n, c, hI.keep (Keep.ofExt he (fun _ => False)) (fun h => h) (fun _ _ h => h)⟩

theorem ReadSt.isBad {w0 w : World} {gi a : Nat} {l : List Nat} {bad : Bool} (h : ReadSt w0 w gi l a bad) :
    Calls Tryd.prog 20 #[.pointer (some ⟨gi, 0, none⟩)] w fun e w' => e = .returned (.bool bad) ∧ w' = w := by
  obtain ⟨h1, h2, h3⟩ := h
  cases bad with
  | true => obtain ⟨A, n, c, l', hI⟩ := h3; exact inBad_any gi A n c l' true w hI
  | false => obtain ⟨A, n, c, hI⟩ := h3; exact inBad_any gi A n c _ false w hI

theorem InBad.bad' {w0 w w' : World} {gi a : Nat} {l : List Nat} {A : Option Addr} (h : InBad w w' gi A) (hE : Ext w0 w) (ha : a ≤ l.length) (hg : w0.heap.size ≤ gi) : ReadSt w0 w' gi l a true := ReadSt.bad hE ha hg h

/-- nothing more is read -/
structure Dead (w0 w : World) (gi : Nat) (l : List Nat) (a : Nat) : Prop where
  int : Calls Tryd.prog 17 #[.pointer (some ⟨gi, 0, none⟩)] w fun e w' => e = .returned (.int .i64 0) ∧ ReadSt w0 w' gi l a true
  text : Calls Tryd.prog 18 #[.pointer (some ⟨gi, 0, none⟩)] w fun e w' => e = .returned (.slice none 0 0) ∧ ReadSt w0 w' gi l a true
  count : ∀ most, Calls Tryd.prog 22 #[.pointer (some ⟨gi, 0, none⟩), .int .i64 most] w fun e w' => e = .returned (.int .i64 0) ∧ ReadSt w0 w' gi l a true

theorem ReadSt.dead {w0 w : World} {gi a : Nat} {l : List Nat} (h : ReadSt w0 w gi l a true) (hg : w0.heap.size ≤ gi) : Dead w0 w gi l a := by
  obtain ⟨h1, h2, A, n, c, l', hI⟩ := h
  exact ⟨(inInt_bad gi A n c l' w hI).mono fun e w' ⟨x, y⟩ => ⟨x, y.bad' h1 h2 hg⟩, (inText_bad gi A n c l' w hI).mono fun e w' ⟨x, y⟩ => ⟨x, y.bad' h1 h2 hg⟩, fun most => (inCount_bad gi A n c l' w most hI).mono fun e w' ⟨x, y⟩ => ⟨x, y.bad' h1 h2 hg⟩⟩

theorem ReadSt.none {w0 w : World} {gi a : Nat} {l : List Nat} (h : ReadSt w0 w gi l a false) (hg : w0.heap.size ≤ gi) (hd : dec 0 0 (l.drop a) = none) : Dead w0 w gi l a := by
  obtain ⟨h1, h2, A, n, c, hI⟩ := h
  refine ⟨(inInt_any gi A n c _ w hI).mono fun e w' hp => ?_, (inText_any gi A n c _ w hI).mono fun e w' hp => ?_, fun most => (inCount_any gi A n c _ w most hI).mono fun e w' hp => ?_⟩
  all_goals
    rw [hd] at hp
    exact ⟨hp.1, InBad.bad' hp.2 h1 h2 hg⟩

theorem dec_rest {l : List Nat} {a z : Nat} {rest : List Nat} (hb : ∀ i, l.getD i 0 < 256) (ha : a ≤ l.length) (h : dec 0 0 (l.drop a) = some (z, rest)) :
    ∃ e, e ≤ l.length ∧ a < e ∧ rest = l.drop e ∧ rest.length = l.length - e ∧ l.length - rest.length = e ∧ z < 18446744073709551616 := by
  obtain ⟨_, z1, h1, h2, h3, _, h5⟩ := dec_sound _ 0 0 z rest (fun x hx => by
    obtain ⟨i, hi, rfl⟩ := List.getElem_of_mem hx
    have := hb (a + i)
    rw [← getD_drop, List.getD_eq_getElem?_getD, List.getElem?_eq_getElem hi] at this
    exact this) h
  simp only [Nat.sub_zero, Nat.mul_zero, Nat.pow_zero, Nat.mul_one, Nat.zero_add] at h1 h2 h3 h5
  obtain ⟨q, x, e1, _, _⟩ := uvarF_shape 10 z1 h5 (by omega)
  have hl : (l.drop a).length = (uvarF 10 z1).length + rest.length := by rw [h1, List.length_append]
  have hq : 0 < (uvarF 10 z1).length := by rw [e1]; simp
  simp at hl
  refine ⟨l.length - rest.length, by omega, by omega, ?_, by omega, by omega, by omega⟩
  have : rest = (l.drop a).drop (uvarF 10 z1).length := by
    conv => rhs; rw [h1]
    rw [List.drop_left]
  rw [this, List.drop_drop]
  congr 1
  simp
  omega

set_option maxRecDepth 100000 in
set_option maxHeartbeats 12800000 in
theorem FrameReads_walk (v : Value) (l : List Nat) (v2 : Value) (K : List Nat) (most : Int) (w : World) (hb : Bytes w v l) (hb2 : Bytes w v2 K) (hm1 : -9223372036854775808 ≤ most) (hm2 : most ≤ 9223372036854775807) (hT : Tab w) :
    Calls Tryd.prog 5 #[v, v2, .int .i64 most] w fun e w' => e = .returned (.bool true) ∧ Ext w w' := by
  have TT := Lib.hid hT
  have B := Lib.hid hb
  have B2 := Lib.hid hb2
  clear hT
  obtain ⟨X, c, rfl, c2, c3, c4, c5, c6⟩ := hb
  obtain ⟨X2, c', rfl, d2, d3, d4, d5, d6⟩ := hb2
  have HB := Lib.hid c5
  have HX := Lib.hid c6
  have HX2 := Lib.hid d6
  have HK := Lib.hid d5
  clear c4 c5 c6 d4 d5 d6
  by_cases hlen : 500 < l.length ∨ 60 < K.length
  · by_cases h60 : 500 < l.length
    · have hl : (500 : Int) < (l.length : Int) := by omega
      go_enter Tryd.func5, Tryd.ntmps5
      go_wp2_with fail
      refine (awake_any _ TT.out).mono ?_
      rintro e w' ⟨rfl, g, rfl⟩
      go_wp2
      go_ret
      exact ⟨rfl, ⟨g, rfl⟩⟩
    · have hl : ¬ (500 : Int) < (l.length : Int) := by omega
      have hl2 : (60 : Int) < (K.length : Int) := by omega
      go_enter Tryd.func5, Tryd.ntmps5
      go_wp2_with fail
      refine (awake_any _ TT.out).mono ?_
      rintro e w' ⟨rfl, g, rfl⟩
      go_wp2
      go_ret
      exact ⟨rfl, ⟨g, rfl⟩⟩
  · have hl : ¬ (500 : Int) < (l.length : Int) := by omega
    have hl2 : ¬ (60 : Int) < (K.length : Int) := by omega
    clear hlen
    obtain ⟨N, hN⟩ : ∃ N, l.length = N := ⟨_, rfl⟩
    obtain ⟨M, hM⟩ : ∃ M, K.length = M := ⟨_, rfl⟩
    rw [hN] at hl c2 HX B
    rw [hM] at hl2 d2 HX2 B2
    rw [hN, hM]
    have HN := Lib.hid hN
    have HM := Lib.hid hM
    have HCV := Lib.hid (show N ≤ c ∧ c ≤ 9223372036854775807 ∧ N ≤ 500 from ⟨c2, c3, by omega⟩)
    clear hN hM d2 d3 c2 c3
    go_enter Tryd.func5, Tryd.ntmps5
    go_wp2_with fail
    refine (newIn_any (.slice X N c) l _ B.out (by have := HCV.out; have := HN.out; omega)).mono ?_
    rintro e w1 ⟨gi, A, n, c1, rfl, hgi, hI, _, hE⟩
    have GW := Lib.hid hgi
    have S0 : Hid (ReadSt w w1 gi l 0 false) := ⟨hE, by omega, A, n, c1, by simpa using hI⟩
    clear hgi hI hE
    go_wp2_with fail
    go_loopw [8, 9, 30] (fun t8 t9 t30 wr => ∃ (i a : Nat) (bad : Bool), i ≤ M ∧ t8 = .int .i64 (a : Int) ∧ t9 = .bool bad ∧ t30 = .int .i64 (i : Int) ∧ ReadSt w wr gi l a bad) (fun _ _ t30 _ => M - (intOf t30).toNat)
    case atStart => exact ⟨0, 0, false, by omega, rfl, rfl, rfl, S0.out⟩
    case round =>
      clear S0
      obtain ⟨i, a, bad, hi, rfl, rfl, rfl, hS⟩ := hrel
      have S := Lib.hid hS
      have ha := hS.2.1
      rw [HN.out] at ha
      clear hS
      by_cases hlt : i < M
      · have hlt' : (i : Int) < (M : Int) := by omega
        obtain ⟨b2, off2, rfl, hbs2, hcells2⟩ := HX2.out (by omega)
        have hcell0 := hcells2 i hlt
        obtain ⟨k, hk⟩ : ∃ k, K.getD i 0 = k := ⟨_, rfl⟩
        rw [hk] at hcell0
        have hkb := HK.out i
        rw [hk] at hkb
        have hk255 : (k : Int) ≤ 255 := by omega
        have hcell := (S.out.1.cell hbs2).trans hcell0
        have hN500 := HCV.out.2.2
        clear hk hcells2 hcell0 hbs2 hkb
        go_wp2_with fail
        have hR := refRead_any (.slice X N c) l a wr (B.out.ext S.out.1) (by have := HN.out; omega) (by have := HN.out; omega)
        refine hR.mono ?_
        clear hR
        rintro e w2 ⟨rfl, hE2⟩
        have S2 := Lib.hid (S.out.ext hE2)
        clear hE2 hcell S
        cases bad with
        | true =>
          have D2 := Lib.hid (S2.out.dead GW.out)
          obtain ⟨n0, e0, hne⟩ : ∃ n0 e0 : Int, readV l (dec 0 0 (l.drop a)) = .tuple #[.int .i64 n0, .int .i64 e0] := by
            cases dec 0 0 (l.drop a) with
            | none => exact ⟨_, _, rfl⟩
            | some p => exact ⟨_, _, rfl⟩
          rw [hne]
          clear hne
          by_cases hn0 : (0 : Int) = n0
          · by_cases hk0 : (k : Int) % 3 = 0
            · go_wp2_with fail
              refine D2.out.int.mono ?_
              rintro e w3 ⟨rfl, hS⟩
              have S3 := Lib.hid (hS.dead GW.out)
              clear hS
              go_wp2_with fail
              refine S3.out.int.mono ?_
              rintro e w4 ⟨rfl, hS⟩
              have S9 := Lib.hid hS
              clear hS
              go_wp2_with fail
              refine S9.out.isBad.mono ?_
              rintro e w9 ⟨rfl, rfl⟩
              go_wp2
              go_roundw
              case rel => exact ⟨i + 1, a, true, by omega, rfl, rfl, by go_num, S9.out⟩
              case measure => simp [intOf]; omega
            by_cases hk1 : (k : Int) % 3 = 1
            · go_wp2_with fail
              refine D2.out.text.mono ?_
              rintro e w3 ⟨rfl, hS⟩
              have S9 := Lib.hid hS
              clear hS
              go_wp2_with fail
              refine S9.out.isBad.mono ?_
              rintro e w9 ⟨rfl, rfl⟩
              go_wp2
              go_roundw
              case rel => exact ⟨i + 1, a, true, by omega, rfl, rfl, by go_num, S9.out⟩
              case measure => simp [intOf]; omega
            have hk2 : (k : Int) % 3 = 2 := by omega
            go_wp2_with fail
            refine (D2.out.count most).mono ?_
            rintro e w3 ⟨rfl, hS⟩
            have S9 := Lib.hid hS
            clear hS
            go_wp2_with fail
            refine S9.out.isBad.mono ?_
            rintro e w9 ⟨rfl, rfl⟩
            go_wp2
            go_roundw
            case rel => exact ⟨i + 1, a, true, by omega, rfl, rfl, by go_num, S9.out⟩
            case measure => simp [intOf]; omega
          by_cases hk0 : (k : Int) % 3 = 0
          · go_wp2_with fail
            refine D2.out.int.mono ?_
            rintro e w3 ⟨rfl, hS⟩
            have S3 := Lib.hid (hS.dead GW.out)
            clear hS
            go_wp2_with fail
            refine S3.out.int.mono ?_
            rintro e w4 ⟨rfl, hS⟩
            have S9 := Lib.hid hS
            clear hS
            go_wp2_with fail
            refine S9.out.isBad.mono ?_
            rintro e w9 ⟨rfl, rfl⟩
            go_wp2
            go_roundw
            case rel => exact ⟨i + 1, a, true, by omega, rfl, rfl, by go_num, S9.out⟩
            case measure => simp [intOf]; omega
          by_cases hk1 : (k : Int) % 3 = 1
          · go_wp2_with fail
            refine D2.out.text.mono ?_
            rintro e w3 ⟨rfl, hS⟩
            have S9 := Lib.hid hS
            clear hS
            go_wp2_with fail
            refine S9.out.isBad.mono ?_
            rintro e w9 ⟨rfl, rfl⟩
            go_wp2
            go_roundw
            case rel => exact ⟨i + 1, a, true, by omega, rfl, rfl, by go_num, S9.out⟩
            case measure => simp [intOf]; omega
          have hk2 : (k : Int) % 3 = 2 := by omega
          go_wp2_with fail
          refine (D2.out.count most).mono ?_
          rintro e w3 ⟨rfl, hS⟩
          have S9 := Lib.hid hS
          clear hS
          go_wp2_with fail
          refine S9.out.isBad.mono ?_
          rintro e w9 ⟨rfl, rfl⟩
          go_wp2
          go_roundw
          case rel => exact ⟨i + 1, a, true, by omega, rfl, rfl, by go_num, S9.out⟩
          case measure => simp [intOf]; omega
        | false =>
          obtain ⟨D, hD⟩ : ∃ D, dec 0 0 (l.drop a) = D := ⟨_, rfl⟩
          rw [hD]
          cases D with
          | none =>
            have D2 := Lib.hid (S2.out.none GW.out hD)
            clear hD
            unfold readV
            simp only
            by_cases hk0 : (k : Int) % 3 = 0
            · go_wp2_with fail
              refine D2.out.int.mono ?_
              rintro e w3 ⟨rfl, hS⟩
              have S3 := Lib.hid (hS.dead GW.out)
              clear hS
              go_wp2_with fail
              refine S3.out.int.mono ?_
              rintro e w4 ⟨rfl, hS⟩
              have S9 := Lib.hid hS
              clear hS
              go_wp2_with fail
              refine S9.out.isBad.mono ?_
              rintro e w9 ⟨rfl, rfl⟩
              go_wp2
              go_roundw
              case rel => exact ⟨i + 1, a, true, by omega, rfl, rfl, by go_num, S9.out⟩
              case measure => simp [intOf]; omega
            by_cases hk1 : (k : Int) % 3 = 1
            · go_wp2_with fail
              refine D2.out.text.mono ?_
              rintro e w3 ⟨rfl, hS⟩
              have S9 := Lib.hid hS
              clear hS
              go_wp2_with fail
              refine S9.out.isBad.mono ?_
              rintro e w9 ⟨rfl, rfl⟩
              go_wp2
              go_roundw
              case rel => exact ⟨i + 1, a, true, by omega, rfl, rfl, by go_num, S9.out⟩
              case measure => simp [intOf]; omega
            have hk2 : (k : Int) % 3 = 2 := by omega
            go_wp2_with fail
            refine (D2.out.count most).mono ?_
            rintro e w3 ⟨rfl, hS⟩
            have S9 := Lib.hid hS
            clear hS
            go_wp2_with fail
            refine S9.out.isBad.mono ?_
            rintro e w9 ⟨rfl, rfl⟩
            go_wp2
            go_roundw
            case rel => exact ⟨i + 1, a, true, by omega, rfl, rfl, by go_num, S9.out⟩
            case measure => simp [intOf]; omega
          | some p =>
            obtain ⟨z, rest⟩ := p
            obtain ⟨e', he1, he2, he3, he4, he5, hz⟩ := dec_rest HB.out (by have := HN.out; omega) hD
            have HD := Lib.hid hD
            have HR := Lib.hid (And.intro he3 he4)
            unfold readV
            simp only
            rw [he5]
            obtain ⟨v, hv⟩ : ∃ v, unzig z = v := ⟨_, rfl⟩
            have hvb := unzig_bounds z hz
            rw [hv] at hvb
            rw [hv]
            have HV := Lib.hid hv
            have hv1 := hvb.1
            have hv2 := hvb.2
            rw [HN.out] at he1 he4
            obtain ⟨hE2, _, A, n, c1, hI⟩ := S2.out
            have E2 := Lib.hid hE2
            have I2 := Lib.hid hI
            clear hD he3 he5 hz hv hvb hE2 hI S2
            by_cases hk0 : (k : Int) % 3 = 0
            · go_wp2_with fail
              refine (inInt_any gi A n c1 _ _ I2.out).mono ?_
              rintro e w3 hp
              rw [HD.out] at hp
              obtain ⟨rfl, hp⟩ := hp
              rw [HV.out]
              have S9 := Lib.hid (ReadSt.left (l := l) (a := e') E2.out (by have := HN.out; omega) GW.out HR.out.1 hp)
              clear hp
              go_wp2_with fail
              refine S9.out.isBad.mono ?_
              rintro e w9 ⟨rfl, rfl⟩
              go_wp2
              go_roundw
              case rel => exact ⟨i + 1, e', false, by omega, rfl, rfl, by go_num, S9.out⟩
              case measure => simp [intOf]; omega
            by_cases hk1 : (k : Int) % 3 = 1
            · by_cases hbad : v < 0 ∨ ((N - e' : Nat) : Int) < v
              · have CT := Lib.hid (show Calls Tryd.prog 18 #[.pointer (some ⟨gi, 0, none⟩)] w2 fun e w' => e = .returned (.slice none 0 0) ∧ ReadSt w w' gi l a true from
                  (inText_any gi A n c1 _ _ I2.out).mono fun e w' hp => by
                    rw [HD.out] at hp
                    unfold TextPost at hp
                    simp only at hp
                    rw [HV.out, if_neg (by omega)] at hp
                    exact ⟨hp.1, InBad.bad' hp.2 E2.out (by have := HN.out; omega) GW.out⟩)
                clear I2
                by_cases hv0 : v < 0
                · go_wp2_with fail
                  refine CT.out.mono ?_
                  rintro e w3 ⟨rfl, hS⟩
                  have S9 := Lib.hid hS
                  clear hS
                  go_wp2_with fail
                  refine S9.out.isBad.mono ?_
                  rintro e w9 ⟨rfl, rfl⟩
                  go_wp2
                  go_roundw
                  case rel => exact ⟨i + 1, a, true, by omega, rfl, rfl, by go_num, S9.out⟩
                  case measure => simp [intOf]; omega
                · have hv3 : (N : Int) - (e' : Int) < v := by omega
                  go_wp2_with fail
                  refine CT.out.mono ?_
                  rintro e w3 ⟨rfl, hS⟩
                  have S9 := Lib.hid hS
                  clear hS
                  go_wp2_with fail
                  refine S9.out.isBad.mono ?_
                  rintro e w9 ⟨rfl, rfl⟩
                  go_wp2
                  go_roundw
                  case rel => exact ⟨i + 1, a, true, by omega, rfl, rfl, by go_num, S9.out⟩
                  case measure => simp [intOf]; omega
              · obtain ⟨m, rfl⟩ : ∃ m : Nat, v = m := ⟨v.toNat, by omega⟩
                have hv3 : ¬ (N : Int) - (e' : Int) < (m : Int) := by omega
                have CT := Lib.hid (show Calls Tryd.prog 18 #[.pointer (some ⟨gi, 0, none⟩)] w2 fun e w' => ∃ v', e = .returned v' ∧ ReadSt w w' gi l (e' + m) false ∧ ∀ wy, Ext w' wy → (convert 22 9 v').run Tryd.prog wy = .ok (.string (strOf ((l.drop e').take m))) wy from
                  (inText_any gi A n c1 _ _ I2.out).mono fun e w' hp => by
                    rw [HD.out] at hp
                    unfold TextPost at hp
                    simp only at hp
                    rw [HV.out, if_pos (by omega), Int.toNat_natCast] at hp
                    obtain ⟨v', rfl, hB, hL⟩ := hp
                    have hr := HR.out.1
                    exact ⟨v', rfl, ReadSt.left E2.out (by have := HN.out; omega) GW.out (by rw [hr, List.drop_drop]) hL, fun wy hy => hr ▸ conv_bytes (hB.ext hy)⟩)
                obtain ⟨b, off, rfl, _, _⟩ := HX.out (by have := HN.out; omega)
                by_cases hcz : c = e'
                · obtain rfl : e' = c := hcz.symm
                  have HS : ∀ wy, Ext w wy → (convert 22 9 (.slice (some ⟨b, off, none⟩) m (0))).run Tryd.prog wy = .ok (.string (strOf ((l.drop e').take m))) wy := fun wy hy => by
                    have hb0 := B.out.ext hy
                    have hml : m ≤ (l.drop e').length := by simp; have := HN.out; omega
                    have h := ((hb0.drop e' (by have := HN.out; omega)).2 rfl).take m hml
                    exact conv_bytes (h.cap 0 (by simp; have := HN.out; have := HCV.out; omega) (by omega) (fun h => by cases h))
                  clear I2
                  have hcz1 : e' - e' = 0 := by omega
                  have hm0 : ¬ (m : Int) < 0 := by omega
                  have he0 : ¬ (e' : Int) < 0 := by omega
                  have hs1 : (e' : Int) + (m : Int) ≤ (e' : Int) := by have := HCV.out; omega
                  have hs2 : (e' : Int) ≤ (e' : Int) + (m : Int) := by omega
                  have hs3 : IntKind.i64.wrap ((e' : Int) + (m : Int)) = (e' : Int) + (m : Int) := by have := HCV.out; rw [IntKind.wrap_i64]; omega
                  have hs4 : (((e' : Int) + (m : Int)).toNat - e') = m := by omega
                  have hs5 : (0 : Int) ≤ (e' : Int) + (m : Int) := by omega
                  go_wp2_with fail
                  refine CT.out.mono ?_
                  rintro e w3 ⟨v', rfl, hS, hcv⟩
                  have S3 := Lib.hid hS
                  have hE3 := hS.1.drew'
                  have hE4 := Ext.drew w3
                  clear hS CT
                  generalize strOf ((l.drop e').take m) = TX at *
                  go_upto_region 23 with fail
                  go_cut [14] (fun s14 wx => s14 = .bool true ∧ Ext w3 wx)
                  case first =>
                    go_region_with (fail)
                    all_goals
                      go_wp2_with fail
                      go_meet
                      exact ⟨rfl, hE4⟩
                  case rest =>
                    obtain ⟨rfl, hx⟩ := hcut
                    have S9 := Lib.hid (S3.out.ext hx)
                    clear hx HS hcv hE3 hE4
                    go_wp2_with fail
                    refine S9.out.isBad.mono ?_
                    rintro e w9 ⟨rfl, rfl⟩
                    go_wp2
                    go_roundw
                    case rel => exact ⟨i + 1, (e' + m), false, by omega, rfl, rfl, by go_num, S9.out⟩
                    case measure => simp [intOf]; omega
                · have HS : ∀ wy, Ext w wy → (convert 22 9 (.slice (some ⟨b, off + e', none⟩) m (c - e'))).run Tryd.prog wy = .ok (.string (strOf ((l.drop e').take m))) wy := fun wy hy => by
                    have hb0 := B.out.ext hy
                    have hml : m ≤ (l.drop e').length := by simp; have := HN.out; omega
                    have h := (hb0.drop e' (by have := HN.out; omega)).1.take m hml
                    exact conv_bytes (h.cap (c - e') (by simp; have := HN.out; have := HCV.out; omega) (by have := HCV.out; omega) (fun h => by cases h))
                  clear I2
                  have hcz1 : ¬ c - e' = 0 := by have := HCV.out; omega
                  have hcz2 : e' < c := by have := HCV.out; omega
                  have hm0 : ¬ (m : Int) < 0 := by omega
                  have he0 : ¬ (e' : Int) < 0 := by omega
                  have hs1 : (e' : Int) + (m : Int) ≤ (c : Int) := by have := HCV.out; omega
                  have hs2 : (e' : Int) ≤ (e' : Int) + (m : Int) := by omega
                  have hs3 : IntKind.i64.wrap ((e' : Int) + (m : Int)) = (e' : Int) + (m : Int) := by have := HCV.out; rw [IntKind.wrap_i64]; omega
                  have hs4 : (((e' : Int) + (m : Int)).toNat - e') = m := by omega
                  have hs5 : (0 : Int) ≤ (e' : Int) + (m : Int) := by omega
                  go_wp2_with fail
                  refine CT.out.mono ?_
                  rintro e w3 ⟨v', rfl, hS, hcv⟩
                  have S3 := Lib.hid hS
                  have hE3 := hS.1.drew'
                  have hE4 := Ext.drew w3
                  clear hS CT
                  generalize strOf ((l.drop e').take m) = TX at *
                  go_upto_region 23 with fail
                  go_cut [14] (fun s14 wx => s14 = .bool true ∧ Ext w3 wx)
                  case first =>
                    go_region_with (fail)
                    all_goals
                      go_wp2_with fail
                      go_meet
                      exact ⟨rfl, hE4⟩
                  case rest =>
                    obtain ⟨rfl, hx⟩ := hcut
                    have S9 := Lib.hid (S3.out.ext hx)
                    clear hx HS hcv hE3 hE4
                    go_wp2_with fail
                    refine S9.out.isBad.mono ?_
                    rintro e w9 ⟨rfl, rfl⟩
                    go_wp2
                    go_roundw
                    case rel => exact ⟨i + 1, (e' + m), false, by omega, rfl, rfl, by go_num, S9.out⟩
                    case measure => simp [intOf]; omega
            have hk2 : (k : Int) % 3 = 2 := by omega
            by_cases hbad : v < 0 ∨ most < v
            · have CT := Lib.hid (show Calls Tryd.prog 22 #[.pointer (some ⟨gi, 0, none⟩), .int .i64 most] w2 fun e w' => e = .returned (.int .i64 0) ∧ ReadSt w w' gi l a true from
                (inCount_any gi A n c1 _ _ most I2.out).mono fun e w' hp => by
                  rw [HD.out] at hp
                  unfold CountPost at hp
                  simp only at hp
                  rw [HV.out, if_neg (by omega)] at hp
                  exact ⟨hp.1, InBad.bad' hp.2 E2.out (by have := HN.out; omega) GW.out⟩)
              clear I2
              by_cases hv0 : v < 0
              · go_wp2_with fail
                refine CT.out.mono ?_
                rintro e w3 ⟨rfl, hS⟩
                have S9 := Lib.hid hS
                clear hS
                go_wp2_with fail
                refine S9.out.isBad.mono ?_
                rintro e w9 ⟨rfl, rfl⟩
                go_wp2
                go_roundw
                case rel => exact ⟨i + 1, a, true, by omega, rfl, rfl, by go_num, S9.out⟩
                case measure => simp [intOf]; omega
              · have hv3 : most < v := by omega
                go_wp2_with fail
                refine CT.out.mono ?_
                rintro e w3 ⟨rfl, hS⟩
                have S9 := Lib.hid hS
                clear hS
                go_wp2_with fail
                refine S9.out.isBad.mono ?_
                rintro e w9 ⟨rfl, rfl⟩
                go_wp2
                go_roundw
                case rel => exact ⟨i + 1, a, true, by omega, rfl, rfl, by go_num, S9.out⟩
                case measure => simp [intOf]; omega
            · have hv0 : ¬ v < 0 := by omega
              have hv3 : ¬ most < v := by omega
              have CT := Lib.hid (show Calls Tryd.prog 22 #[.pointer (some ⟨gi, 0, none⟩), .int .i64 most] w2 fun e w' => e = .returned (.int .i64 v) ∧ ReadSt w w' gi l e' false from
                (inCount_any gi A n c1 _ _ most I2.out).mono fun e w' hp => by
                  rw [HD.out] at hp
                  unfold CountPost at hp
                  simp only at hp
                  rw [HV.out, if_pos (by omega)] at hp
                  exact ⟨hp.1, ReadSt.left E2.out (by have := HN.out; omega) GW.out HR.out.1 hp.2⟩)
              clear I2
              go_wp2_with fail
              refine CT.out.mono ?_
              rintro e w3 ⟨rfl, hS⟩
              have S9 := Lib.hid hS
              clear hS
              go_wp2_with fail
              refine S9.out.isBad.mono ?_
              rintro e w9 ⟨rfl, rfl⟩
              go_wp2
              go_roundw
              case rel => exact ⟨i + 1, e', false, by omega, rfl, rfl, by go_num, S9.out⟩
              case measure => simp [intOf]; omega
      · have hlt' : ¬ (i : Int) < (M : Int) := by omega
        cases bad with
        | true =>
          obtain ⟨hE, _, A, n, c1, l', hI⟩ := S.out
          have E := Lib.hid hE
          have II := Lib.hid hI
          clear hE hI S
          go_wp2_with fail
          refine (inDone_any gi A n c1 l' true _ II.out).mono ?_
          rintro e w4 ⟨rfl, rfl⟩
          rw [show (!true && decide (l' = [])) = false from rfl]
          go_wp2_with fail
          refine (awake_any _ (TT.out.ext E.out)).mono ?_
          rintro e w5 ⟨rfl, g5, rfl⟩
          go_wp2
          go_ret
          exact ⟨rfl, E.out.ext g5⟩
        | false =>
          obtain ⟨hE, _, A, n, c1, hI⟩ := S.out
          have E := Lib.hid hE
          have II := Lib.hid hI
          clear hE hI S
          go_wp2_with fail
          refine (inDone_any gi A n c1 _ false _ II.out).mono ?_
          rintro e w4 ⟨rfl, rfl⟩
          rw [show (!false && decide (l.drop a = [])) = decide ((a : Int) = (N : Int)) by
            have := HN.out
            simp only [Bool.not_false, Bool.true_and, List.drop_eq_nil_iff]
            congr 1
            apply propext
            omega]
          by_cases haN : (a : Int) = (N : Int)
          · have hdd : decide ((a : Int) = (N : Int)) = true := by simpa using haN
            rw [hdd]
            clear hdd
            go_wp2_with fail
            refine (awake_any _ (TT.out.ext E.out)).mono ?_
            rintro e w5 ⟨rfl, g5, rfl⟩
            go_wp2
            go_ret
            exact ⟨rfl, E.out.ext g5⟩
          · have hdd : decide ((a : Int) = (N : Int)) = false := by simpa using haN
            rw [hdd]
            clear hdd
            have hbe : ((a : Int) == (N : Int)) = false := by simpa using haN
            go_wp2_with fail
            refine (awake_any _ (TT.out.ext E.out)).mono ?_
            rintro e w5 ⟨rfl, g5, rfl⟩
            go_wp2
            go_ret
            exact ⟨rfl, E.out.ext g5⟩

end Go.Proofs.YtobnbdoehobigaaDoor
