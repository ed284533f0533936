import Derived.Test.YtakebbphielbfaaDoorQFx
import Derived.Test.YtakebbphielbfaaDoorQFixTextLaw
import Derived.Test.YtakebbphielbfaaDoorQShelf
import Derived.Lib.AppendIntMem
namespace Go.Proofs.YtakebbphielbfaaDoor
open Go.RowKit
set_option linter.unusedVariables false
set_option linter.unusedSimpArgs false

set_option maxRecDepth 100000 in
set_option maxHeartbeats 3200000 in
theorem digits_any (n : Nat) (w : World) (hn : n ≤ 9223372036854775807) : Calls Tryd.prog 40 #[.int .i64 (n : Int)] w fun e w' => e = .returned (.string (ba (Lib.decDigits n))) ∧ Ext w w' := by
  go_enter Tryd.func40, Tryd.ntmps40
  go_wp2
  go_loopw [0, 3] (fun t0 t3 wr => ∃ (m : Nat) (v : ByteArray), m ≤ 9223372036854775807 ∧ v.size ≤ 100 ∧ t0 = .int .i64 (m : Int) ∧ t3 = .string v ∧ Hid (∃ s, v = ba s ∧ Lib.decDigits n = Lib.decDigits m ++ s ∧ Ext w wr)) (fun t0 _ _ => (intOf t0).toNat)
  case atStart => exact ⟨n, ba [], hn, by decide, rfl, rfl, Lib.hid ⟨[], rfl, by simp, Ext.refl _⟩⟩
  case round =>
    obtain ⟨m, v, hm, hv, rfl, rfl, ST⟩ := hrel
    obtain ⟨d, hd⟩ : ∃ d, m % 10 = d := ⟨_, rfl⟩
    have hd10 : d < 10 := by omega
    have h1 : (m : Int).tmod 10 = (d : Int) := by rw [Int.tmod_eq_emod_of_nonneg (by omega)]; omega
    have h2 : (m : Int).tdiv 10 = ((m / 10 : Nat) : Int) := by rw [Int.tdiv_eq_ediv_of_nonneg (by omega)]; rfl
    obtain ⟨c, hc⟩ : ∃ c, 48 + d = c := ⟨_, rfl⟩
    have h3 : (48 : Int) + (d : Int) = (c : Int) := by omega
    have hc256 : c < 256 := by omega
    obtain ⟨k, hk⟩ : ∃ k, m / 10 = k := ⟨_, rfl⟩
    rw [hk] at h2
    have hkb : k ≤ 9223372036854775807 := by omega
    have CV := conv1 wr wr.heap.size 5 c hc256 rfl
    obtain ⟨u, hu⟩ : ∃ u, ({ data := #[UInt8.ofNat c] } : ByteArray) = u := ⟨_, rfl⟩
    have hus : u.size ≤ 1 := by rw [← hu]; exact Nat.le_refl 1
    rw [hu] at CV
    have NX : Hid ((¬ k = 0 → (u ++ v).size ≤ 100 ∧ ∃ s, u ++ v = ba s ∧ Lib.decDigits n = Lib.decDigits k ++ s) ∧ (k = 0 → u ++ v = ba (Lib.decDigits n)) ∧ (¬ k = 0 → k < m) ∧ Ext w wr) := Lib.hid (by
      obtain ⟨s, hs, he, hE⟩ := ST.out
      have e1 : u ++ v = ba (UInt8.ofNat c :: s) := by rw [← hu, hs]; exact ba_app [UInt8.ofNat c] s
      have hl := dec_len 18 n (by omega)
      refine ⟨fun hk0 => ?_, fun hk0 => ?_, fun hk0 => by omega, hE⟩
      · have e2 : Lib.decDigits m = Lib.decDigits k ++ [UInt8.ofNat c] := by
          rw [Lib.decDigits, dif_neg (by omega), hk, ← hc, ← hd]
        have e3 : Lib.decDigits n = Lib.decDigits k ++ (UInt8.ofNat c :: s) := by rw [he, e2]; simp
        refine ⟨?_, _, e1, e3⟩
        rw [e1]
        have := congrArg List.length e3
        simp at this
        show (List.toArray _).size ≤ 100
        simp
        omega
      · have e2 : Lib.decDigits m = [UInt8.ofNat c] := by
          rw [Lib.decDigits, dif_pos (by omega), ← hc, ← hd, Nat.mod_eq_of_lt (by omega)]
        rw [e1, he, e2]; rfl)
    clear hu hd hc hk ST
    by_cases hk0 : k = 0
    · have hk0' : ((k : Int) == 0) = true := by simp [hk0]
      obtain hF := NX.out.2.1 hk0
      have E9 := Lib.hid NX.out.2.2.2
      have HF := Lib.hid hF
      clear hk0 hF NX
      go_wp2
      go_ret
      exact ⟨by rw [HF.out]; rfl, E9.out.alloc _⟩
    · have hk0' : ((k : Int) == 0) = false := by simp; omega
      obtain ⟨hsz, hS⟩ := NX.out.1 hk0
      have hlt := NX.out.2.2.1 hk0
      obtain ⟨y, hy⟩ : ∃ y, u ++ v = y := ⟨_, rfl⟩
      rw [hy] at hsz hS
      have HS : Hid (∃ s, y = ba s ∧ Lib.decDigits n = Lib.decDigits k ++ s ∧ Ext w (wr.alloc (.cells #[.int .u8 (c : Int)] 5))) := Lib.hid (by
        obtain ⟨s, h1, h2⟩ := hS
        exact ⟨s, h1, h2, NX.out.2.2.2.alloc _⟩)
      clear hS NX hk0
      go_wp2
      go_roundw
      case rel => exact ⟨k, y, by omega, hsz, rfl, rfl, HS⟩
      case measure => simp [intOf]; omega

theorem ext_grow {w w' : World} (h : ∃ k os, w' = Go.Sort.grow (w.drewN k) os) : Ext w w' := by
  obtain ⟨k, os, rfl⟩ := h
  exact ⟨⟨os, w.drawn + k⟩, rfl⟩
theorem itoa_any (q : Nat) (w : World) (hq : q ≤ 8388608) (htab : Lib.TabIs Tryd.prog w "internal/strconv.uint64pow10" .u64 Lib.pow10Tab) : Calls Tryd.prog 32 #[.int .i64 (q : Int)] w fun e w' => e = .returned (.string (ba (Lib.decDigits q))) ∧ Ext w w' := by
  refine (Tryd.strconv_Itoa (q : Int) (by omega) (by omega) w htab).mono ?_
  rintro e w' ⟨rfl, hg⟩
  refine ⟨?_, ext_grow hg⟩
  unfold Lib.itoa ba
  rw [if_neg (by omega), Int.toNat_natCast]

set_option maxRecDepth 100000 in
set_option maxHeartbeats 3200000 in
/-- Text of one in room -/
theorem text_any (a : Int) (w : World) (ha : -2147483648 ≤ a ∧ a ≤ 2147483648) (htab : Lib.TabIs Tryd.prog w "internal/strconv.uint64pow10" .u64 Lib.pow10Tab) : Calls Tryd.prog 23 #[.int .i64 a] w fun e w' => e = .returned (.string (ba (textL a))) ∧ Ext w w' := by
  have IN := Lib.hid (in_yes a w ha)
  obtain ⟨A, hA⟩ : ∃ A, a.natAbs = A := ⟨_, rfl⟩
  obtain ⟨q, hq⟩ : ∃ q, A / 256 = q := ⟨_, rfl⟩
  obtain ⟨r, hr⟩ : ∃ r, A % 256 = r := ⟨_, rfl⟩
  have hr256 : r < 256 := by omega
  have hqb : q ≤ 8388608 := by omega
  have HT : Hid (textL a = (if a < 0 then [45] else []) ++ (Lib.decDigits q ++ (if r = 0 then [] else 46 :: fracL r))) := Lib.hid (by unfold textL; rw [hA, hq, hr])
  obtain ⟨T, hT⟩ : ∃ T, textL a = T := ⟨_, rfl⟩
  rw [hT] at HT ⊢
  have TB := Lib.tabBelow_of_tabIs htab
  have IT : Hid (∀ wx, Ext w wx → Calls Tryd.prog 32 #[.int .i64 (q : Int)] wx fun e w' => e = .returned (.string (ba (Lib.decDigits q))) ∧ Ext wx w') := Lib.hid fun wx he =>
    itoa_any q wx hqb (TB wx (below_of_ext he))
  have hql : (ba (Lib.decDigits q)).size ≤ 20 := by
    have := dec_len 6 q (by omega)
    show (List.toArray _).size ≤ 20
    simp
    omega
  have an : bits .and .i64 (A : Int) 255 = (r : Int) := by rw [i64_and255]; omega
  have sh : (A : Int) / 256 = (q : Int) := by omega
  have HTL : Hid (T.length ≤ 17) := Lib.hid (by rw [← hT]; exact text_len (by omega))
  clear TB htab hT
  by_cases hneg : a < 0
  · have hA2 : -a = (A : Int) := by omega
    have HTB := Lib.hid HT.out
    rw [if_pos hneg] at HTB
    clear hq hr hA
    go_enter Tryd.func23, Tryd.ntmps23
    go_wp2_with fail
    refine IN.out.mono ?_
    rintro e w1 ⟨rfl, hE⟩
    have E1 := Lib.hid hE
    clear hE
    go_wp2_with fail
    refine (IT.out w1 E1.out).mono ?_
    rintro e w2 ⟨rfl, hE⟩
    have E2 := Lib.hid (E1.out.trans hE)
    clear hE E1
    obtain ⟨D, hD⟩ : ∃ D, ba (Lib.decDigits q) = D := ⟨_, rfl⟩
    have hDs : D.size ≤ 20 := by rw [← hD]; exact hql
    have HD := Lib.hid hD
    rw [hD]
    clear hD
    by_cases hr0 : r = 0
    · have hr0' : ¬ (0 : Int) < (r : Int) := by omega
      have FIN : Hid (({ data := #[45] } : ByteArray) ++ D = ba T) := Lib.hid (by
        rw [HTB.out, ← HD.out, if_pos hr0, List.append_nil]
        exact ba_app [45] _)
      have HR0 := Lib.hid hr0
      clear hr0
      go_wp2
      go_loopw [0, 3] (fun t0 t3 wr => ∃ (k : Nat) (vv : ByteArray), k < 256 ∧ vv.size ≤ 60 ∧ t0 = .int .i64 (k : Int) ∧ t3 = .string vv ∧ Hid (∃ s, vv = ba s ∧ T = s ++ fracL k ∧ Ext w wr)) (fun t0 _ _ => (fracL (intOf t0).toNat).length)
      case atStart => exact ⟨r, _, hr256, (by rw [FIN.out]; show (List.toArray _).size ≤ 60; simp; have := HTL.out; omega), rfl, rfl, Lib.hid ⟨T, FIN.out, by rw [HR0.out, frac_zero, List.append_nil], E2.out⟩⟩
      case round =>
        obtain ⟨k, vv, hk, hvs, rfl, rfl, ST⟩ := hrel
        by_cases hk0 : k = 0
        · have hk0' : ¬ (0 : Int) < (k : Int) := by omega
          have FN : Hid (vv = ba T ∧ Ext w wr) := Lib.hid (by
            obtain ⟨s, h1, h2, h3⟩ := ST.out
            rw [hk0, frac_zero, List.append_nil] at h2
            rw [h2]
            exact ⟨h1, h3⟩)
          clear hk0 ST
          go_wp2
          go_ret
          exact ⟨by rw [FN.out.1]; rfl, FN.out.2⟩
        · have hk0' : (0 : Int) < (k : Int) := by omega
          obtain ⟨c, hc⟩ : ∃ c, 48 + k * 10 / 256 = c := ⟨_, rfl⟩
          have hc256 : c < 256 := by omega
          have h3 : (48 : Int) + (k : Int) * 10 / 256 = (c : Int) := by omega
          obtain ⟨k2, hk2⟩ : ∃ k2, k * 10 % 256 = k2 := ⟨_, rfl⟩
          have h4 : bits .and .i64 ((k : Int) * 10) 255 = (k2 : Int) := by rw [i64_and255]; omega
          have CV := conv1 wr wr.heap.size 5 c hc256 rfl
          obtain ⟨u, hu⟩ : ∃ u, ({ data := #[UInt8.ofNat c] } : ByteArray) = u := ⟨_, rfl⟩
          have hus : u.size ≤ 1 := by rw [← hu]; exact Nat.le_refl 1
          rw [hu] at CV
          have NX : Hid ((fracL k2).length < (fracL k).length ∧ (vv ++ u).size ≤ 60 ∧ ∃ s, vv ++ u = ba s ∧ T = s ++ fracL k2 ∧ Ext w (wr.alloc (.cells #[.int .u8 (c : Int)] 5))) := Lib.hid (by
            obtain ⟨s, h1, h2, hE⟩ := ST.out
            have hl := frac_less hk hk0
            rw [hk2] at hl
            have e1 : vv ++ u = ba (s ++ [UInt8.ofNat c]) := by rw [← hu, h1]; exact ba_app s [UInt8.ofNat c]
            have e2 : T = (s ++ [UInt8.ofNat c]) ++ fracL k2 := by rw [h2, frac_step hk hk0, hc, hk2]; simp
            refine ⟨hl, ?_, _, e1, e2, hE.alloc _⟩
            rw [e1]
            have h9 := congrArg List.length e2
            simp at h9
            show (List.toArray _).size ≤ 60
            simp
            have := HTL.out
            omega)
          have hk2b : k2 < 256 := by omega
          clear hu hc hk2 ST hk0
          go_wp2
          go_roundw
          case rel => exact ⟨k2, _, hk2b, NX.out.2.1, rfl, rfl, Lib.hid NX.out.2.2⟩
          case measure => simpa [intOf] using NX.out.1
    · have hr0' : (0 : Int) < (r : Int) := by omega
      have FIN : Hid (({ data := #[45] } : ByteArray) ++ D ++ { data := #[46] } = ba ([45] ++ (Lib.decDigits q ++ [46])) ∧ T = ([45] ++ (Lib.decDigits q ++ [46])) ++ fracL r) := Lib.hid (by
        refine ⟨?_, ?_⟩
        · rw [← HD.out]
          exact (congrArg (· ++ ba [46]) (ba_app [45] _)).trans (by rw [ba_app]; simp)
        · rw [HTB.out, if_neg hr0]; simp)
      clear hr0
      go_wp2
      go_loopw [0, 3] (fun t0 t3 wr => ∃ (k : Nat) (vv : ByteArray), k < 256 ∧ vv.size ≤ 60 ∧ t0 = .int .i64 (k : Int) ∧ t3 = .string vv ∧ Hid (∃ s, vv = ba s ∧ T = s ++ fracL k ∧ Ext w wr)) (fun t0 _ _ => (fracL (intOf t0).toNat).length)
      case atStart => exact ⟨r, _, hr256, (by rw [FIN.out.1]; have h9 := congrArg List.length FIN.out.2; have := HTL.out; show (List.toArray _).size ≤ 60; simp at h9 ⊢; omega), rfl, rfl, Lib.hid ⟨_, FIN.out.1, FIN.out.2, E2.out⟩⟩
      case round =>
        obtain ⟨k, vv, hk, hvs, rfl, rfl, ST⟩ := hrel
        by_cases hk0 : k = 0
        · have hk0' : ¬ (0 : Int) < (k : Int) := by omega
          have FN : Hid (vv = ba T ∧ Ext w wr) := Lib.hid (by
            obtain ⟨s, h1, h2, h3⟩ := ST.out
            rw [hk0, frac_zero, List.append_nil] at h2
            rw [h2]
            exact ⟨h1, h3⟩)
          clear hk0 ST
          go_wp2
          go_ret
          exact ⟨by rw [FN.out.1]; rfl, FN.out.2⟩
        · have hk0' : (0 : Int) < (k : Int) := by omega
          obtain ⟨c, hc⟩ : ∃ c, 48 + k * 10 / 256 = c := ⟨_, rfl⟩
          have hc256 : c < 256 := by omega
          have h3 : (48 : Int) + (k : Int) * 10 / 256 = (c : Int) := by omega
          obtain ⟨k2, hk2⟩ : ∃ k2, k * 10 % 256 = k2 := ⟨_, rfl⟩
          have h4 : bits .and .i64 ((k : Int) * 10) 255 = (k2 : Int) := by rw [i64_and255]; omega
          have CV := conv1 wr wr.heap.size 5 c hc256 rfl
          obtain ⟨u, hu⟩ : ∃ u, ({ data := #[UInt8.ofNat c] } : ByteArray) = u := ⟨_, rfl⟩
          have hus : u.size ≤ 1 := by rw [← hu]; exact Nat.le_refl 1
          rw [hu] at CV
          have NX : Hid ((fracL k2).length < (fracL k).length ∧ (vv ++ u).size ≤ 60 ∧ ∃ s, vv ++ u = ba s ∧ T = s ++ fracL k2 ∧ Ext w (wr.alloc (.cells #[.int .u8 (c : Int)] 5))) := Lib.hid (by
            obtain ⟨s, h1, h2, hE⟩ := ST.out
            have hl := frac_less hk hk0
            rw [hk2] at hl
            have e1 : vv ++ u = ba (s ++ [UInt8.ofNat c]) := by rw [← hu, h1]; exact ba_app s [UInt8.ofNat c]
            have e2 : T = (s ++ [UInt8.ofNat c]) ++ fracL k2 := by rw [h2, frac_step hk hk0, hc, hk2]; simp
            refine ⟨hl, ?_, _, e1, e2, hE.alloc _⟩
            rw [e1]
            have h9 := congrArg List.length e2
            simp at h9
            show (List.toArray _).size ≤ 60
            simp
            have := HTL.out
            omega)
          have hk2b : k2 < 256 := by omega
          clear hu hc hk2 ST hk0
          go_wp2
          go_roundw
          case rel => exact ⟨k2, _, hk2b, NX.out.2.1, rfl, rfl, Lib.hid NX.out.2.2⟩
          case measure => simpa [intOf] using NX.out.1
  · have hA2 : a = (A : Int) := by omega
    have HTB := Lib.hid HT.out
    rw [if_neg hneg] at HTB
    clear hq hr hA
    subst hA2
    go_enter Tryd.func23, Tryd.ntmps23
    go_wp2_with fail
    refine IN.out.mono ?_
    rintro e w1 ⟨rfl, hE⟩
    have E1 := Lib.hid hE
    clear hE
    go_wp2_with fail
    refine (IT.out w1 E1.out).mono ?_
    rintro e w2 ⟨rfl, hE⟩
    have E2 := Lib.hid (E1.out.trans hE)
    clear hE E1
    obtain ⟨D, hD⟩ : ∃ D, ba (Lib.decDigits q) = D := ⟨_, rfl⟩
    have hDs : D.size ≤ 20 := by rw [← hD]; exact hql
    have HD := Lib.hid hD
    rw [hD]
    clear hD
    by_cases hr0 : r = 0
    · have hr0' : ¬ (0 : Int) < (r : Int) := by omega
      have FIN : Hid (({ data := #[] } : ByteArray) ++ D = ba T) := Lib.hid (by
        rw [HTB.out, ← HD.out, if_pos hr0, List.append_nil]
        exact ba_app [] _)
      have HR0 := Lib.hid hr0
      clear hr0
      go_wp2
      go_loopw [0, 3] (fun t0 t3 wr => ∃ (k : Nat) (vv : ByteArray), k < 256 ∧ vv.size ≤ 60 ∧ t0 = .int .i64 (k : Int) ∧ t3 = .string vv ∧ Hid (∃ s, vv = ba s ∧ T = s ++ fracL k ∧ Ext w wr)) (fun t0 _ _ => (fracL (intOf t0).toNat).length)
      case atStart => exact ⟨r, _, hr256, (by rw [FIN.out]; show (List.toArray _).size ≤ 60; simp; have := HTL.out; omega), rfl, rfl, Lib.hid ⟨T, FIN.out, by rw [HR0.out, frac_zero, List.append_nil], E2.out⟩⟩
      case round =>
        obtain ⟨k, vv, hk, hvs, rfl, rfl, ST⟩ := hrel
        by_cases hk0 : k = 0
        · have hk0' : ¬ (0 : Int) < (k : Int) := by omega
          have FN : Hid (vv = ba T ∧ Ext w wr) := Lib.hid (by
            obtain ⟨s, h1, h2, h3⟩ := ST.out
            rw [hk0, frac_zero, List.append_nil] at h2
            rw [h2]
            exact ⟨h1, h3⟩)
          clear hk0 ST
          go_wp2
          go_ret
          exact ⟨by rw [FN.out.1]; rfl, FN.out.2⟩
        · have hk0' : (0 : Int) < (k : Int) := by omega
          obtain ⟨c, hc⟩ : ∃ c, 48 + k * 10 / 256 = c := ⟨_, rfl⟩
          have hc256 : c < 256 := by omega
          have h3 : (48 : Int) + (k : Int) * 10 / 256 = (c : Int) := by omega
          obtain ⟨k2, hk2⟩ : ∃ k2, k * 10 % 256 = k2 := ⟨_, rfl⟩
          have h4 : bits .and .i64 ((k : Int) * 10) 255 = (k2 : Int) := by rw [i64_and255]; omega
          have CV := conv1 wr wr.heap.size 5 c hc256 rfl
          obtain ⟨u, hu⟩ : ∃ u, ({ data := #[UInt8.ofNat c] } : ByteArray) = u := ⟨_, rfl⟩
          have hus : u.size ≤ 1 := by rw [← hu]; exact Nat.le_refl 1
          rw [hu] at CV
          have NX : Hid ((fracL k2).length < (fracL k).length ∧ (vv ++ u).size ≤ 60 ∧ ∃ s, vv ++ u = ba s ∧ T = s ++ fracL k2 ∧ Ext w (wr.alloc (.cells #[.int .u8 (c : Int)] 5))) := Lib.hid (by
            obtain ⟨s, h1, h2, hE⟩ := ST.out
            have hl := frac_less hk hk0
            rw [hk2] at hl
            have e1 : vv ++ u = ba (s ++ [UInt8.ofNat c]) := by rw [← hu, h1]; exact ba_app s [UInt8.ofNat c]
            have e2 : T = (s ++ [UInt8.ofNat c]) ++ fracL k2 := by rw [h2, frac_step hk hk0, hc, hk2]; simp
            refine ⟨hl, ?_, _, e1, e2, hE.alloc _⟩
            rw [e1]
            have h9 := congrArg List.length e2
            simp at h9
            show (List.toArray _).size ≤ 60
            simp
            have := HTL.out
            omega)
          have hk2b : k2 < 256 := by omega
          clear hu hc hk2 ST hk0
          go_wp2
          go_roundw
          case rel => exact ⟨k2, _, hk2b, NX.out.2.1, rfl, rfl, Lib.hid NX.out.2.2⟩
          case measure => simpa [intOf] using NX.out.1
    · have hr0' : (0 : Int) < (r : Int) := by omega
      have FIN : Hid (({ data := #[] } : ByteArray) ++ D ++ { data := #[46] } = ba ([] ++ (Lib.decDigits q ++ [46])) ∧ T = ([] ++ (Lib.decDigits q ++ [46])) ++ fracL r) := Lib.hid (by
        refine ⟨?_, ?_⟩
        · rw [← HD.out]
          exact (congrArg (· ++ ba [46]) (ba_app [] _)).trans (by rw [ba_app]; simp)
        · rw [HTB.out, if_neg hr0]; simp)
      clear hr0
      go_wp2
      go_loopw [0, 3] (fun t0 t3 wr => ∃ (k : Nat) (vv : ByteArray), k < 256 ∧ vv.size ≤ 60 ∧ t0 = .int .i64 (k : Int) ∧ t3 = .string vv ∧ Hid (∃ s, vv = ba s ∧ T = s ++ fracL k ∧ Ext w wr)) (fun t0 _ _ => (fracL (intOf t0).toNat).length)
      case atStart => exact ⟨r, _, hr256, (by rw [FIN.out.1]; have h9 := congrArg List.length FIN.out.2; have := HTL.out; show (List.toArray _).size ≤ 60; simp at h9 ⊢; omega), rfl, rfl, Lib.hid ⟨_, FIN.out.1, FIN.out.2, E2.out⟩⟩
      case round =>
        obtain ⟨k, vv, hk, hvs, rfl, rfl, ST⟩ := hrel
        by_cases hk0 : k = 0
        · have hk0' : ¬ (0 : Int) < (k : Int) := by omega
          have FN : Hid (vv = ba T ∧ Ext w wr) := Lib.hid (by
            obtain ⟨s, h1, h2, h3⟩ := ST.out
            rw [hk0, frac_zero, List.append_nil] at h2
            rw [h2]
            exact ⟨h1, h3⟩)
          clear hk0 ST
          go_wp2
          go_ret
          exact ⟨by rw [FN.out.1]; rfl, FN.out.2⟩
        · have hk0' : (0 : Int) < (k : Int) := by omega
          obtain ⟨c, hc⟩ : ∃ c, 48 + k * 10 / 256 = c := ⟨_, rfl⟩
          have hc256 : c < 256 := by omega
          have h3 : (48 : Int) + (k : Int) * 10 / 256 = (c : Int) := by omega
          obtain ⟨k2, hk2⟩ : ∃ k2, k * 10 % 256 = k2 := ⟨_, rfl⟩
          have h4 : bits .and .i64 ((k : Int) * 10) 255 = (k2 : Int) := by rw [i64_and255]; omega
          have CV := conv1 wr wr.heap.size 5 c hc256 rfl
          obtain ⟨u, hu⟩ : ∃ u, ({ data := #[UInt8.ofNat c] } : ByteArray) = u := ⟨_, rfl⟩
          have hus : u.size ≤ 1 := by rw [← hu]; exact Nat.le_refl 1
          rw [hu] at CV
          have NX : Hid ((fracL k2).length < (fracL k).length ∧ (vv ++ u).size ≤ 60 ∧ ∃ s, vv ++ u = ba s ∧ T = s ++ fracL k2 ∧ Ext w (wr.alloc (.cells #[.int .u8 (c : Int)] 5))) := Lib.hid (by
            obtain ⟨s, h1, h2, hE⟩ := ST.out
            have hl := frac_less hk hk0
            rw [hk2] at hl
            have e1 : vv ++ u = ba (s ++ [UInt8.ofNat c]) := by rw [← hu, h1]; exact ba_app s [UInt8.ofNat c]
            have e2 : T = (s ++ [UInt8.ofNat c]) ++ fracL k2 := by rw [h2, frac_step hk hk0, hc, hk2]; simp
            refine ⟨hl, ?_, _, e1, e2, hE.alloc _⟩
            rw [e1]
            have h9 := congrArg List.length e2
            simp at h9
            show (List.toArray _).size ≤ 60
            simp
            have := HTL.out
            omega)
          have hk2b : k2 < 256 := by omega
          clear hu hc hk2 ST hk0
          go_wp2
          go_roundw
          case rel => exact ⟨k2, _, hk2b, NX.out.2.1, rfl, rfl, Lib.hid NX.out.2.2⟩
          case measure => simpa [intOf] using NX.out.1

end Go.Proofs.YtakebbphielbfaaDoor
