import Derived.Test.YtakebbphielbfaaDoorQFixR
import Derived.Test.YtakebbphielbfaaDoorQFixTextLaw2
namespace Go.Proofs.YtakebbphielbfaaDoor
open Go.RowKit
set_option linter.unusedVariables false
set_option linter.unusedSimpArgs false

/-- what the library's variables hold -/
structure IV (w : World) : Prop where
  tab : Lib.TabIs Tryd.prog w "internal/strconv.uint64pow10" .u64 Lib.pow10Tab
  len : ∃ m : Int, w.cell? ⟨1, 0, none⟩ = some (.int .i64 m)
  e1 : ∃ ev, w.cell? ⟨8, 0, none⟩ = some ev ∧ (ev = .nilIface ∨ ∃ te pe, ev = .iface te pe)
  e2 : ∃ ev, w.cell? ⟨9, 0, none⟩ = some ev ∧ (ev = .nilIface ∨ ∃ te pe, ev = .iface te pe)
  lt : 9 < w.heap.size
  nd : ∀ j, j < 6 → w.cell? ⟨0, j, none⟩ = some (.int .i64 (([0, 1, 1, 2, 3, 0] : List Int).getD j 0))
theorem extCell {w w' : World} (h : Ext w w') {b i : Nat} (hb : b < w.heap.size) : w'.cell? ⟨b, i, none⟩ = w.cell? ⟨b, i, none⟩ := (below_of_ext h).cell (p := ⟨b, i, none⟩) hb
theorem IV.ext {w w' : World} (h : IV w) (he : Ext w w') : IV w' := by
  obtain ⟨m, hm⟩ := h.len
  obtain ⟨ev, h1, h2⟩ := h.e1
  obtain ⟨ev', h3, h4⟩ := h.e2
  have hl := h.lt
  exact ⟨Lib.tabBelow_of_tabIs h.tab w' (below_of_ext he), ⟨m, (extCell he (by omega)).trans hm⟩, ⟨ev, (extCell he (by omega)).trans h1, h2⟩, ⟨ev', (extCell he (by omega)).trans h3, h4⟩, Nat.lt_of_lt_of_le hl he.size, fun j hj => (extCell he (by omega)).trans (h.nd j hj)⟩

set_option maxRecDepth 100000 in
set_option maxHeartbeats 3200000 in
theorem text_no (a : Int) (w : World) (ha : ¬ (-2147483648 ≤ a ∧ a ≤ 2147483648)) : Calls Tryd.prog 23 #[.int .i64 a] w fun e w' => e = .returned (.string (ba [])) ∧ Ext w w' := by
  have IN := Lib.hid (in_no a w ha)
  clear ha
  go_enter Tryd.func23, Tryd.ntmps23
  go_wp2_with fail
  refine IN.out.mono ?_
  rintro e w1 ⟨rfl, hE⟩
  have E1 := Lib.hid hE
  clear hE
  go_wp2
  go_ret
  exact ⟨rfl, E1.out⟩
theorem text_all (a : Int) (w : World) (hI : IV w) : Calls Tryd.prog 23 #[.int .i64 a] w fun e w' => e = .returned (.string (ba (textA a))) ∧ Ext w w' := by
  unfold textA
  split
  · rename_i h; exact text_any a w h hI.tab
  · rename_i h; exact text_no a w h

/-- Atoi: the number and no error, or an error -/
theorem atoi_all (s : ByteArray) (w : World) (hs : s.size ≤ 2000) (hI : IV w) : Calls Tryd.prog 72 #[.string s] w fun e w' => ((∃ v, Lib.atoiAll s.data.toList = .ok v ∧ e = .returned (.tuple #[.int .i64 v, .nilIface])) ∨ ((∀ v, Lib.atoiAll s.data.toList ≠ .ok v) ∧ ∃ x N, e = .returned (.tuple #[.int .i64 x, .iface 136 (.pointer (some ⟨N, 0, none⟩))]))) ∧ Ext w w' := by
  cases h : Lib.atoiAll s.data.toList with
  | ok v =>
    refine (Tryd.strconv_Atoi_ok s (by omega) v h w).mono ?_
    rintro e w' ⟨rfl, hw⟩
    refine ⟨.inl ⟨v, rfl, rfl⟩, ?_⟩
    rcases hw with rfl | ⟨t, rfl⟩
    · exact Ext.refl _
    · exact ext_of_below (Lib.bytesWorld_below w 5 t)
  | range =>
    obtain ⟨ev, h1, h2⟩ := hI.e2
    refine (Tryd.strconv_Atoi_range s (by omega) h ev w h1 h2).mono ?_
    rintro e w' ⟨N, rfl, _, _, hb⟩
    exact ⟨.inr ⟨fun v hv => by simp at hv, _, N, rfl⟩, ext_of_below hb⟩
  | _ =>
    obtain ⟨ev, h1, h2⟩ := hI.e1
    refine (Tryd.strconv_Atoi_syntax s (by omega) (fun v hv => by rw [h] at hv; cases hv) (fun hv => by rw [h] at hv; cases hv) ev w h1 h2).mono ?_
    rintro e w' ⟨N, rfl, _, _, hb⟩
    exact ⟨.inr ⟨fun v hv => by simp at hv, _, N, rfl⟩, ext_of_below hb⟩

set_option maxRecDepth 100000 in
set_option maxHeartbeats 6400000 in
/-- Parse -/
theorem parse_any (s : ByteArray) (w : World) (hs : s.size ≤ 2000) (hI : IV w) : Calls Tryd.prog 55 #[.string s] w fun e w' => e = .returned (.tuple #[.int .i64 (parseR s.data.toList).1, .int .i64 (parseR s.data.toList).2]) ∧ Ext w w' := by
  obtain ⟨m0, hm0⟩ := hI.len
  obtain ⟨body, hbody⟩ : ∃ x, ba (Lib.trimPrefix s.data.toList [45]) = x := ⟨_, rfl⟩
  obtain ⟨below, hbelow⟩ : ∃ x, Lib.hasPrefix s.data.toList [45] = x := ⟨_, rfl⟩
  have CPX : Hid (Calls Tryd.prog 70 #[.string s, .string { data := #[45] }] w fun e w' => e = .returned (.tuple #[.string body, .bool below]) ∧ Ext w w') := Lib.hid (by
    refine (Tryd.strings_CutPrefix s { data := #[45] } w).mono ?_
    rintro e w' ⟨rfl, rfl⟩
    refine ⟨?_, Ext.refl _⟩
    rw [← hbody, ← hbelow]
    rfl)
  have hbl : body.size ≤ 2000 := by
    rw [← hbody, ba_size]
    have : s.data.toList.length = s.size := (Lib.size_eq s).symm
    unfold Lib.trimPrefix
    split
    · simp only [List.length_drop]; omega
    · omega
  have hbd : body.data.toList = Lib.trimPrefix s.data.toList [45] := by rw [← hbody]; rfl
  obtain ⟨whole, hwhole⟩ : ∃ x, ba (Lib.cut (Lib.trimPrefix s.data.toList [45]) [46]).1 = x := ⟨_, rfl⟩
  obtain ⟨part, hpart⟩ : ∃ x, ba (Lib.cut (Lib.trimPrefix s.data.toList [45]) [46]).2.1 = x := ⟨_, rfl⟩
  obtain ⟨found, hfound⟩ : ∃ x, (Lib.cut (Lib.trimPrefix s.data.toList [45]) [46]).2.2 = x := ⟨_, rfl⟩
  have CUT : Hid (∀ wx, Ext w wx → Calls Tryd.prog 71 #[.string body, .string { data := #[46] }] wx fun e w' => e = .returned (.tuple #[.string whole, .string part, .bool found]) ∧ Ext wx w') := Lib.hid fun wx he => by
    refine (Tryd.strings_Cut body { data := #[46] } m0 wx (by omega) ((extCell he (by have := hI.lt; omega)).trans hm0)).mono ?_
    rintro e w' ⟨rfl, n, rfl⟩
    refine ⟨?_, (Ext.refl wx).drewN n⟩
    rw [hbd, ← hwhole, ← hpart, ← hfound]
    rfl
  have hbl2 : (Lib.trimPrefix s.data.toList [45]).length ≤ 2000 := by rw [← hbody, ba_size] at hbl; exact hbl
  have hwl : whole.size ≤ 2000 := by
    rw [← hwhole, ba_size]
    unfold Lib.cut
    split
    · simp only [List.length_take]; omega
    · exact hbl2
  have AT := Lib.hid (fun wx (he : Ext w wx) => atoi_all whole wx hwl (hI.ext he))
  have HI := Lib.hid hI
  obtain ⟨r1, hr1⟩ : ∃ x, (parseR s.data.toList).1 = x := ⟨_, rfl⟩
  obtain ⟨r2, hr2⟩ : ∃ x, (parseR s.data.toList).2 = x := ⟨_, rfl⟩
  have RR := Lib.hid (And.intro hr1 hr2)
  rw [hr1, hr2]
  clear hI hm0 hr1 hr2
  go_enter Tryd.func55, Tryd.ntmps55
  go_wp2_with fail
  refine CPX.out.mono ?_
  rintro e w1 ⟨rfl, hE⟩
  have E1 := Lib.hid hE
  clear hE
  go_wp2_with fail
  refine (CUT.out w1 E1.out).mono ?_
  rintro e w2 ⟨rfl, hE⟩
  have E2 := Lib.hid (E1.out.trans hE)
  clear hE E1
  go_wp2_with fail
  refine (AT.out w2 E2.out).mono ?_
  rintro e w3 ⟨hr, hE⟩
  have E3 := Lib.hid (E2.out.trans hE)
  clear hE E2
  have hwd : whole.data.toList = (Lib.cut (Lib.trimPrefix s.data.toList [45]) [46]).1 := by rw [← hwhole]; rfl
  rw [hwd] at hr
  obtain ⟨pl, hpl⟩ : ∃ x, (Lib.cut (Lib.trimPrefix s.data.toList [45]) [46]).2.1 = x := ⟨_, rfl⟩
  have hps : part.size = pl.length := by rw [← hpart, ba_size, hpl]
  rcases hr with ⟨v, hv, rfl⟩ | ⟨hno, x, N, rfl⟩
  · have PR : Hid (parseR s.data.toList = if v < 0 ∨ 2147483648 < v ∨ 8 < pl.length then (0, 20) else finR s.data.toList (if below = true then -(v * 256 + (lowV pl * 256).tdiv ((10 ^ pl.length : Nat) : Int)) else v * 256 + (lowV pl * 256).tdiv ((10 ^ pl.length : Nat) : Int))) := Lib.hid (by
      unfold parseR; rw [hv, hpl, hbelow])
    have HPD : Hid (part = ba pl) := Lib.hid (by rw [← hpart, hpl])
    have HPS := Lib.hid hps
    obtain ⟨P, hP⟩ : ∃ x, part.size = x := ⟨_, rfl⟩
    have HP := Lib.hid hP
    clear hv hpl hwd hps hbody hbelow hwhole hpart hfound hbd
    by_cases c1 : v < 0
    · obtain ⟨rfl, rfl⟩ : r1 = 0 ∧ r2 = 20 := by rw [← RR.out.1, ← RR.out.2, PR.out, if_pos (.inl c1)]; exact ⟨rfl, rfl⟩
      go_wp2
      go_ret2
      exact ⟨rfl, E3.out⟩
    · by_cases c2 : 2147483648 < v
      · obtain ⟨rfl, rfl⟩ : r1 = 0 ∧ r2 = 20 := by rw [← RR.out.1, ← RR.out.2, PR.out, if_pos (.inr (.inl c2))]; exact ⟨rfl, rfl⟩
        go_wp2
        go_ret2
        exact ⟨rfl, E3.out⟩
      · by_cases c3 : 8 < P
        · obtain ⟨rfl, rfl⟩ : r1 = 0 ∧ r2 = 20 := by rw [← RR.out.1, ← RR.out.2, PR.out, if_pos (.inr (.inr (by rw [← HPS.out, HP.out]; exact c3)))]; exact ⟨rfl, rfl⟩
          have c3' : (8 : Int) < (P : Int) := by omega
          go_wp2
          go_ret2
          exact ⟨rfl, E3.out⟩
        · have c3' : ¬ (8 : Int) < (P : Int) := by omega
          have BW := Lib.run_convert_string_bytes (P := Tryd.prog) w3 9 66 5 part Tryd.underlying9 Tryd.underlying66 Tryd.underlying5
          obtain ⟨w4, hw4⟩ : ∃ w4, Lib.bytesWorld w3 5 part = w4 := ⟨_, rfl⟩
          have E4 := Lib.hid (E3.out.trans (ext_of_below (by rw [← hw4]; exact Lib.bytesWorld_below w3 5 part) : Ext w3 w4))
          have BC : Hid (∀ j, j < P → w4.cell? ⟨w3.heap.size, j, none⟩ = some (.int .u8 ((part.data.toList.getD j 0).toNat : Int))) := Lib.hid fun j hj => by rw [← hw4]; exact Lib.bytesWorld_cell w3 5 part j (by rw [HP.out]; exact hj)
          rw [hw4] at BW
          obtain ⟨g, hg⟩ : ∃ g, w3.heap.size = g := ⟨_, rfl⟩
          obtain ⟨gc, hgc⟩ : ∃ x, grownCap w3 part.size 0 5 = x := ⟨_, rfl⟩
          rw [hg, hgc] at BW
          rw [hg] at BC
          clear hw4 hg hgc
          have hpd : part.data.toList = pl := by rw [HPD.out]; rfl
          rw [hpd] at BC
          have HPL : Hid (pl.length = P) := Lib.hid (by rw [← HPS.out]; exact HP.out)
          clear hpd
          go_wp2
          go_loopw [11, 12, 51] (fun t11 t12 t51 wr => ∃ (i tn : Nat) (lo : Int), i ≤ P ∧ t11 = .int .i64 lo ∧ t12 = .int .i64 (tn : Int) ∧ t51 = .int .i64 (i : Int) ∧ 1 ≤ tn ∧ tn ≤ 100000000 ∧ -(30 * ((tn : Int) - 1)) ≤ lo ∧ lo ≤ 30 * ((tn : Int) - 1) ∧ Hid (lo = lowV (pl.take i) ∧ tn = 10 ^ i ∧ wr = w4)) (fun _ _ t51 _ => P - (intOf t51).toNat)
          case atStart => exact ⟨0, 1, 0, by omega, rfl, rfl, rfl, by omega, by omega, by omega, by omega, Lib.hid ⟨rfl, rfl, rfl⟩⟩
          case round =>
            obtain ⟨i, tn, lo, hi, rfl, rfl, rfl, ht1, ht2, hlo1, hlo2, ST⟩ := hrel
            obtain rfl := ST.out.2.2
            by_cases hlt : i < P
            · have hlt' : (i : Int) < (P : Int) := by omega
              have hcell := BC.out i hlt
              obtain ⟨c, hc⟩ : ∃ c, (pl.getD i 0).toNat = c := ⟨_, rfl⟩
              have hc256 : c < 256 := by rw [← hc]; exact UInt8.toNat_lt _
              rw [hc] at hcell
              have ht7 : tn ≤ 10000000 := by
                rw [ST.out.2.1]
                exact Nat.le_trans (Nat.pow_le_pow_right (by omega) (by omega : i ≤ 7)) (by decide)
              have NX : Hid (lo * 10 + (c : Int) - 48 = lowV (pl.take (i + 1)) ∧ tn * 10 = 10 ^ (i + 1) ∧ wr = wr) := Lib.hid (by
                refine ⟨?_, by rw [ST.out.2.1, Nat.pow_succ], rfl⟩
                have hip : i < pl.length := by rw [HPL.out]; exact hlt
                rw [List.take_add_one, List.getElem?_eq_getElem hip]
                unfold lowV
                rw [List.foldl_append, ST.out.1, ← hc, List.getD_eq_getElem?_getD, List.getElem?_eq_getElem hip]
                rfl)
              clear hc ST
              go_wp2
              go_roundw
              case rel => exact ⟨i + 1, tn * 10, _, by omega, rfl, by go_num, by go_num, by omega, by omega, by omega, by omega, Lib.hid ⟨NX.out.1, NX.out.2.1, trivial⟩⟩
              case measure => simp [intOf]; omega
            · have hlt' : ¬ (i : Int) < (P : Int) := by omega
              have FV : Hid (lo = lowV pl ∧ tn = 10 ^ pl.length) := Lib.hid (by
                have e : i = pl.length := by rw [HPL.out]; omega
                refine ⟨?_, by rw [← e]; exact ST.out.2.1⟩
                rw [ST.out.1, e, List.take_length])
              obtain ⟨Q, hQ⟩ : ∃ x, (lo * 256).tdiv (tn : Int) = x := ⟨_, rfl⟩
              have hQb : -800000000000 ≤ Q ∧ Q ≤ 800000000000 := by
                have := tdiv_bound (lo * 256) (tn : Int) (by omega)
                rw [hQ] at this
                omega
              have PR1 : Hid (parseR s.data.toList = finR s.data.toList (if below = true then -(v * 256 + Q) else v * 256 + Q)) := Lib.hid (by
                rw [PR.out, if_neg (by rw [HPL.out]; omega), ← FV.out.1, ← FV.out.2, hQ])
              clear ST FV BC
              cases below with
              | true =>
                obtain ⟨M, hM⟩ : ∃ M, -(v * 256 + Q) = M := ⟨_, rfl⟩
                have PR2 : Hid (parseR s.data.toList = finR s.data.toList M) := Lib.hid (by rw [PR1.out, if_pos rfl, hM])
                have TX := Lib.hid (fun wx (he : Ext w wx) => text_all M wx (HI.out.ext he))
                obtain ⟨d, hd⟩ : ∃ d, decide (textA M = s.data.toList) = !d := ⟨!decide (textA M = s.data.toList), by rw [Bool.not_not]⟩
                have SE : ((ba (textA M)).toList == s.toList) = !d := by
                  rw [← hd, ByteArray.toList_eq, ByteArray.toList_eq]
                  have : (ba (textA M)).data.toList = textA M := rfl
                  rw [this, Bool.eq_iff_iff]
                  simp
                obtain ⟨d2, hd2⟩ : ∃ d2, decide (s.data.toList = []) = d2 := ⟨_, rfl⟩
                have SE2 : s.toList.isEmpty = d2 := by
                  rw [← hd2, ByteArray.toList_eq, Bool.eq_iff_iff]
                  simp
                have HD := Lib.hid hd
                have HD2 := Lib.hid hd2
                clear hd hd2 PR1
                go_wp2_with fail
                refine (TX.out wr E4.out).mono ?_
                rintro e w5 ⟨rfl, hE⟩
                have E5 := Lib.hid (E4.out.trans hE)
                clear hE TX
                obtain ⟨y, hy⟩ : ∃ y, ba (textA M) = y := ⟨_, rfl⟩
                rw [hy] at SE ⊢
                clear hy
                cases d with
                | true =>
                  have hf : finR s.data.toList M = (0, 20) := by
                    unfold finR; rw [if_neg (fun h => by have := HD.out; simp [h.1] at this)]
                  rw [hf] at PR2
                  obtain ⟨rfl, rfl⟩ : r1 = 0 ∧ r2 = 20 := by rw [← RR.out.1, ← RR.out.2, PR2.out]; exact ⟨rfl, rfl⟩
                  clear hf PR2 HD
                  go_wp2
                  go_ret2
                  exact ⟨rfl, E5.out⟩
                | false =>
                  have hts : textA M = s.data.toList := by have := HD.out; simpa using this
                  cases d2 with
                  | true =>
                    have hf : finR s.data.toList M = (0, 20) := by
                      unfold finR; rw [if_neg (fun h => h.2 (by have := HD2.out; simpa using this))]
                    rw [hf] at PR2
                    obtain ⟨rfl, rfl⟩ : r1 = 0 ∧ r2 = 20 := by rw [← RR.out.1, ← RR.out.2, PR2.out]; exact ⟨rfl, rfl⟩
                    clear hf PR2 HD HD2 hts
                    go_wp2
                    go_ret2
                    exact ⟨rfl, E5.out⟩
                  | false =>
                    have hf : finR s.data.toList M = (M, 0) := by
                      unfold finR; rw [if_pos ⟨hts, by have := HD2.out; simpa using this⟩]
                    rw [hf] at PR2
                    obtain ⟨rfl, rfl⟩ : r1 = M ∧ r2 = 0 := by rw [← RR.out.1, ← RR.out.2, PR2.out]; exact ⟨rfl, rfl⟩
                    clear hf PR2 HD HD2 hts
                    go_wp2
                    go_ret2
                    exact ⟨rfl, E5.out⟩
              | false =>
                obtain ⟨M, hM⟩ : ∃ M, v * 256 + Q = M := ⟨_, rfl⟩
                have PR2 : Hid (parseR s.data.toList = finR s.data.toList M) := Lib.hid (by rw [PR1.out, if_neg (by simp), hM])
                have TX := Lib.hid (fun wx (he : Ext w wx) => text_all M wx (HI.out.ext he))
                obtain ⟨d, hd⟩ : ∃ d, decide (textA M = s.data.toList) = !d := ⟨!decide (textA M = s.data.toList), by rw [Bool.not_not]⟩
                have SE : ((ba (textA M)).toList == s.toList) = !d := by
                  rw [← hd, ByteArray.toList_eq, ByteArray.toList_eq]
                  have : (ba (textA M)).data.toList = textA M := rfl
                  rw [this, Bool.eq_iff_iff]
                  simp
                obtain ⟨d2, hd2⟩ : ∃ d2, decide (s.data.toList = []) = d2 := ⟨_, rfl⟩
                have SE2 : s.toList.isEmpty = d2 := by
                  rw [← hd2, ByteArray.toList_eq, Bool.eq_iff_iff]
                  simp
                have HD := Lib.hid hd
                have HD2 := Lib.hid hd2
                clear hd hd2 PR1
                go_wp2_with fail
                refine (TX.out wr E4.out).mono ?_
                rintro e w5 ⟨rfl, hE⟩
                have E5 := Lib.hid (E4.out.trans hE)
                clear hE TX
                obtain ⟨y, hy⟩ : ∃ y, ba (textA M) = y := ⟨_, rfl⟩
                rw [hy] at SE ⊢
                clear hy
                cases d with
                | true =>
                  have hf : finR s.data.toList M = (0, 20) := by
                    unfold finR; rw [if_neg (fun h => by have := HD.out; simp [h.1] at this)]
                  rw [hf] at PR2
                  obtain ⟨rfl, rfl⟩ : r1 = 0 ∧ r2 = 20 := by rw [← RR.out.1, ← RR.out.2, PR2.out]; exact ⟨rfl, rfl⟩
                  clear hf PR2 HD
                  go_wp2
                  go_ret2
                  exact ⟨rfl, E5.out⟩
                | false =>
                  have hts : textA M = s.data.toList := by have := HD.out; simpa using this
                  cases d2 with
                  | true =>
                    have hf : finR s.data.toList M = (0, 20) := by
                      unfold finR; rw [if_neg (fun h => h.2 (by have := HD2.out; simpa using this))]
                    rw [hf] at PR2
                    obtain ⟨rfl, rfl⟩ : r1 = 0 ∧ r2 = 20 := by rw [← RR.out.1, ← RR.out.2, PR2.out]; exact ⟨rfl, rfl⟩
                    clear hf PR2 HD HD2 hts
                    go_wp2
                    go_ret2
                    exact ⟨rfl, E5.out⟩
                  | false =>
                    have hf : finR s.data.toList M = (M, 0) := by
                      unfold finR; rw [if_pos ⟨hts, by have := HD2.out; simpa using this⟩]
                    rw [hf] at PR2
                    obtain ⟨rfl, rfl⟩ : r1 = M ∧ r2 = 0 := by rw [← RR.out.1, ← RR.out.2, PR2.out]; exact ⟨rfl, rfl⟩
                    clear hf PR2 HD HD2 hts
                    go_wp2
                    go_ret2
                    exact ⟨rfl, E5.out⟩
  · have PR : parseR s.data.toList = (0, 20) := by
      unfold parseR
      split
      · rename_i v hv; exact absurd hv (hno v)
      · rfl
    obtain ⟨rfl, rfl⟩ : r1 = 0 ∧ r2 = 20 := by rw [← RR.out.1, ← RR.out.2, PR]; exact ⟨rfl, rfl⟩
    clear hno PR hwd hpl hps
    go_wp2
    go_ret2
    exact ⟨rfl, E3.out⟩

end Go.Proofs.YtakebbphielbfaaDoor
