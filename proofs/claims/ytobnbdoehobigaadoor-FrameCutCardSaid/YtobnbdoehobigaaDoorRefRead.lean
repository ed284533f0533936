import Derived.Test.YtobnbdoehobigaaDoorRd
import Derived.Deep.RegionHeld3
namespace Go.Proofs.YtobnbdoehobigaaDoor
open Go.RowKit
set_option linter.unusedVariables false
set_option linter.unusedSimpArgs false

/-- what Read gives -/
def readV (l : List Nat) (o : Option (Nat × List Nat)) : Value :=
  match o with
  | some (z, rest) => .tuple #[.int .i64 (unzig z), .int .i64 ((l.length - rest.length : Nat) : Int)]
  | none => .tuple #[.int .i64 0, .int .i64 (-1)]

theorem strOf_list (a : List Nat) : (strOf a).toList = a.map UInt8.ofNat := by
  rw [ByteArray.toList_eq]; simp [strOf]

theorem str_eq (a b : List Nat) (ha : ∀ i, a.getD i 0 < 256) (hb : ∀ i, b.getD i 0 < 256) : ((strOf a).toList == (strOf b).toList) = decide (a = b) := by
  rw [strOf_list, strOf_list]
  by_cases h : a = b
  · subst h; simp
  · have : ¬ a.map UInt8.ofNat = b.map UInt8.ofNat := by
      intro e
      apply h
      have hl : a.length = b.length := by have := congrArg List.length e; simpa using this
      apply List.ext_getElem hl
      intro i h1 h2
      have e1 := congrArg (fun l => (l.getD i 0).toNat) e
      have p1 := ha i
      have p2 := hb i
      simp only [List.getD_eq_getElem?_getD, List.getElem?_map, List.getElem?_eq_getElem h1, List.getElem?_eq_getElem h2, Option.map_some, Option.getD_some] at e1 p1 p2
      rw [UInt8.toNat_ofNat', UInt8.toNat_ofNat'] at e1
      omega
    simp [h, this]

theorem Bytes.cap {w : World} {A : Option Addr} {N c : Nat} {l : List Nat} (h : Bytes w (.slice A N c) l) (c' : Nat) (h1 : l.length ≤ c') (h2 : c' ≤ 9223372036854775807) : A ≠ none → Bytes w (.slice A N c') l := by
  intro hA
  obtain ⟨A', cap, e, h2', h3, h4, h5, h6⟩ := h
  simp only [Value.slice.injEq] at e
  obtain ⟨rfl, rfl, rfl⟩ := e
  exact ⟨A, c', rfl, h1, h2, fun e => absurd e hA, h5, h6⟩

theorem getD_drop (l : List Nat) (a j : Nat) : (l.drop a).getD j 0 = l.getD (a + j) 0 := by
  rw [List.getD_eq_getElem?_getD, List.getElem?_drop, ← List.getD_eq_getElem?_getD]

set_option maxRecDepth 100000 in
set_option maxHeartbeats 6400000 in
theorem refRead_any (v : Value) (l : List Nat) (at' : Nat) (w : World) (hb : Bytes w v l) (ha : at' ≤ l.length) (hl : l.length ≤ 1000000) :
    Calls Tryd.prog 21 #[v, .int .i64 at'] w fun e w' => e = .returned (readV l (dec 0 0 (l.drop at'))) ∧ Ext w w' := by
  have B := Lib.hid hb
  obtain ⟨X, c, rfl, c2, c3, c4, c5, c6⟩ := hb
  have C6 := Lib.hid c6
  clear c4 c5 c6
  obtain ⟨D, hD⟩ : ∃ D, dec 0 0 (l.drop at') = D := ⟨_, rfl⟩
  rw [hD]
  have HD := Lib.hid hD
  clear hD
  obtain ⟨N, hN⟩ : ∃ N, l.length = N := ⟨_, rfl⟩
  rw [hN] at ha hl c2
  rw [hN]
  have HN := Lib.hid hN
  clear hN
  go_enter Tryd.func21, Tryd.ntmps21
  go_wp2
  go_loopw [6] (fun t6 wr => ∃ (m : Nat), m ≤ 10 ∧ at' + m ≤ N ∧ t6 = .int .i64 ((m : Int) + 1) ∧ wr = w ∧ ∀ j, j < m → 128 ≤ (l.drop at').getD j 0) (fun t6 _ => 12 - (intOf t6).toNat)
  case atStart => exact ⟨0, by omega, by omega, rfl, rfl, fun j hj => by omega⟩
  case round =>
    obtain ⟨m, hm, ham, rfl, rfl, hj⟩ := hrel
    have J := Lib.hid hj
    clear hj
    by_cases hm10 : m < 10
    · by_cases hend : at' + m < N
      · have hend' : (at' : Int) + ((m : Int) + 1) ≤ (N : Int) := by omega
        obtain ⟨b, off, rfl, hbs, hcells⟩ := C6.out (by have := HN.out; omega)
        have hcell := hcells (at' + m) (by have := HN.out; omega)
        have hb5 : ∀ i, l.getD i 0 < 256 := by
          obtain ⟨_, _, _, _, _, _, h, _⟩ := B.out
          exact h
        have hx := hb5 (at' + m)
        obtain ⟨x, hxe⟩ : ∃ x, l.getD (at' + m) 0 = x := ⟨_, rfl⟩
        rw [hxe] at hcell hx
        have HX := Lib.hid hxe
        have HX2 := Lib.hid hx
        have hx255 : (x : Int) ≤ 255 := by omega
        have hbb := hb5
        clear hxe hbs hx hb5
        by_cases hx8 : 128 ≤ x
        · have hx8' : (128 : Int) ≤ (x : Int) := by omega
          clear hcells hbb
          go_wp2
          refine ⟨⟨m + 1, by omega, by omega, by go_num, trivial, fun j hj => ?_⟩, by simp [intOf]; omega⟩
          by_cases hjm : j = m
          · subst hjm
            rw [getD_drop, HX.out]; exact hx8
          · exact J.out j (by omega)
        · have hx8' : ¬ (128 : Int) ≤ (x : Int) := by omega
          have hx8 : x < 128 := by omega
          obtain ⟨p, hp⟩ : ∃ p, (l.drop at').take (m + 1) = p := ⟨_, rfl⟩
          have HP := Lib.hid hp
          have hpl : p.length = m + 1 := by rw [← hp]; simp; have := HN.out; omega
          have hpi : ∀ i, i < m + 1 → p.getD i 0 = l.getD (at' + i) 0 := fun i hi => by
            rw [← hp, List.getD_eq_getElem?_getD, List.getElem?_take, if_pos hi, List.getElem?_drop, ← List.getD_eq_getElem?_getD]
          have HPI := Lib.hid (And.intro hpl hpi)
          have hcell0 : ∀ i, i < N → wr.cell? ⟨b, off + i, none⟩ = some (.int .u8 ((l.getD i 0 : Nat) : Int)) := fun i hi => hcells i (by have := HN.out; omega)
          have HC := Lib.hid hcell0
          have HB := Lib.hid hbb
          clear hp hpl hpi hcell0 hcells hbb
          go_wp2
          go_loopw [7, 8] (fun t7 t8 wy => ∃ (i zc : Nat), i ≤ m + 1 ∧ t8 = .int .i64 ((i : Int) - 1) ∧ t7 = .int .u64 (zc : Int) ∧ zc = val (p.drop i) % 18446744073709551616 ∧ wy = wr) (fun _ t8 _ => (intOf t8 + 1).toNat)
          case atStart => exact ⟨m + 1, 0, by omega, by go_num, rfl, by rw [List.drop_eq_nil_of_le (by have := HPI.out.1; omega)]; rfl, rfl⟩
          case round =>
            obtain ⟨i, zc, hi, rfl, rfl, hz, rfl⟩ := hrel
            have HZ := Lib.hid hz
            have hz64 : zc < 18446744073709551616 := by omega
            clear hz
            by_cases hi0 : i = 0
            · subst hi0
              rw [List.drop_zero] at HZ
              obtain ⟨v, hv⟩ : ∃ v, unzig zc = v := ⟨_, rfl⟩
              have HV := Lib.hid hv
              have HVB := Lib.hid (hv ▸ unzig_bounds zc hz64)
              have hatc : at' < c := by omega
              have hcz : ¬ (c - at' = 0) := by omega
              have hs1 : (at' : Int) + ((m : Int) + 1) ≤ (c : Int) := by omega
              have hs2 : (at' : Int) ≤ (at' : Int) + ((m : Int) + 1) := by omega
              have hs3 : IntKind.i64.wrap ((at' : Int) + ((m : Int) + 1)) = (at' : Int) + ((m : Int) + 1) := by rw [IntKind.wrap_i64]; omega
              have hs4 : (((at' : Int) + ((m : Int) + 1)).toNat - at') = m + 1 := by omega
              have HCV : ∀ wx, Ext wr wx → (convert 22 9 (.slice (some ⟨b, off + at', none⟩) (m + 1) (c - at'))).run Tryd.prog wx = .ok (.string (strOf p)) wx := fun wx hx => by
                have h := (B.out.drop at' (by have := HN.out; omega)).1.take (m + 1) (by simp; have := HN.out; omega)
                rw [HP.out] at h
                exact conv_bytes ((h.cap (c - at') (by have := HPI.out.1; omega) (by omega) (fun h => by cases h)).ext hx)
              have PB := Lib.hid (show ∀ i, p.getD i 0 < 256 by
                intro i
                by_cases hi : i < m + 1
                · rw [HPI.out.2 i hi]; exact HB.out _
                · rw [List.getD_eq_getElem?_getD, List.getElem?_eq_none (by have := HPI.out.1; omega)]; decide)
              have HDQ := Lib.hid (show D = if intL (unzig (val p % 18446744073709551616)) = p then some (val p % 18446744073709551616, l.drop (at' + (m + 1))) else none by
                have hsplit : l.drop at' = (l.drop at').take m ++ x :: l.drop (at' + (m + 1)) := by
                  conv => lhs; rw [← List.take_append_drop m (l.drop at')]
                  rw [List.drop_drop, drop_getD l (at' + m) 0 (by have := HN.out; omega), HX.out]; rfl
                have hp2 : p = (l.drop at').take m ++ [x] := by
                  rw [← HP.out, take_succ_getD (l.drop at') m 0 (by simp; have := HN.out; omega), getD_drop, HX.out]
                rw [← HD.out, hsplit, dec_first (fun y hy => ?_) hx8 (fun y hy => ?_), hp2]
                · rw [← hsplit] at hy
                  obtain ⟨i, hi, rfl⟩ := List.getElem_of_mem hy
                  have := HB.out (at' + i)
                  rw [← getD_drop, List.getD_eq_getElem?_getD, List.getElem?_eq_getElem hi] at this
                  exact this
                · obtain ⟨i, hi, rfl⟩ := List.getElem_of_mem hy
                  simp at hi
                  have := J.out i (by omega)
                  rw [List.getD_eq_getElem?_getD, List.getElem?_eq_getElem (by simp; omega)] at this
                  simpa using this)
              rcases Nat.mod_two_eq_zero_or_one zc with hpar0 | hpar0
              · have hpar : (zc : Int) % 2 = 0 := by omega
                have hv' : (zc : Int) / 2 = v := by rw [← hv]; unfold unzig; rw [if_pos hpar0]; omega
                clear hv hpar0
                go_upto_region 13 with fail
                go_cut [66] (fun s66 wx => s66 = .bool ((strOf (intL v)).toList == (strOf p).toList) ∧ Ext wr wx)
                case first =>
                  have hE1 := Ext.drew wr
                  go_region_with (first | (go_at_call 13; refine (refInt_any v _ HVB.out.1 HVB.out.2).mono ?_; rintro e w' ⟨A, n, cap, rfl, hO, hE⟩; have hx1 : Ext wr w' := (Ext.drew wr).trans hE; have hx4 := conv_bytes hO.bytes))
                  all_goals
                    go_wp2_with fail
                    go_meet
                    exact ⟨rfl, hx1⟩
                case rest =>
                  obtain ⟨rfl, hE⟩ := hcut
                  have E := Lib.hid hE
                  rw [str_eq (intL v) p (uvarF_lt 10 _) PB.out]
                  have hdq := HDQ.out
                  rw [← HZ.out, HV.out] at hdq
                  clear HCV hE
                  by_cases hq : intL v = p
                  · rw [if_pos hq] at hdq
                    have hdec : decide (intL v = p) = true := by simpa using hq
                    rw [hdec]
                    clear hdec hq
                    go_wp2
                    rw [hdq]
                    refine bodyPost_ret (v := .tuple #[.int .i64 v, .int .i64 ((at' : Int) + ((m : Int) + 1))]) (by simp [results, Tryd.results21, go_sem]) rfl ⟨?_, E.out⟩
                    show Ending.returned _ = Ending.returned (.tuple #[.int .i64 (unzig zc), .int .i64 ((l.length - (l.drop (at' + (m + 1))).length : Nat) : Int)])
                    rw [HV.out, List.length_drop, HN.out]
                    rw [show ((N - (N - (at' + (m + 1))) : Nat) : Int) = (at' : Int) + ((m : Int) + 1) by omega]
                  · rw [if_neg hq] at hdq
                    have hdec : decide (intL v = p) = false := by simpa using hq
                    rw [hdec]
                    clear hdec hq
                    go_wp2
                    rw [hdq]
                    exact bodyPost_ret (v := .tuple #[.int .i64 0, .int .i64 (-1)]) (by simp [results, Tryd.results21, go_sem]) rfl ⟨rfl, E.out⟩
              · have hpar : (zc : Int) % 2 = 1 := by omega
                have hv' : -((zc : Int) / 2) - 1 = v := by rw [← hv]; unfold unzig; rw [if_neg (by omega)]; omega
                clear hv hpar0
                go_upto_region 13 with fail
                go_cut [66] (fun s66 wx => s66 = .bool ((strOf (intL v)).toList == (strOf p).toList) ∧ Ext wr wx)
                case first =>
                  have hE1 := Ext.drew wr
                  go_region_with (first | (go_at_call 13; refine (refInt_any v _ HVB.out.1 HVB.out.2).mono ?_; rintro e w' ⟨A, n, cap, rfl, hO, hE⟩; have hx1 : Ext wr w' := (Ext.drew wr).trans hE; have hx4 := conv_bytes hO.bytes))
                  all_goals
                    go_wp2_with fail
                    go_meet
                    exact ⟨rfl, hx1⟩
                case rest =>
                  obtain ⟨rfl, hE⟩ := hcut
                  have E := Lib.hid hE
                  rw [str_eq (intL v) p (uvarF_lt 10 _) PB.out]
                  have hdq := HDQ.out
                  rw [← HZ.out, HV.out] at hdq
                  clear HCV hE
                  by_cases hq : intL v = p
                  · rw [if_pos hq] at hdq
                    have hdec : decide (intL v = p) = true := by simpa using hq
                    rw [hdec]
                    clear hdec hq
                    go_wp2
                    rw [hdq]
                    refine bodyPost_ret (v := .tuple #[.int .i64 v, .int .i64 ((at' : Int) + ((m : Int) + 1))]) (by simp [results, Tryd.results21, go_sem]) rfl ⟨?_, E.out⟩
                    show Ending.returned _ = Ending.returned (.tuple #[.int .i64 (unzig zc), .int .i64 ((l.length - (l.drop (at' + (m + 1))).length : Nat) : Int)])
                    rw [HV.out, List.length_drop, HN.out]
                    rw [show ((N - (N - (at' + (m + 1))) : Nat) : Int) = (at' : Int) + ((m : Int) + 1) by omega]
                  · rw [if_neg hq] at hdq
                    have hdec : decide (intL v = p) = false := by simpa using hq
                    rw [hdec]
                    clear hdec hq
                    go_wp2
                    rw [hdq]
                    exact bodyPost_ret (v := .tuple #[.int .i64 0, .int .i64 (-1)]) (by simp [results, Tryd.results21, go_sem]) rfl ⟨rfl, E.out⟩
            · obtain ⟨j, rfl⟩ : ∃ j, i = j + 1 := ⟨i - 1, by omega⟩
              rw [show (((j + 1 : Nat) : Int) - 1) = (j : Int) by omega]
              have hcj := HC.out (at' + j) (by omega)
              have hyb := HB.out (at' + j)
              obtain ⟨y, hy⟩ : ∃ y, l.getD (at' + j) 0 = y := ⟨_, rfl⟩
              rw [hy] at hcj hyb
              have HY := Lib.hid hy
              have hy255 : (y : Int) ≤ 255 := by omega
              have hcell := hcj
              clear hcj hy
              go_wp2
              refine ⟨⟨j, val (p.drop j) % 18446744073709551616, by omega, rfl, ?_, rfl, trivial⟩, by simp [intOf]⟩
              have hdj : val (p.drop j) = y % 128 + 128 * val (p.drop (j + 1)) := by
                rw [drop_getD p j 0 (by have := HPI.out.1; omega), HPI.out.2 j (by omega), HY.out]; rfl
              rw [hdj]
              have := HZ.out
              generalize val (p.drop (j + 1)) = V at *
              simp only [IntKind.wrap_u64, Value.int.injEq, true_and]
              omega
      · have hend' : ¬ (at' : Int) + ((m : Int) + 1) ≤ (N : Int) := by omega
        go_wp2
        have hd : D = none := by
          rw [← HD.out]
          refine dec_long (fun y hy => ?_) (fun j hj hjl => J.out j ?_)
          · obtain ⟨i, hi, rfl⟩ := List.getElem_of_mem hy
            obtain ⟨_, _, _, _, _, _, h, _⟩ := B.out
            have := h (at' + i)
            rw [← getD_drop, List.getD_eq_getElem?_getD, List.getElem?_eq_getElem hi] at this
            exact this
          · have := HN.out; simp at hjl; omega
        subst hd
        exact bodyPost_ret (v := .tuple #[.int .i64 0, .int .i64 (-1)]) (by simp [results, Tryd.results21, go_sem]) rfl ⟨rfl, Ext.refl _⟩
    · obtain rfl : m = 10 := by omega
      go_wp2
      have hd : D = none := by
        rw [← HD.out]
        refine dec_long (fun y hy => ?_) (fun j hj hjl => J.out j hj)
        obtain ⟨i, hi, rfl⟩ := List.getElem_of_mem hy
        obtain ⟨_, _, _, _, _, _, h, _⟩ := B.out
        have := h (at' + i)
        rw [← getD_drop, List.getD_eq_getElem?_getD, List.getElem?_eq_getElem hi] at this
        exact this
      subst hd
      exact bodyPost_ret (v := .tuple #[.int .i64 0, .int .i64 (-1)]) (by simp [results, Tryd.results21, go_sem]) rfl ⟨rfl, Ext.refl _⟩

end Go.Proofs.YtobnbdoehobigaaDoor
