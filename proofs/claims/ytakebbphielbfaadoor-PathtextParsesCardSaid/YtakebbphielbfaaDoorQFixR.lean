import Derived.Test.YtakebbphielbfaaDoorQFixT
namespace Go.Proofs.YtakebbphielbfaaDoor
open Go.RowKit
set_option linter.unusedVariables false
set_option linter.unusedSimpArgs false

theorem ba_take (l : List UInt8) (n : Nat) : (ba l).extract 0 n = ba (l.take n) := by
  apply ByteArray.ext
  simp [ba]
theorem ba_drop (l : List UInt8) : (ba l).extract 1 (ba l).size = ba (l.drop 1) := by
  apply ByteArray.ext
  rw [ba_size]
  simp [ba, ByteArray.data_extract]
  exact List.take_of_length_le (by simp)
theorem ba_at (l : List UInt8) (i : Nat) (h : i < (ba l).size) : (ba l)[i] = l[i]'(by rw [ba_size] at h; exact h) := rfl

/-- the digits with their zeros: the last byte, and what is left without it -/
theorem strip_law (r j : Nat) (h0 : r ≠ 0) (hr : r < 256) (y : ByteArray) (hy : y = ba (49 :: (fracL r ++ List.replicate j 48))) (h : y.size - 1 < y.size) :
    (j = 0 → (((y[y.size - 1]'h).toNat : Int) == 48) = false) ∧ (∀ k, j = k + 1 → (((y[y.size - 1]'h).toNat : Int) == 48) = true ∧ y.extract 0 (y.size - 1) = ba (49 :: (fracL r ++ List.replicate k 48))) := by
  subst hy
  have hsz := ba_size (49 :: (fracL r ++ List.replicate j 48))
  refine ⟨fun hj => ?_, fun k hj => ?_⟩
  · subst hj
    have hl := (frac_len' ⟨r, hr⟩).2 h0
    simp only [] at hl
    obtain ⟨hl1, hl2⟩ := hl
    rw [ba_at]
    have e1 : (49 :: (fracL r ++ List.replicate 0 48))[(ba (49 :: (fracL r ++ List.replicate 0 48))).size - 1]'(by rw [hsz]; simp) = (fracL r).getLast (by intro e; rw [e] at hl1; simp at hl1) := by
      rw [← Option.some_inj, ← List.getElem?_eq_getElem, hsz, ← List.getLast?_eq_some_getLast, List.getLast?_eq_getElem?]
      rw [List.replicate_zero, List.append_nil, List.length_cons, Nat.add_sub_cancel]
      rw [List.getElem?_cons, if_neg (by omega)]
    rw [e1]
    rw [List.getLast?_eq_some_getLast (by intro e; rw [e] at hl1; simp at hl1)] at hl2
    have hne : (fracL r).getLast (by intro e; rw [e] at hl1; simp at hl1) ≠ 48 := fun e => hl2 (by rw [e])
    rw [Bool.eq_false_iff]
    intro he
    apply hne
    have : ((fracL r).getLast (by intro e; rw [e] at hl1; simp at hl1)).toNat = 48 := by
      have := of_decide_eq_true (show decide _ = true from he)
      omega
    exact UInt8.toNat_inj.1 this
  · subst hj
    refine ⟨?_, ?_⟩
    · rw [ba_at]
      have e1 : (49 :: (fracL r ++ List.replicate (k + 1) 48))[(ba (49 :: (fracL r ++ List.replicate (k + 1) 48))).size - 1]'(by rw [hsz]; simp) = 48 := by
        simp only [hsz, List.length_cons, List.length_append, List.length_replicate, Nat.add_sub_cancel]
        rw [List.getElem_cons]
        split
        · omega
        · rw [List.getElem_append_right (by omega)]
          simp
      rw [e1]; rfl
    · rw [ba_take, hsz]
      congr 1
      rw [List.replicate_succ']
      simp only [List.length_cons, List.length_append, List.length_singleton, List.length_replicate, List.length_nil, ← List.append_assoc]
      rw [show (fracL r).length + k + (0 + 1) + 1 - 1 = ((49 :: (fracL r ++ List.replicate k 48)).length) by simp]
      exact List.take_left (l₁ := 49 :: (fracL r ++ List.replicate k 48)) (l₂ := [48])

def strLen : Value → Nat
  | .string s => s.size
  | _ => 0

set_option maxRecDepth 100000 in
set_option maxHeartbeats 3200000 in
/-- the document's Text of one in room -/
theorem refText_any (a : Int) (w : World) (ha : -2147483648 ≤ a ∧ a ≤ 2147483648) : Calls Tryd.prog 26 #[.int .i64 a] w fun e w' => e = .returned (.string (ba (textL a))) ∧ Ext w w' := by
  obtain ⟨A, hA⟩ : ∃ A, a.natAbs = A := ⟨_, rfl⟩
  obtain ⟨q, hq⟩ : ∃ q, A / 256 = q := ⟨_, rfl⟩
  obtain ⟨r, hr⟩ : ∃ r, A % 256 = r := ⟨_, rfl⟩
  have hr256 : r < 256 := by omega
  have hqb : q ≤ 8388608 := by omega
  have HT : Hid (textL a = (if a < 0 then [45] else []) ++ (Lib.decDigits q ++ (if r = 0 then [] else 46 :: fracL r))) := Lib.hid (by unfold textL; rw [hA, hq, hr])
  obtain ⟨T, hT⟩ : ∃ T, textL a = T := ⟨_, rfl⟩
  rw [hT] at HT ⊢
  have HTL : Hid (T.length ≤ 17) := Lib.hid (by rw [← hT]; exact text_len (by omega))
  have DG := Lib.hid (fun wx => digits_any q wx (by omega))
  have DP := Lib.hid (fun wx => digits_any (100000000 + r * 390625) wx (by omega))
  rw [pad hr256] at DP
  have hql : (ba (Lib.decDigits q)).size ≤ 20 := by
    have := dec_len 6 q (by omega)
    show (List.toArray _).size ≤ 20
    simp
    omega
  have sh : (A : Int).tdiv 256 = (q : Int) := by rw [Int.tdiv_eq_ediv_of_nonneg (by omega)]; omega
  have sm : (A : Int).tmod 256 = (r : Int) := by rw [Int.tmod_eq_emod_of_nonneg (by omega)]; omega
  obtain ⟨R, hR⟩ : ∃ R, r * 390625 = R := ⟨_, rfl⟩
  have hRi : (r : Int) * 390625 = (R : Int) := by omega
  have hRb : R ≤ 99609375 := by omega
  obtain ⟨R2, hR2⟩ : ∃ R2, 100000000 + R = R2 := ⟨_, rfl⟩
  have hR2i : (100000000 : Int) + (R : Int) = (R2 : Int) := by omega
  rw [hR, hR2] at DP
  obtain ⟨z, hz⟩ : ∃ z, 8 - (fracL r).length = z := ⟨_, rfl⟩
  rw [hz] at DP
  have hRr : R = 0 ↔ r = 0 := by omega
  have HRR := Lib.hid hRr
  have HZZ := Lib.hid hz
  clear hT hR hR2 hRr hz
  by_cases hneg : a < 0
  · have hA2 : -a = (A : Int) := by omega
    have HTB := Lib.hid HT.out
    rw [if_pos hneg] at HTB
    clear hq hr hA
    go_enter Tryd.func26, Tryd.ntmps26
    go_wp2_with fail
    refine (DG.out _).mono ?_
    rintro e w2 ⟨rfl, hE⟩
    have E2 := Lib.hid hE
    clear hE
    obtain ⟨D, hD⟩ : ∃ D, ba (Lib.decDigits q) = D := ⟨_, rfl⟩
    have hDs : D.size ≤ 20 := by rw [← hD]; exact hql
    have HD := Lib.hid hD
    rw [hD]
    clear hD
    by_cases hr0 : R = 0
    · have hr0' : ((R : Int) == 0) = true := by simp [hr0]
      have FIN : Hid (({ data := #[45] } : ByteArray) ++ D = ba T) := Lib.hid (by
        rw [HTB.out, ← HD.out, if_pos (HRR.out.1 hr0), List.append_nil]
        exact ba_app [45] _)
      clear hr0
      go_wp2
      go_ret
      exact ⟨by rw [FIN.out]; rfl, E2.out⟩
    · have hr0' : ((R : Int) == 0) = false := by simp; omega
      go_wp2_with fail
      refine (DP.out _).mono ?_
      rintro e w3 ⟨rfl, hE⟩
      have E3 := Lib.hid (E2.out.trans hE)
      clear hE E2
      have HR0 : Hid (r ≠ 0) := Lib.hid (fun e => hr0 (HRR.out.2 e))
      have FLN : Hid ((fracL r).length ≤ 8 ∧ 0 < (fracL r).length) := Lib.hid (by
        have := frac_len' ⟨r, hr256⟩
        exact ⟨this.1, (this.2 HR0.out).1⟩)
      have ZL : Hid (z ≤ 8 ∧ (fracL r).length + z = 8) := Lib.hid (by have := FLN.out; have := HZZ.out; omega)
      obtain ⟨PT, hPT⟩ : ∃ x, ba (49 :: (fracL r ++ List.replicate z 48)) = x := ⟨_, rfl⟩
      have P0 : Hid (∃ j, j ≤ 8 ∧ (fracL r).length + j ≤ 8 ∧ PT = ba (49 :: (fracL r ++ List.replicate j 48))) := Lib.hid ⟨z, ZL.out.1, by have := ZL.out.2; omega, hPT.symm⟩
      have hP1 : PT.size ≤ 9 ∧ 1 < PT.size := by
        rw [← hPT, ba_size]; have := ZL.out.2; have := FLN.out.2; simp; omega
      rw [hPT]
      clear hPT hr0
      go_wp2
      go_loopw [5] (fun t5 wr => ∃ (y : ByteArray), t5 = .string y ∧ y.size ≤ 9 ∧ 1 < y.size ∧ Hid ((∃ j, j ≤ 8 ∧ (fracL r).length + j ≤ 8 ∧ y = ba (49 :: (fracL r ++ List.replicate j 48))) ∧ Ext w3 wr)) (fun t5 _ => strLen t5)
      case atStart => exact ⟨PT, rfl, hP1.1, hP1.2, Lib.hid ⟨P0.out, Ext.refl _⟩⟩
      case round =>
        obtain ⟨y, rfl, hy, hy0, ST⟩ := hrel
        have hyl : y.size - 1 < y.size := by omega
        have hyi : 1 ≤ (y.size : Int) ∧ (y.size : Int) - 1 < (y.size : Int) := by omega
        obtain ⟨bb, hbb⟩ : ∃ bb, (((y[y.size - 1]'hyl).toNat : Int) == 48) = bb := ⟨_, rfl⟩
        have HBB := Lib.hid hbb
        cases bb with
        | true =>
          obtain ⟨x, hx⟩ : ∃ x, y.extract 0 (y.size - 1) = x := ⟨_, rfl⟩
          have NX : Hid (x.size ≤ 9 ∧ 1 < x.size ∧ x.size < y.size ∧ (∃ j, j ≤ 8 ∧ (fracL r).length + j ≤ 8 ∧ x = ba (49 :: (fracL r ++ List.replicate j 48))) ∧ Ext w3 wr) := Lib.hid (by
            obtain ⟨⟨j, hj, hj2, h1⟩, hE⟩ := ST.out
            have L := strip_law r j HR0.out hr256 y h1 hyl
            have hl := FLN.out.2
            cases j with
            | zero => exact absurd (L.1 rfl) (by rw [HBB.out]; simp)
            | succ k =>
              have hx2 := (L.2 k rfl).2
              rw [hx] at hx2
              have s1 := ba_size (49 :: (fracL r ++ List.replicate k 48))
              have s2 := ba_size (49 :: (fracL r ++ List.replicate (k + 1) 48))
              rw [← hx2] at s1
              rw [← h1] at s2
              simp at s1 s2
              exact ⟨by omega, by omega, by omega, ⟨k, by omega, by omega, hx2⟩, hE⟩)
          clear ST HBB
          go_wp2
          go_roundw
          case rel => exact ⟨x, rfl, NX.out.1, NX.out.2.1, Lib.hid NX.out.2.2.2⟩
          case measure => exact NX.out.2.2.1
        | false =>
          have NX : Hid (({ data := #[45] } : ByteArray) ++ D ++ { data := #[46] } ++ y.extract 1 y.size = ba T ∧ Ext w3 wr) := Lib.hid (by
            obtain ⟨⟨j, hj, hj2, h1⟩, hE⟩ := ST.out
            have L := strip_law r j HR0.out hr256 y h1 hyl
            cases j with
            | succ k => exact absurd (L.2 k rfl).1 (by rw [HBB.out]; simp)
            | zero =>
              refine ⟨?_, hE⟩
              rw [HTB.out, if_neg HR0.out, h1, ba_drop, ← HD.out]
              have e1 : ba [45] ++ ba (Lib.decDigits q) ++ ba [46] ++ ba (fracL r) = ba ([45] ++ (Lib.decDigits q ++ 46 :: fracL r)) := by rw [ba_app, ba_app, ba_app]; simp
              refine Eq.trans ?_ e1
              rw [List.drop_one, List.tail_cons, List.replicate_zero, List.append_nil]
              rfl)
          clear ST HBB
          go_wp2
          go_ret
          exact ⟨by rw [NX.out.1]; rfl, E3.out.trans NX.out.2⟩
  · have hA2 : a = (A : Int) := by omega
    have HTB := Lib.hid HT.out
    rw [if_neg hneg] at HTB
    clear hq hr hA
    subst hA2
    go_enter Tryd.func26, Tryd.ntmps26
    go_wp2_with fail
    refine (DG.out _).mono ?_
    rintro e w2 ⟨rfl, hE⟩
    have E2 := Lib.hid hE
    clear hE
    obtain ⟨D, hD⟩ : ∃ D, ba (Lib.decDigits q) = D := ⟨_, rfl⟩
    have hDs : D.size ≤ 20 := by rw [← hD]; exact hql
    have HD := Lib.hid hD
    rw [hD]
    clear hD
    by_cases hr0 : R = 0
    · have hr0' : ((R : Int) == 0) = true := by simp [hr0]
      have FIN : Hid (({ data := #[] } : ByteArray) ++ D = ba T) := Lib.hid (by
        rw [HTB.out, ← HD.out, if_pos (HRR.out.1 hr0), List.append_nil]
        exact ba_app [] _)
      clear hr0
      go_wp2
      go_ret
      exact ⟨by rw [FIN.out]; rfl, E2.out⟩
    · have hr0' : ((R : Int) == 0) = false := by simp; omega
      go_wp2_with fail
      refine (DP.out _).mono ?_
      rintro e w3 ⟨rfl, hE⟩
      have E3 := Lib.hid (E2.out.trans hE)
      clear hE E2
      have HR0 : Hid (r ≠ 0) := Lib.hid (fun e => hr0 (HRR.out.2 e))
      have FLN : Hid ((fracL r).length ≤ 8 ∧ 0 < (fracL r).length) := Lib.hid (by
        have := frac_len' ⟨r, hr256⟩
        exact ⟨this.1, (this.2 HR0.out).1⟩)
      have ZL : Hid (z ≤ 8 ∧ (fracL r).length + z = 8) := Lib.hid (by have := FLN.out; have := HZZ.out; omega)
      obtain ⟨PT, hPT⟩ : ∃ x, ba (49 :: (fracL r ++ List.replicate z 48)) = x := ⟨_, rfl⟩
      have P0 : Hid (∃ j, j ≤ 8 ∧ (fracL r).length + j ≤ 8 ∧ PT = ba (49 :: (fracL r ++ List.replicate j 48))) := Lib.hid ⟨z, ZL.out.1, by have := ZL.out.2; omega, hPT.symm⟩
      have hP1 : PT.size ≤ 9 ∧ 1 < PT.size := by
        rw [← hPT, ba_size]; have := ZL.out.2; have := FLN.out.2; simp; omega
      rw [hPT]
      clear hPT hr0
      go_wp2
      go_loopw [5] (fun t5 wr => ∃ (y : ByteArray), t5 = .string y ∧ y.size ≤ 9 ∧ 1 < y.size ∧ Hid ((∃ j, j ≤ 8 ∧ (fracL r).length + j ≤ 8 ∧ y = ba (49 :: (fracL r ++ List.replicate j 48))) ∧ Ext w3 wr)) (fun t5 _ => strLen t5)
      case atStart => exact ⟨PT, rfl, hP1.1, hP1.2, Lib.hid ⟨P0.out, Ext.refl _⟩⟩
      case round =>
        obtain ⟨y, rfl, hy, hy0, ST⟩ := hrel
        have hyl : y.size - 1 < y.size := by omega
        have hyi : 1 ≤ (y.size : Int) ∧ (y.size : Int) - 1 < (y.size : Int) := by omega
        obtain ⟨bb, hbb⟩ : ∃ bb, (((y[y.size - 1]'hyl).toNat : Int) == 48) = bb := ⟨_, rfl⟩
        have HBB := Lib.hid hbb
        cases bb with
        | true =>
          obtain ⟨x, hx⟩ : ∃ x, y.extract 0 (y.size - 1) = x := ⟨_, rfl⟩
          have NX : Hid (x.size ≤ 9 ∧ 1 < x.size ∧ x.size < y.size ∧ (∃ j, j ≤ 8 ∧ (fracL r).length + j ≤ 8 ∧ x = ba (49 :: (fracL r ++ List.replicate j 48))) ∧ Ext w3 wr) := Lib.hid (by
            obtain ⟨⟨j, hj, hj2, h1⟩, hE⟩ := ST.out
            have L := strip_law r j HR0.out hr256 y h1 hyl
            have hl := FLN.out.2
            cases j with
            | zero => exact absurd (L.1 rfl) (by rw [HBB.out]; simp)
            | succ k =>
              have hx2 := (L.2 k rfl).2
              rw [hx] at hx2
              have s1 := ba_size (49 :: (fracL r ++ List.replicate k 48))
              have s2 := ba_size (49 :: (fracL r ++ List.replicate (k + 1) 48))
              rw [← hx2] at s1
              rw [← h1] at s2
              simp at s1 s2
              exact ⟨by omega, by omega, by omega, ⟨k, by omega, by omega, hx2⟩, hE⟩)
          clear ST HBB
          go_wp2
          go_roundw
          case rel => exact ⟨x, rfl, NX.out.1, NX.out.2.1, Lib.hid NX.out.2.2.2⟩
          case measure => exact NX.out.2.2.1
        | false =>
          have NX : Hid (({ data := #[] } : ByteArray) ++ D ++ { data := #[46] } ++ y.extract 1 y.size = ba T ∧ Ext w3 wr) := Lib.hid (by
            obtain ⟨⟨j, hj, hj2, h1⟩, hE⟩ := ST.out
            have L := strip_law r j HR0.out hr256 y h1 hyl
            cases j with
            | succ k => exact absurd (L.2 k rfl).1 (by rw [HBB.out]; simp)
            | zero =>
              refine ⟨?_, hE⟩
              rw [HTB.out, if_neg HR0.out, h1, ba_drop, ← HD.out]
              have e1 : ba [] ++ ba (Lib.decDigits q) ++ ba [46] ++ ba (fracL r) = ba ([] ++ (Lib.decDigits q ++ 46 :: fracL r)) := by rw [ba_app, ba_app, ba_app]; simp
              refine Eq.trans ?_ e1
              rw [List.drop_one, List.tail_cons, List.replicate_zero, List.append_nil]
              rfl)
          clear ST HBB
          go_wp2
          go_ret
          exact ⟨by rw [NX.out.1]; rfl, E3.out.trans NX.out.2⟩

end Go.Proofs.YtakebbphielbfaaDoor
