import Derived.Test.YtobnbdoehobigaaDoorCutLaw
import Derived.Test.YtobnbdoehobigaaDoorNumWalk
namespace Go.Proofs.YtobnbdoehobigaaDoor
open Go.RowKit Go.Shelf
set_option linter.unusedVariables false
set_option linter.unusedSimpArgs false

theorem info3 : (Tryd.prog.info? 3).map (fun i => (i.zero, i.size, i.bytes)) = some (some (.int .i64 0), 1, 8) := by kernel_rfl

theorem wpList_end {B : Nat} {w : World} {v : Value} {n : Nat} {xs : List Value} {x : Int} {ops : Array Oper} {rest : List Oper} {o : Oper} {a : Act} {Q : Exit → Act → World → Prop} (hgd : o.guard = none) (s y : Operand)
    (ho : o.op = .call { callee := .builtin .append, args := #[s, y], argTypes := #[28, 28] }) (g : Nat) (hs : a.eval s = v) (hy : a.eval y = .slice (some ⟨g, 0, none⟩) 1 1)
    (h : w.ownsRow B 3 1 v n xs) (hc : w.cell? ⟨g, 0, none⟩ = some (.int .i64 x)) (hlen : n ≤ 1000000) (hB : B ≤ w.heap.size)
    (hK : ∀ A c w', w'.ownsRow B 3 1 (.slice A (n + 1) c) (n + 1) (xs ++ [.int .i64 x]) → w.grownBy w' v.ownBlock → (Value.ownBlock (.slice A (n + 1) c) = v.ownBlock ∨ Value.ownBlock (.slice A (n + 1) c) = some w.heap.size) → wpList Tryd.prog ops Q rest (a.put o.dst (.slice A (n + 1) c)) w') : wpList Tryd.prog ops Q (o :: rest) a w := by
  refine wpList_plain hgd fun K hK' => ?_
  obtain ⟨i0, hi, hz0, hz1, hz2⟩ := info_parts info3
  obtain ⟨v', w', hr, h2, h3, _, h5⟩ := run_append_own_at (P := Tryd.prog) (w := w) B 28 o.type 3 i0 _ 1 8 Tryd.underlying28 hi hz0 hz1 hz2 rfl (by decide) v n xs h ⟨g, 0, none⟩ 1 1 [.int .i64 x] rfl
    (fun j u hj => by
      rw [show (⟨g, 0, none⟩ : Addr).add j = ⟨g, j, none⟩ by simp [Addr.add]; intro h; exact h.symm]
      match j, hj with
      | 0, hj => simp at hj; subst hj; exact hc) (fun u hu => by simp at hu; subst hu; rfl) (by unfold maxLen; omega) (by omega) hB
  obtain ⟨A, c, rfl⟩ := own_slice h2
  unfold Oper.wp execOp
  simp only [ho, resolve, invoke, builtin, Sem.run_bind, Sem.run_pure, Result.andThen_ok, List.map_toArray, List.map_cons, List.map_nil, hs, hy, hr]
  exact hK' _ _ (hK A c w' h2 h3 h5)

/-- the ends of the first k frames -/
def endsL (T : List (List Nat)) (k : Nat) : List Value := (List.range k).map fun j => .int .i64 ((lenF (T.take (j + 1)) : Nat) : Int)
theorem endsL_succ (T : List (List Nat)) (k : Nat) : endsL T (k + 1) = endsL T k ++ [.int .i64 ((lenF (T.take (k + 1)) : Nat) : Int)] := by simp [endsL, List.range_succ]

/-- between two records -/
def CSt (w wr : World) (T : List (List Nat)) (k : Nat) (A : Option Addr) (n c : Nat) (A2 : Option Addr) (c2 : Nat) : Prop :=
  Ext w wr ∧ Own w.heap.size wr A n c (frs 0 (T.take k)) ∧ wr.ownsRow w.heap.size 3 1 (.slice A2 k c2) k (endsL T k) ∧ (∀ g, Value.ownBlock (.slice A n c) = some g → Value.ownBlock (.slice A2 k c2) ≠ some g) ∧ (∀ j, j < k → (T.getD j []).length ≤ 200)

theorem row_ext {B e size : Nat} {w w' : World} {v : Value} {n : Nat} {xs : List Value} (h : w.ownsRow B e size v n xs) (he : Ext w w') : w'.ownsRow B e size v n xs :=
  h.kept (row := none) ⟨(below_of_ext he).1, (below_of_ext he).2, (below_of_ext he).3, he.size, fun k hk _ => (below_of_ext he).5 k hk⟩ (by cases hv : Value.ownBlock _ <;> simp)

theorem own_some {B e size : Nat} {W : World} {A : Option Addr} {n cap : Nat} {xs : List Value} (h : W.ownsRow B e size (.slice A n cap) n xs) (hn : 0 < n) : ∃ g, A = some ⟨g, 0, none⟩ := by
  rcases h.2 with ⟨_, h0⟩ | ⟨g, c, cur, e, _⟩
  · omega
  · simp only [Value.slice.injEq] at e
    exact ⟨g, e.1⟩

theorem lenF_le (T : List (List Nat)) (h : ∀ j, j < T.length → (T.getD j []).length ≤ 200) : lenF T ≤ 217 * T.length := by
  induction T with
  | nil => simp [lenF]
  | cons d T ih =>
    have h0 := h 0 (by simp)
    have h1 := ih (fun j hj => by have := h (j + 1) (by simp; omega); simpa using this)
    simp only [lenF, List.map_cons, List.sum_cons, List.length_cons] at *
    simp at h0
    omega

set_option maxRecDepth 100000 in
set_option maxHeartbeats 12800000 in
theorem FrameCut_walk (v : Value) (T : List (List Nat)) (cut : Int) (w : World) (hb : Texts w v T) (h1 : -9223372036854775808 ≤ cut) (h2 : cut ≤ 9223372036854775807) (hT : Tab w) :
    Calls Tryd.prog 8 #[v, .int .i64 cut] w fun e w' => e = .returned (.bool true) ∧ Ext w w' := by
  have X := Lib.hid hb
  have TT := Lib.hid hT
  clear hT
  obtain ⟨A1, c1, rfl, _, c3, _⟩ := hb
  obtain ⟨M, hM⟩ : ∃ M, T.length = M := ⟨_, rfl⟩
  rw [hM] at X
  rw [hM]
  have HM := Lib.hid hM
  clear hM
  by_cases hlen : 30 < M
  · have hl : (30 : Int) < (M : Int) := by omega
    go_enter Tryd.func8, Tryd.ntmps8
    go_wp2_with fail
    refine (awake_any _ TT.out).mono ?_
    rintro e w' ⟨rfl, g, rfl⟩
    go_wp2
    go_ret
    exact ⟨rfl, g, rfl⟩
  · have hl : ¬ (30 : Int) < (M : Int) := by omega
    have H0 : Hid (CSt w w T 0 none 0 0 none 0) := Lib.hid ⟨Ext.refl w, Own.nil _ _, World.ownsRow_nil w _ 3 1, by simp [Value.ownBlock], fun j hj => by omega⟩
    go_enter Tryd.func8, Tryd.ntmps8
    go_wp2
    go_loopw [5, 6, 23] (fun t5 t6 t23 wr => ∃ (k : Nat) (A : Option Addr) (n c : Nat) (A2 : Option Addr) (c2 : Nat), k ≤ M ∧ t5 = .slice A n c ∧ t6 = .slice A2 k c2 ∧ t23 = .int .i64 (k : Int) ∧ Hid (CSt w wr T k A n c A2 c2)) (fun _ _ t23 _ => M - (intOf t23).toNat)
    case atStart => exact ⟨0, none, 0, 0, none, 0, by omega, rfl, rfl, rfl, H0⟩
    case round =>
      clear H0
      obtain ⟨k, A, n, c, A2, c2, hk, rfl, rfl, rfl, ST⟩ := hrel
      by_cases hlt : k < M
      · have hlt' : (k : Int) < (M : Int) := by omega
        obtain ⟨b, off, Bt, m, ct, t, rfl, hcell0, hbt, hti⟩ := X.out.at hlt
        have hcell := (ST.out.1.cell (World.block_lt_of_cell? _ _ hcell0)).trans hcell0
        have hm : m = t.length := hbt.len
        subst hm
        have HT := Lib.hid hti
        have BT := Lib.hid hbt
        have HBB := Lib.hid (fun i => by have h := hbt; obtain ⟨_, _, _, _, _, _, hb, _⟩ := h; exact hb i : ∀ i, t.getD i 0 < 256)
        clear hcell0 hbt hti
        by_cases h200 : 200 < t.length
        · have h200' : (200 : Int) < (t.length : Int) := by omega
          go_wp2_with fail
          refine (awake_any _ (TT.out.ext ST.out.1)).mono ?_
          rintro e w' ⟨rfl, g, rfl⟩
          go_wp2
          go_ret
          exact ⟨rfl, ST.out.1.ext g⟩
        · have h200' : ¬ (200 : Int) < (t.length : Int) := by omega
          have hk7 : IntKind.i64.wrap (7 + (k : Int)) = ((7 + k : Nat) : Int) := by rw [IntKind.wrap_i64]; omega
          go_wp2_with fail
          refine (frame_any (7 + k) k (.slice Bt t.length ct) t _ (TT.out.ext (ST.out.1)) (BT.out.ext (ST.out.1)) (by omega) (by omega) (by omega)).mono ?_
          rintro e w3 ⟨A9, n9, c9, rfl, hO, hE⟩
          have hn9 := hO.1
          rw [frame_len] at hn9
          subst hn9
          have O3 := Lib.hid (ST.out.2.1.ext hE)
          have E3 := Lib.hid (ST.out.1.trans hE)
          have R3 := Lib.hid (row_ext ST.out.2.2.1 hE)
          have Y3 := Lib.hid hO.bytes
          have hfl := frs_len (T.take k) 0
          have Z3 : Hid ((frs 0 (T.take k)).length + (frameL (7 + k) k t).length ≤ 70368744177664) := Lib.hid (by
            rw [frs_len, frame_len]
            have := lenF_le (T.take k) (fun j hj => by
              rw [List.length_take] at hj
              have h := ST.out.2.2.2.2 j (by omega)
              rwa [List.getD_eq_getElem?_getD, List.getElem?_take, if_pos (by omega), ← List.getD_eq_getElem?_getD])
            rw [List.length_take] at this
            omega)
          clear hO hE hfl
          go_wp2_with (at_builtin; refine wpList_app2 rfl (.tmp 41) (.tmp 42) rfl rfl rfl O3.out Y3.out Z3.out E3.out.size ?_)
          intro A4 n4 c4 w4 hO4 hgr4 hA4
          have HS := Lib.hid (show T.take (k + 1) = T.take k ++ [t] by rw [take_succ_getD T k [] (by have := HM.out; omega), HT.out])
          have hO5 : Own w.heap.size w4 A4 n4 c4 (frs 0 (T.take (k + 1))) := by
            have e := frs_snoc (T.take k) t 0
            rw [Nat.zero_add, List.length_take, Nat.min_eq_left (by have := HM.out; omega)] at e
            rw [HS.out, e]
            exact hO4
          have hn4 := hO5.1
          rw [frs_len] at hn4
          subst hn4
          have E4 := Lib.hid (E3.out.grown hgr4 O3.out.row)
          have hdis := ST.out.2.2.2.1
          have R4 : Hid (w4.ownsRow w.heap.size 3 1 (.slice A2 k c2) k (endsL T k)) := Lib.hid (R3.out.kept hgr4 (by
            cases hv : Value.ownBlock (.slice A2 k c2) with
            | none => exact .inl rfl
            | some g => exact .inr (fun e => hdis g e.symm hv)))
          have HD4 : Hid (∀ g, Value.ownBlock (.slice A4 (lenF (T.take (k + 1))) c4) = some g → Value.ownBlock (.slice A2 k c2) ≠ some g) := Lib.hid (fun g hg hg2 => by
            rcases hA4 with rfl | rfl
            · have hx : Value.ownBlock (.slice A4 n c) = some g := by
                cases A4 with
                | none => simp [Value.ownBlock] at hg
                | some a => simpa [Value.ownBlock] using hg
              exact hdis g hx hg2
            · have h3 := R3.out.lt g hg2
              simp [Value.ownBlock] at hg
              omega)
          have O4 := Lib.hid hO5
          clear hO4 hO5 hgr4 hA4 hdis O3 E3 R3 Y3 Z3
          have X4 : Hid ((w4.alloc (.cells #[.int .i64 ((lenF (T.take (k + 1)) : Nat) : Int)] 3)).cell? ⟨w4.heap.size, 0, none⟩ = some (.int .i64 ((lenF (T.take (k + 1)) : Nat) : Int))) := Lib.hid (by rw [cell_marked _ _ _ _ _ _ rfl]; rfl)
          have R5 : Hid ((w4.alloc (.cells #[.int .i64 ((lenF (T.take (k + 1)) : Nat) : Int)] 3)).ownsRow w.heap.size 3 1 (.slice A2 k c2) k (endsL T k)) := Lib.hid (row_ext R4.out ((Ext.refl _).alloc _))
          have O5 := Lib.hid (O4.out.ext ((Ext.refl w4).alloc (.cells #[.int .i64 ((lenF (T.take (k + 1)) : Nat) : Int)] 3)))
          have E5 := Lib.hid (E4.out.alloc (.cells #[.int .i64 ((lenF (T.take (k + 1)) : Nat) : Int)] 3))
          obtain ⟨Z, hZ⟩ : ∃ Z, lenF (T.take (k + 1)) = Z := ⟨_, rfl⟩
          rw [hZ] at R5 X4 HD4 O4 O5 E5
          rw [hZ]
          have HZ := Lib.hid hZ
          clear hZ R4
          go_wp2_with (at_builtin; refine wpList_end rfl (.tmp 44) (.tmp 47) rfl w4.heap.size rfl rfl R5.out X4.out (by omega) E5.out.size ?_)
          intro A6 c6 w6 hR6 hgr6 hA6
          have NX : Hid (CSt w w6 T (k + 1) A4 Z c4 A6 c6) := Lib.hid (by
            refine ⟨E5.out.grown hgr6 (fun g hg => (R5.out.lt g hg).1), O5.out.keep (Keep.grown hgr6) (fun g hg e => HD4.out g hg e), ?_, ?_, ?_⟩
            · rw [endsL_succ, HZ.out]; exact hR6
            · intro g hg hg2
              rcases hA6 with h | h
              · rw [h] at hg2; exact HD4.out g hg hg2
              · rw [h] at hg2
                have h3 := O4.out.2.1.lt g hg
                simp at hg2
                omega
            · intro j hj
              by_cases hjk : j < k
              · exact ST.out.2.2.2.2 j hjk
              · obtain rfl : j = k := by omega
                rw [HT.out]; omega)
          clear hR6 hgr6 hA6 R5 X4 HD4 O4 O5 E5 E4
          go_wp2
          go_roundw
          case rel => exact ⟨k + 1, A4, Z, c4, A6, c6, by omega, rfl, rfl, by go_num, NX⟩
          case measure => simp [intOf]; omega
      · obtain rfl : M = k := by omega
        have hlt' : ¬ ((M : Nat) : Int) < ((M : Nat) : Int) := by omega
        have hfull : T.take M = T := by rw [List.take_of_length_le (by have := HM.out; omega)]
        have hO := ST.out.2.1
        rw [hfull] at hO
        have hn := hO.1
        rw [frs_len] at hn
        subst hn
        have O := Lib.hid hO
        have E := Lib.hid ST.out.1
        have R := Lib.hid ST.out.2.2.1
        have HTB : Hid (∀ d ∈ T, d.length ≤ 200 ∧ ∀ j, d.getD j 0 < 256) := Lib.hid (fun d hd => by
          obtain ⟨j, hj, rfl⟩ := List.getElem_of_mem hd
          have h := ST.out.2.2.2.2 j (by have := HM.out; omega)
          rw [List.getD_eq_getElem?_getD, List.getElem?_eq_getElem hj] at h
          obtain ⟨b, off, B, m, c, t, _, _, hbt, hti⟩ := X.out.at (i := j) (by have := HM.out; omega)
          rw [List.getD_eq_getElem?_getD, List.getElem?_eq_getElem hj] at hti
          simp at hti h
          subst hti
          obtain ⟨_, _, _, _, _, _, hb, _⟩ := hbt
          exact ⟨h, hb⟩)
        have hlen : lenF T ≤ 6510 := by
          have h := lenF_le T (fun j hj => by
            have := HTB.out (T.getD j []) (by rw [List.getD_eq_getElem?_getD, List.getElem?_eq_getElem hj]; simp)
            exact this.1)
          have := HM.out; omega
        obtain ⟨N, hN⟩ : ∃ N, lenF T = N := ⟨_, rfl⟩
        rw [hN] at O hlen
        rw [hN]
        have HN := Lib.hid hN
        clear hO hN hfull hlt hk
        by_cases hbad : cut < 0 ∨ (N : Int) < cut
        · have fin : ∀ (wx : World), Ext w wx → Calls Tryd.prog 9 #[] wx fun e w' => e = .returned (.bool true) ∧ Ext w w' := fun wx hx => (awake_any wx (TT.out.ext hx)).mono fun e w' ⟨h1, h2⟩ => ⟨h1, hx.trans h2⟩
          have FIN := Lib.hid (fin wr E.out)
          clear fin
          by_cases hneg : cut < 0
          · clear hbad
            go_wp2_with fail
            refine FIN.out.mono ?_
            rintro e w' ⟨rfl, hx⟩
            go_wp2
            go_ret
            exact ⟨rfl, hx⟩
          · have hbig : (N : Int) < cut := by omega
            clear hbad
            go_wp2_with fail
            refine FIN.out.mono ?_
            rintro e w' ⟨rfl, hx⟩
            go_wp2
            go_ret
            exact ⟨rfl, hx⟩
        · obtain ⟨C, rfl⟩ : ∃ C : Nat, cut = C := ⟨cut.toNat, by omega⟩
          have hC1 : ¬ (C : Int) < 0 := by omega
          have hC2 : ¬ (N : Int) < (C : Int) := by omega
          clear hbad
          obtain ⟨wo, rfl⟩ : ∃ wo : World, wo = wr := ⟨_, rfl⟩
          go_wp2
          go_loopw [11, 12] (fun t11 t12 wx => ∃ n : Nat, n ≤ M ∧ t11 = .int .i64 (n : Int) ∧ t12 = .int .i64 ((lenF (T.take n) : Nat) : Int) ∧ lenF (T.take n) ≤ C ∧ Hid (cntF C T = n + cntF (C - lenF (T.take n)) (T.drop n) ∧ endF C T = lenF (T.take n) + endF (C - lenF (T.take n)) (T.drop n)) ∧ wx = wo) (fun t11 _ _ => M - (intOf t11).toNat)
          case atStart => exact ⟨0, by omega, rfl, by simp [lenF], by simp [lenF], Lib.hid (by simp [lenF]), rfl⟩
          case round =>
            obtain ⟨n, hn, rfl, rfl, hnc, HH, rfl⟩ := hrel
            have fin : n < M → lenF (T.take (n + 1)) ≤ C → True := fun _ _ => trivial
            clear fin
            by_cases hgo : n < M ∧ lenF (T.take (n + 1)) ≤ C
            · obtain ⟨hnM, hle⟩ := hgo
              have hnM' : (n : Int) < (M : Int) := by omega
              obtain ⟨g, rfl⟩ := own_some R.out (by omega)
              have hcell : wr.cell? ⟨g, n, none⟩ = some (.int .i64 ((lenF (T.take (n + 1)) : Nat) : Int)) := by
                rw [R.out.cellAt n (by omega)]
                simp [endsL, hnM]
              have hle' : ((lenF (T.take (n + 1)) : Nat) : Int) ≤ (C : Int) := by omega
              have HS := Lib.hid ((cut_step T C n (by have := HM.out; omega) hnc).1 hle)
              obtain ⟨Z, hZ⟩ : ∃ Z, lenF (T.take (n + 1)) = Z := ⟨_, rfl⟩
              rw [hZ] at hcell hle' HS hle
              have HZ := Lib.hid hZ
              clear hZ
              go_wp2
              go_roundw
              case rel => exact ⟨n + 1, by omega, by go_num, by rw [HZ.out], by rw [HZ.out]; exact hle, Lib.hid (by rw [HZ.out]; have h1 := HH.out; have h2 := HS.out; omega), trivial⟩
              case measure => simp [intOf]; omega
            · have HE : Hid (cntF C T = n ∧ endF C T = lenF (T.take n)) := Lib.hid (by
                have h1 := HH.out
                by_cases hnM : n < M
                · have h2 := (cut_step T C n (by have := HM.out; omega) hnc).2 (fun h => hgo ⟨hnM, h⟩)
                  omega
                · have e : T.drop n = [] := by rw [List.drop_eq_nil_of_le (by have := HM.out; omega)]
                  rw [e] at h1
                  simp only [cntF, endF] at h1
                  omega)
              have hCc : (C : Int) ≤ (c : Int) := by
                have hb := O.out.bytes
                obtain ⟨_, _, e, hle, _⟩ := hb
                simp only [Value.slice.injEq] at e
                obtain ⟨_, e1, e2⟩ := e
                omega
              have BC : Hid (Bytes wr (.slice A C C) ((frs 0 T).take C)) := Lib.hid (O.out.bytes.take C (by rw [frs_len]; have := HN.out; omega))
              have BL : Hid (((frs 0 T).take C).length ≤ 1000000) := Lib.hid (by rw [List.length_take, frs_len]; have := HN.out; omega)
              have SC : Hid ((scanF (((frs 0 T).take C).length + 1) ((frs 0 T).take C) 7).1.length = cntF C T ∧ (scanF (((frs 0 T).take C).length + 1) ((frs 0 T).take C) 7).2 = endF C T) := Lib.hid ?sc
              case sc =>
                have h := scan_cut (((frs 0 T).take C).length + 1) T 0 C (by omega) (by have := HM.out; omega) HTB.out
                simpa using h
              by_cases hnM : n < M
              · have hnM' : (n : Int) < (M : Int) := by omega
                obtain ⟨g, rfl⟩ := own_some R.out (by omega)
                have hcell : wr.cell? ⟨g, n, none⟩ = some (.int .i64 ((lenF (T.take (n + 1)) : Nat) : Int)) := by
                  rw [R.out.cellAt n (by omega)]
                  simp [endsL, hnM]
                have hle' : ¬ ((lenF (T.take (n + 1)) : Nat) : Int) ≤ (C : Int) := by intro h; exact hgo ⟨hnM, by omega⟩
                obtain ⟨Z, hZ⟩ : ∃ Z, lenF (T.take (n + 1)) = Z := ⟨_, rfl⟩
                rw [hZ] at hcell hle'
                have HZ := Lib.hid hZ
                clear hZ hgo
                go_wp2_with fail
                refine (scan_any _ ((frs 0 T).take C) 7 _ BC.out (TT.out.ext E.out) BL.out (by omega) (by omega)).mono ?_
                rintro e w1 ⟨v1, rs1, e1, rfl, hR1, hE1, hs1⟩
                obtain ⟨A7, cap7, rfl⟩ := own_slice hR1.1
                have hl1 : rs1.length = n ∧ e1 = lenF (T.take n) := by
                  have h := SC.out
                  rw [hs1] at h
                  have h2 := HE.out
                  simp only [List.length_map] at h
                  omega
                obtain ⟨hl1, rfl⟩ := hl1
                rw [hl1]
                have E1 := Lib.hid (E.out.trans hE1)
                have Y1 := Lib.hid (O.out.bytes.ext hE1)
                clear hs1 hl1 hR1 hE1
                go_wp2_with fail
                refine (scan_any _ (frs 0 T) 8 _ Y1.out (TT.out.ext E1.out) (by rw [frs_len]; have := HN.out; omega) (by omega) (by omega)).mono ?_
                rintro e w2 ⟨v2, rs2, e2, rfl, hR2, hE2, hs2⟩
                rw [scan_eight _ T HTB.out] at hs2
                simp only [Prod.mk.injEq] at hs2
                obtain ⟨hs2, rfl⟩ := hs2
                obtain rfl : rs2 = [] := by simpa using hs2.symm
                obtain ⟨A8, cap8, rfl⟩ := own_slice hR2.1
                have E2 := Lib.hid (E1.out.trans hE2)
                clear hs2 hR2 hE2
                go_wp2_with fail
                refine (awake_any _ (TT.out.ext E2.out)).mono ?_
                rintro e w' ⟨rfl, g9, rfl⟩
                go_wp2
                go_ret
                exact ⟨rfl, E2.out.ext g9⟩
              · have hnM' : ¬ (n : Int) < (M : Int) := by omega
                clear hgo
                go_wp2_with fail
                refine (scan_any _ ((frs 0 T).take C) 7 _ BC.out (TT.out.ext E.out) BL.out (by omega) (by omega)).mono ?_
                rintro e w1 ⟨v1, rs1, e1, rfl, hR1, hE1, hs1⟩
                obtain ⟨A7, cap7, rfl⟩ := own_slice hR1.1
                have hl1 : rs1.length = n ∧ e1 = lenF (T.take n) := by
                  have h := SC.out
                  rw [hs1] at h
                  have h2 := HE.out
                  simp only [List.length_map] at h
                  omega
                obtain ⟨hl1, rfl⟩ := hl1
                rw [hl1]
                have E1 := Lib.hid (E.out.trans hE1)
                have Y1 := Lib.hid (O.out.bytes.ext hE1)
                clear hs1 hl1 hR1 hE1
                go_wp2_with fail
                refine (scan_any _ (frs 0 T) 8 _ Y1.out (TT.out.ext E1.out) (by rw [frs_len]; have := HN.out; omega) (by omega) (by omega)).mono ?_
                rintro e w2 ⟨v2, rs2, e2, rfl, hR2, hE2, hs2⟩
                rw [scan_eight _ T HTB.out] at hs2
                simp only [Prod.mk.injEq] at hs2
                obtain ⟨hs2, rfl⟩ := hs2
                obtain rfl : rs2 = [] := by simpa using hs2.symm
                obtain ⟨A8, cap8, rfl⟩ := own_slice hR2.1
                have E2 := Lib.hid (E1.out.trans hE2)
                clear hs2 hR2 hE2
                go_wp2_with fail
                refine (awake_any _ (TT.out.ext E2.out)).mono ?_
                rintro e w' ⟨rfl, g9, rfl⟩
                go_wp2
                go_ret
                exact ⟨rfl, E2.out.ext g9⟩

end Go.Proofs.YtobnbdoehobigaaDoor
