import Derived.Test.YtakebbphielbfaaDoorQRa
namespace Go.Proofs.YtakebbphielbfaaDoor
open Go.RowKit
set_option linter.unusedVariables false
set_option linter.unusedSimpArgs false
set_option maxRecDepth 100000
set_option maxHeartbeats 6400000

/-- Need of a kind that there is -/
theorem need_any (k : Int) (w : World) (hI : IV w) (hk : 1 ≤ k ∧ k ≤ 5) : Calls Tryd.prog 22 #[.int .i64 k] w fun e w' => e = .returned (.int .i64 (needL k : Int)) ∧ Ext w w' := by
  have h1 := hI.nd 1 (by omega)
  have h2 := hI.nd 2 (by omega)
  have h3 := hI.nd 3 (by omega)
  have h4 := hI.nd 4 (by omega)
  have h5 := hI.nd 5 (by omega)
  simp only [List.getD_cons_succ, List.getD_cons_zero] at h1 h2 h3 h4 h5
  have hlt : 0 < w.heap.size := by have := hI.lt; omega
  clear hI
  rcases (show k = 1 ∨ k = 2 ∨ k = 3 ∨ k = 4 ∨ k = 5 by omega) with rfl | rfl | rfl | rfl | rfl
  all_goals (
    clear hk
    go_enter Tryd.func22, Tryd.ntmps22
    go_wp2
    go_ret
    exact ⟨by rfl, Ext.refl _⟩)

def sgA (s : Sg) : Array Value := #[.int .i64 s.k, .int .i64 s.a.1, .int .i64 s.a.2, .int .i64 s.b.1, .int .i64 s.b.2, .int .i64 s.c.1, .int .i64 s.c.2]


theorem pts_fail1 {ws : List (List UInt8)} {fr : Pt} {m i : Nat} {acc : List Pt} {v e : Int} (h : num1 ws i fr.1 = (v, e)) (he : e ≠ 0) : ptsL ws fr (m + 1) i acc = (e, i, acc) := by
  unfold ptsL; rw [h, if_pos he]
theorem pts_fail2 {ws : List (List UInt8)} {fr : Pt} {m i : Nat} {acc : List Pt} {v v2 e : Int} (h : num1 ws i fr.1 = (v, 0)) (h2 : num1 ws (i + 1) fr.2 = (v2, e)) (he : e ≠ 0) : ptsL ws fr (m + 1) i acc = (e, i + 1, acc) := by
  unfold ptsL; rw [h, h2, if_neg (by simp), if_pos he]
theorem pts_next {ws : List (List UInt8)} {fr : Pt} {m i : Nat} {acc : List Pt} {v v2 : Int} (h : num1 ws i fr.1 = (v, 0)) (h2 : num1 ws (i + 1) fr.2 = (v2, 0)) : ptsL ws fr (m + 1) i acc = ptsL ws fr m (i + 2) (acc ++ [(v, v2)]) := by
  conv => lhs; unfold ptsL
  rw [h, h2, if_neg (by simp), if_neg (by simp)]

structure GS (b0 r q : Nat) (w0 wr : World) (ws : List (List UInt8)) (st : Rd) (k : Int) (fr : Pt) (j : Nat) (acc : List Pt) : Prop where
  rk : RK b0 r q wr ws { st with at_ := st.at_ + 2 * j }
  sq : wr.heap[q]? = some (.cells (sgA (mkSg k acc)) 42 (0, 0))
  fq : wr.heap[q + 1]? = some (.cells #[.int .i64 fr.1, .int .i64 fr.2] 39 (0, 0))
  keep : Keep w0 wr (fun x => r ≤ x)
  len : acc.length = j
  room : ∀ x ∈ acc, inP x
  rest : ptsL ws fr (needL k - j) (st.at_ + 2 * j) acc = ptsL ws fr (needL k) st.at_ []
  frr : inP fr
  rq : r < q
  le : st.at_ + 2 * j ≤ ws.length

theorem GS.ext {b0 r q : Nat} {w0 wr w' : World} {ws : List (List UInt8)} {st : Rd} {k : Int} {fr : Pt} {j : Nat} {acc : List Pt} (h : GS b0 r q w0 wr ws st k fr j acc) (he : Ext wr w') : GS b0 r q w0 w' ws st k fr j acc :=
  ⟨h.rk.ext he, he.heapAt h.sq, he.heapAt h.fq, h.keep.trans (Keep.ofExt he _) (fun _ _ x => x), h.len, h.room, h.rest, h.frr, h.rq, h.le⟩

/-- behind the first number -/
structure GT (b0 r q : Nat) (w0 wr : World) (ws : List (List UInt8)) (st : Rd) (k : Int) (fr : Pt) (j : Nat) (acc : List Pt) (n : Nat) : Prop where
  rk : RK b0 r q wr ws { st with at_ := n }
  sq : wr.heap[q]? = some (.cells (sgA (mkSg k acc)) 42 (0, 0))
  fq : wr.heap[q + 1]? = some (.cells #[.int .i64 fr.1, .int .i64 fr.2] 39 (0, 0))
  keep : Keep w0 wr (fun x => r ≤ x)

theorem GT.num {b0 r q : Nat} {w0 wr w' : World} {ws : List (List UInt8)} {st : Rd} {k : Int} {fr : Pt} {j : Nat} {acc : List Pt} {n n' : Nat} (h : GT b0 r q w0 wr ws st k fr j acc n) (hq : r < q) (hr : RK b0 r q w' ws { st with at_ := n' }) (hk : Keep wr w' (fun k => k = r)) : GT b0 r q w0 w' ws st k fr j acc n' :=
  ⟨hr, by rw [hk.block q (heap_lt h.sq) (by omega)]; exact h.sq, by rw [hk.block (q + 1) (heap_lt h.fq) (by omega)]; exact h.fq, h.keep.trans (hk.mono (fun x e => by omega)) (fun _ _ x => x)⟩

theorem group_of_fail {ws : List (List UInt8)} {k : Int} {small : Bool} {st : Rd} {fr : Pt} {e : Int} {i : Nat} {l : List Pt} (hfr : (if small then st.now else (0, 0)) = fr) (h : ptsL ws fr (needL k) st.at_ [] = (e, i, l)) (he : e ≠ 0) : groupL ws k small st = (e, { st with at_ := i }) := by
  unfold groupL; rw [hfr, h, if_pos he]
theorem group_of_ok {ws : List (List UInt8)} {k : Int} {small : Bool} {st : Rd} {fr : Pt} {i : Nat} {l : List Pt} (hfr : (if small then st.now else (0, 0)) = fr) (h : ptsL ws fr (needL k) st.at_ [] = (0, i, l)) : groupL ws k small st = (0, ⟨i, st.p ++ [mkSg k l], lastP l, if k = 1 then lastP l else st.bg⟩) := by
  unfold groupL; rw [hfr, h, if_neg (by simp)]

theorem GT.ext {b0 r q : Nat} {w0 wr w' : World} {ws : List (List UInt8)} {st : Rd} {k : Int} {fr : Pt} {j : Nat} {acc : List Pt} {n : Nat} (h : GT b0 r q w0 wr ws st k fr j acc n) (he : Ext wr w') : GT b0 r q w0 w' ws st k fr j acc n :=
  ⟨h.rk.ext he, he.heapAt h.sq, he.heapAt h.fq, h.keep.trans (Keep.ofExt he _) (fun _ _ x => x)⟩

theorem sgA_set {k : Int} {A B : Array Value} {q i : Nat} {w : World} {v : Value} (h : w.heap[q]? = some (.cells A 42 (0, 0))) (e : A.setIfInBounds i v = B) : (w.setCell ⟨q, i, none⟩ v).heap[q]? = some (.cells B 42 (0, 0)) := by
  rw [heap_setCell_same w q i _ 42 _ h, ← e]

theorem GT.next {b0 r q : Nat} {w0 wr : World} {ws : List (List UInt8)} {st : Rd} {k : Int} {fr : Pt} {j : Nat} {acc acc' : List Pt} (h : GT b0 r q w0 wr ws st k fr j acc (st.at_ + 2 * (j + 1))) (hq : r < q) (i1 i2 : Nat) (x y : Int)
    (hs : ((sgA (mkSg k acc)).setIfInBounds i1 (.int .i64 x)).setIfInBounds i2 (.int .i64 y) = sgA (mkSg k acc')) (hl : acc'.length = j + 1) (hr : ∀ x ∈ acc', inP x)
    (hp : ptsL ws fr (needL k - (j + 1)) (st.at_ + 2 * (j + 1)) acc' = ptsL ws fr (needL k) st.at_ []) (hf : inP fr) (hle : st.at_ + 2 * (j + 1) ≤ ws.length) :
    GS b0 r q w0 ((wr.setCell ⟨q, i1, none⟩ (.int .i64 x)).setCell ⟨q, i2, none⟩ (.int .i64 y)) ws st k fr (j + 1) acc' := by
  have K : Keep wr ((wr.setCell ⟨q, i1, none⟩ (.int .i64 x)).setCell ⟨q, i2, none⟩ (.int .i64 y)) (fun k => k = q) := Keep.setCell.trans Keep.setCell (fun _ _ x => x)
  refine ⟨h.rk.above hq (K.mono (fun x e => by omega)), ?_, by rw [K.block (q + 1) (heap_lt h.fq) (by omega)]; exact h.fq, h.keep.trans (K.mono (fun x e => by omega)) (fun _ _ x => x), hl, hr, hp, hf, hq, hle⟩
  exact sgA_set (k := k) (sgA_set (k := k) h.sq rfl) hs

theorem mk_i64 {k : Int} {l : List Pt} (hk : i64 k) (h : ∀ x ∈ l, inP x) : sgR.ok (mkSg k l) := by
  have key : ∀ i, i64 (l.getD i (0, 0)).1 ∧ i64 (l.getD i (0, 0)).2 := by
    intro i
    by_cases hi : i < l.length
    · rw [List.getD_eq_getElem?_getD, List.getElem?_eq_getElem hi]
      have := h _ (List.getElem_mem hi)
      exact ⟨this.1.i64, this.2.i64⟩
    · rw [List.getD_eq_getElem?_getD, List.getElem?_eq_none (by omega)]
      exact ⟨by constructor <;> decide, by constructor <;> decide⟩
  exact ⟨hk, key 0, key 1, key 2⟩

theorem group_any {b0 r T : Nat} {w : World} {ws : List (List UInt8)} {st : Rd} (h : RK b0 r T w ws st) (hw : WsOk ws) (hok : RdOk ws st) (k : Int) (small : Bool) (hk : 1 ≤ k ∧ k ≤ 4) (hop : openL false st.p = true ∨ k = 1) :
    Calls Tryd.prog 38 #[.pointer (some ⟨r, 0, none⟩), .int .i64 k, .bool small] w fun e w' => e = .returned (.int .i64 (groupL ws k small st).1) ∧ RK b0 r w'.heap.size w' ws (groupL ws k small st).2 ∧ Keep w w' (fun k => r ≤ k) := by
  have H := Lib.hid h
  have W := Lib.hid hw
  have OK := Lib.hid hok
  have HOP := Lib.hid hop
  have HR := h.lt
  obtain ⟨A, c, A', c', c0, c1, c2, c3, c4, c5, c6, fz, hsl, hO⟩ := h.cells
  obtain ⟨q, hq⟩ : ∃ q, w.heap.size = q := ⟨_, rfl⟩
  obtain ⟨⟨nx, ny⟩, hnow⟩ : ∃ z, st.now = z := ⟨_, rfl⟩
  rw [hnow] at c3 c4
  dsimp only at c3 c4
  have HK := Lib.hid hk
  obtain ⟨w2, hw2⟩ : ∃ w2, (w.alloc (.cells #[.int .i64 k, .int .i64 0, .int .i64 0, .int .i64 0, .int .i64 0, .int .i64 0, .int .i64 0] 42)).alloc (.cells #[.int .i64 0, .int .i64 0] 39) = w2 := ⟨_, rfl⟩
  have E2 : Hid (Ext w w2) := Lib.hid (by rw [← hw2]; exact ((Ext.refl _).alloc _).alloc _)
  have hq1 : w2.heap[q]? = some (.cells #[.int .i64 k, .int .i64 0, .int .i64 0, .int .i64 0, .int .i64 0, .int .i64 0, .int .i64 0] 42 (0, 0)) := by rw [← hw2, ← hq]; exact Ext.heapAt ((Ext.refl _).alloc _) (heap_alloc_new w _)
  have hq2 : w2.heap[q + 1]? = some (.cells #[.int .i64 0, .int .i64 0] 39 (0, 0)) := by
    have z1 : (w.alloc (.cells #[.int .i64 k, .int .i64 0, .int .i64 0, .int .i64 0, .int .i64 0, .int .i64 0, .int .i64 0] 42)).heap.size = q + 1 := by rw [← hq]; simp [go_sem]
    rw [← hw2, ← z1]; exact heap_alloc_new _ _
  have HQ1 := Lib.hid hq1
  have HQ2 := Lib.hid hq2
  have k3 : w2.cell? ⟨r, 3, none⟩ = some (.int .i64 nx) := (E2.out.cell HR).trans c3
  have k4 : w2.cell? ⟨r, 4, none⟩ = some (.int .i64 ny) := (E2.out.cell HR).trans c4
  have m0 : w2.cell? ⟨q + 1, 0, none⟩ = some (.int .i64 0) := (heap_cell hq2 0).trans rfl
  have m1 : w2.cell? ⟨q + 1, 1, none⟩ = some (.int .i64 0) := (heap_cell hq2 1).trans rfl
  have mz : ∀ k, w2.frozen? ⟨q + 1, k, none⟩ = false := fun k => heap_thaw hq2 k
  have ml := heap_lt hq2
  have HR2 : r < w2.heap.size := Nat.lt_of_lt_of_le HR E2.out.size
  clear h hw hok c0 c1 c2 c3 c4 c5 c6 fz hsl hO hk hop hq1 hq2
  have FR0 : Hid (inP (if small then st.now else (0, 0))) := Lib.hid (by split; exact OK.out.now; decide)
  obtain ⟨m, hm⟩ : ∃ m, needL k = m := ⟨_, rfl⟩
  have HM := Lib.hid hm
  have hm3 : 1 ≤ m ∧ m ≤ 3 := by rw [← hm]; exact need_pos HK.out
  have RQ : Hid (r < q) := Lib.hid (by omega)
  have ND : Hid (∀ wx, IV wx → Calls Tryd.prog 22 #[.int .i64 k] wx fun e w' => e = .returned (.int .i64 (m : Int)) ∧ Ext wx w') := Lib.hid (fun wx hI => by rw [← hm]; exact need_any k wx hI (by have := HK.out; omega))
  have MK0 : Hid (sgA (mkSg k []) = #[.int .i64 k, .int .i64 0, .int .i64 0, .int .i64 0, .int .i64 0, .int .i64 0, .int .i64 0]) := Lib.hid rfl
  have atle := OK.out.le
  have wfew := W.out.few
  obtain ⟨at_, hat⟩ : ∃ z, st.at_ = z := ⟨_, rfl⟩
  obtain ⟨n, hn⟩ : ∃ n, ws.length = n := ⟨_, rfl⟩
  rw [hat, hn] at atle
  rw [hn] at wfew
  have HAT := Lib.hid hat
  have HN := Lib.hid hn
  clear hm hat hn
  obtain ⟨⟨fx, fy⟩, hfr⟩ : ∃ z, (if small then st.now else (0, 0)) = z := ⟨_, rfl⟩
  have HFR := Lib.hid hfr
  rw [hfr] at FR0
  cases small with
  | true =>
    rw [if_pos rfl, hnow] at hfr
    simp only [Prod.mk.injEq] at hfr
    obtain ⟨rfl, rfl⟩ := hfr
    have G0 : Hid (GS b0 r q w ((w2.setCell ⟨q + 1, 0, none⟩ (.int .i64 nx)).setCell ⟨q + 1, 1, none⟩ (.int .i64 ny)) ws st k (nx, ny) 0 []) := Lib.hid (by
      have KK : Keep w2 ((w2.setCell ⟨q + 1, 0, none⟩ (.int .i64 nx)).setCell ⟨q + 1, 1, none⟩ (.int .i64 ny)) (fun x => x = q + 1) := Keep.setCell.trans Keep.setCell (fun _ _ x => x)
      have KW : Ext w ((w2.setCell ⟨q + 1, 0, none⟩ (.int .i64 nx)).setCell ⟨q + 1, 1, none⟩ (.int .i64 ny)) := Keep.toExt E2.out KK (fun x e => by omega)
      refine ⟨(hq ▸ H.out.top).ext KW, ?_, ?_, Keep.ofExt KW _, rfl, by simp, rfl, FR0.out, RQ.out, by have := HAT.out; have := HN.out; omega⟩
      · rw [setCell_heap (by omega), setCell_heap (by omega), MK0.out]; exact HQ1.out
      · rw [heap_setCell_same _ (q + 1) 1 _ 39 _ (heap_setCell_same w2 (q + 1) 0 _ 39 _ HQ2.out)]; rfl)
    have ND0 := Lib.hid (ND.out _ G0.out.rk.iv)
    go_enter Tryd.func38, Tryd.ntmps38
    go_wp2_with fail
    refine ND0.out.mono ?_
    rintro e w3 ⟨rfl, hE3⟩
    have G3 := Lib.hid (G0.out.ext hE3)
    clear hE3 G0 ND0 hw2 E2 HQ1 HQ2 k3 k4 m0 m1 mz ml HR2 HR hq hnow
    go_wp2
    go_loopw [22] (fun t22 wr => ∃ (j : Nat) (acc : List Pt), j ≤ m ∧ t22 = .int .i64 (j : Int) ∧ Hid (GS b0 r q w wr ws st k (nx, ny) j acc)) (fun t22 _ => m - (intOf t22).toNat)
    case atStart => exact ⟨0, [], by omega, rfl, G3⟩
    case round =>
      obtain ⟨j, acc, hj, rfl, ST⟩ := hrel
      by_cases hlt : j < m
      · have hlt' : (j : Int) < (m : Int) := by omega
        have ATL : Hid (st.at_ + 2 * j ≤ ws.length) := Lib.hid ST.out.le
        have f0 : wr.cell? ⟨q + 1, 0, none⟩ = some (.int .i64 (nx)) := (heap_cell ST.out.fq 0).trans rfl
        have N1 := Lib.hid (num_any ST.out.rk W.out ATL.out (nx) ST.out.frr.1)
        have T1 : Hid (GT b0 r q w wr ws st k (nx, ny) j acc (st.at_ + 2 * j)) := Lib.hid ⟨ST.out.rk, ST.out.sq, ST.out.fq, ST.out.keep⟩
        obtain ⟨v1, e1, hv1⟩ : ∃ v e, num1 ws (st.at_ + 2 * j) (nx) = (v, e) := ⟨_, _, rfl⟩
        have HV1 := Lib.hid hv1
        rw [hv1] at N1
        dsimp only at N1
        clear hv1
        go_wp2_with fail
        refine N1.out.mono ?_
        rintro e w4 ⟨rfl, hR4, hK4⟩
        by_cases he1 : e1 = 0
        · subst he1
          rw [stN_0] at hR4
          have T2 : Hid (GT b0 r q w w4 ws st k (nx, ny) j acc (st.at_ + 2 * j + 1)) := Lib.hid (T1.out.num RQ.out hR4 hK4)
          clear hR4 hK4 N1 T1 f0
          have AT1 : Hid (st.at_ + 2 * j + 1 ≤ ws.length) := Lib.hid (by
            rcases num1_or ws (st.at_ + 2 * j) (nx) with ⟨_, h2, _⟩ | ⟨h1, _⟩
            · omega
            · rw [HV1.out] at h1; exact absurd rfl h1)
          have f1 : w4.cell? ⟨q + 1, 1, none⟩ = some (.int .i64 (ny)) := (heap_cell T2.out.fq 1).trans rfl
          have N2 := Lib.hid (num_any T2.out.rk W.out AT1.out (ny) ST.out.frr.2)
          obtain ⟨v2, e2, hv2⟩ : ∃ v e, num1 ws (st.at_ + 2 * j + 1) (ny) = (v, e) := ⟨_, _, rfl⟩
          have HV2 := Lib.hid hv2
          rw [hv2] at N2
          dsimp only at N2
          clear hv2
          go_wp2_with fail
          refine N2.out.mono ?_
          rintro e w5 ⟨rfl, hR5, hK5⟩
          by_cases he2 : e2 = 0
          · subst he2
            rw [stN_0] at hR5
            have T3 : Hid (GT b0 r q w w5 ws st k (nx, ny) j acc (st.at_ + 2 * (j + 1))) := Lib.hid (T2.out.num RQ.out hR5 hK5)
            clear hR5 hK5 N2 T2 f1
            have V1 : Hid (inR v1 ∧ inR v2 ∧ st.at_ + 2 * (j + 1) ≤ ws.length) := Lib.hid (by
              rcases num1_or ws (st.at_ + 2 * j) (nx) with ⟨_, _, h3⟩ | ⟨h1, _⟩
              · rcases num1_or ws (st.at_ + 2 * j + 1) (ny) with ⟨_, g2, g3⟩ | ⟨g1, _⟩
                · rw [HV1.out] at h3; rw [HV2.out] at g3; exact ⟨h3, g3, by omega⟩
                · rw [HV2.out] at g1; exact absurd rfl g1
              · rw [HV1.out] at h1; exact absurd rfl h1)
            have NR : Hid (ptsL ws (nx, ny) (needL k - (j + 1)) (st.at_ + 2 * (j + 1)) (acc ++ [(v1, v2)]) = ptsL ws (nx, ny) (needL k) st.at_ []) := Lib.hid (by
              have h0 := ST.out.rest
              have en : needL k - j = (needL k - (j + 1)) + 1 := by rw [HM.out]; omega
              rw [en, pts_next HV1.out HV2.out] at h0
              exact h0)
            have RM : Hid (∀ x ∈ acc ++ [(v1, v2)], inP x) := Lib.hid (by
              intro x hx
              rcases List.mem_append.1 hx with hx | hx
              · exact ST.out.room x hx
              · simp at hx; subst hx; exact ⟨V1.out.1, V1.out.2.1⟩)
            have hlen := ST.out.len
            have FR := Lib.hid ST.out.frr
            clear ST HV1 HV2 ATL AT1
            have hsq := T3.out.sq
            have SQ := Lib.hid hsq
            have ql := heap_lt hsq
            have fz : ∀ i, w5.frozen? ⟨q, i, none⟩ = false := fun i => heap_thaw hsq i
            rcases (show j = 0 ∨ j = 1 ∨ j = 2 by omega) with rfl | rfl | rfl
            · obtain rfl : acc = [] := List.eq_nil_of_length_eq_zero hlen
              have s1 : w5.cell? ⟨q, 1, none⟩ = some (.int .i64 0) := (heap_cell hsq 1).trans rfl
              have s2 : w5.cell? ⟨q, 2, none⟩ = some (.int .i64 0) := (heap_cell hsq 2).trans rfl
              have NX : Hid (GS b0 r q w ((w5.setCell ⟨q, 1, none⟩ (.int .i64 v1)).setCell ⟨q, 2, none⟩ (.int .i64 v2)) ws st k (nx, ny) 1 [(v1, v2)]) := Lib.hid (T3.out.next RQ.out 1 2 v1 v2 rfl rfl RM.out NR.out FR.out V1.out.2.2)
              clear hsq SQ NR RM T3 FR
              go_wp2
              go_roundw
              case rel => exact ⟨1, _, by omega, by go_num, NX⟩
              case measure => simp [intOf]; omega
            · obtain ⟨a, rfl⟩ := list1 hlen
              have s1 : w5.cell? ⟨q, 3, none⟩ = some (.int .i64 0) := (heap_cell hsq 3).trans rfl
              have s2 : w5.cell? ⟨q, 4, none⟩ = some (.int .i64 0) := (heap_cell hsq 4).trans rfl
              have NX : Hid (GS b0 r q w ((w5.setCell ⟨q, 3, none⟩ (.int .i64 v1)).setCell ⟨q, 4, none⟩ (.int .i64 v2)) ws st k (nx, ny) 2 ([a] ++ [(v1, v2)])) := Lib.hid (T3.out.next RQ.out 3 4 v1 v2 rfl rfl RM.out NR.out FR.out V1.out.2.2)
              clear hsq SQ NR RM T3 FR
              go_wp2
              go_roundw
              case rel => exact ⟨2, _, by omega, by go_num, NX⟩
              case measure => simp [intOf]; omega
            · obtain ⟨a, b, rfl⟩ := list2 hlen
              have s1 : w5.cell? ⟨q, 5, none⟩ = some (.int .i64 0) := (heap_cell hsq 5).trans rfl
              have s2 : w5.cell? ⟨q, 6, none⟩ = some (.int .i64 0) := (heap_cell hsq 6).trans rfl
              have NX : Hid (GS b0 r q w ((w5.setCell ⟨q, 5, none⟩ (.int .i64 v1)).setCell ⟨q, 6, none⟩ (.int .i64 v2)) ws st k (nx, ny) 3 ([a, b] ++ [(v1, v2)])) := Lib.hid (T3.out.next RQ.out 5 6 v1 v2 rfl rfl RM.out NR.out FR.out V1.out.2.2)
              clear hsq SQ NR RM T3 FR
              go_wp2
              go_roundw
              case rel => exact ⟨3, _, by omega, by go_num, NX⟩
              case measure => simp [intOf]; omega
          · have hne : (e2 == 0) = false := by simpa using he2
            have GL : Hid (groupL ws k true st = (e2, { st with at_ := st.at_ + 2 * j + 1 })) := Lib.hid (group_of_fail HFR.out (by
              rw [← ST.out.rest, show needL k - j = (m - j - 1) + 1 by rw [HM.out]; omega]
              exact pts_fail2 HV1.out HV2.out he2) he2)
            rw [stN_n _ he2] at hR5
            have FIN : Hid (RK b0 r w5.heap.size w5 ws { st with at_ := st.at_ + 2 * j + 1 } ∧ Keep w w5 (fun k => r ≤ k)) := Lib.hid ⟨hR5.top, T2.out.keep.trans (hK5.mono (fun x e => by omega)) (fun _ _ x => x)⟩
            clear hR5 hK5 N2 T2 f1 ST HV1 HV2
            go_wp2
            go_ret
            exact ⟨by rw [GL.out] <;> rfl, by rw [GL.out]; exact FIN.out.1, FIN.out.2⟩
        · have hne : (e1 == 0) = false := by simpa using he1
          have GL : Hid (groupL ws k true st = (e1, { st with at_ := st.at_ + 2 * j })) := Lib.hid (group_of_fail HFR.out (by
            rw [← ST.out.rest, show needL k - j = (m - j - 1) + 1 by rw [HM.out]; omega]
            exact pts_fail1 HV1.out he1) he1)
          rw [stN_n _ he1] at hR4
          have FIN : Hid (RK b0 r w4.heap.size w4 ws { st with at_ := st.at_ + 2 * j } ∧ Keep w w4 (fun k => r ≤ k)) := Lib.hid ⟨hR4.top, T1.out.keep.trans (hK4.mono (fun x e => by omega)) (fun _ _ x => x)⟩
          clear hR4 hK4 N1 T1 f0 ST HV1
          go_wp2
          go_ret
          exact ⟨by rw [GL.out] <;> rfl, by rw [GL.out]; exact FIN.out.1, FIN.out.2⟩
      · have hlt' : ¬ (j : Int) < (m : Int) := by omega
        obtain rfl : j = m := by omega
        have GL : Hid (groupL ws k true st = (0, ⟨st.at_ + 2 * j, st.p ++ [mkSg k acc], lastP acc, if k = 1 then lastP acc else st.bg⟩)) := Lib.hid (group_of_ok HFR.out (by
          rw [← ST.out.rest, show needL k - j = 0 by rw [HM.out]; omega]; rfl))
        have GLEN : Hid (acc.length = needL k) := Lib.hid (by rw [HM.out]; exact ST.out.len)
        have GROOM := Lib.hid ST.out.room
        have SG : Hid (sgR.ok (mkSg k acc)) := Lib.hid (mk_i64 (by have := HK.out; constructor <;> omega) ST.out.room)
        have ND1 := Lib.hid (ND.out _ ST.out.rk.iv)
        have S0 : Hid (GT b0 r q w wr ws st k (nx, ny) j acc (st.at_ + 2 * j)) := Lib.hid ⟨ST.out.rk, ST.out.sq, ST.out.fq, ST.out.keep⟩
        have PF : Hid (st.p.length ≤ 4000) := Lib.hid (by have := OK.out.few; have := OK.out.le; have := HN.out; omega)
        clear ST
        go_wp2_with fail
        refine ND1.out.mono ?_
        rintro e w4 ⟨rfl, hE4⟩
        have S4 : Hid (GT b0 r q w w4 ws st k (nx, ny) j acc (st.at_ + 2 * j)) := Lib.hid (S0.out.ext hE4)
        clear hE4 S0 ND1
        have hgl := GLEN.out
        have hm2 := HM.out
        have hk2 := HK.out
        have sq := S4.out.sq
        rcases (show k = 1 ∨ k = 2 ∨ k = 3 ∨ k = 4 by omega) with rfl | rfl | rfl | rfl
        · obtain rfl : j = 1 := by rw [← hm2]; rfl
          obtain ⟨z0, rfl⟩ := list1 hgl
          obtain ⟨x0, y0⟩ := z0
          have s1 : w4.cell? ⟨q, 1, none⟩ = some (.int .i64 x0) := (heap_cell sq 1).trans rfl
          have s2 : w4.cell? ⟨q, 2, none⟩ = some (.int .i64 y0) := (heap_cell sq 2).trans rfl
          obtain ⟨A4, c4, A4', c4', -, -, -, t3, t4, t5, t6, tz, -, -⟩ := S4.out.rk.cells
          have rl := S4.out.rk.lt
          obtain ⟨w7, hw7⟩ : ∃ w7, (w4.setCell ⟨r, 3, none⟩ (.int .i64 x0)).setCell ⟨r, 4, none⟩ (.int .i64 y0) = w7 := ⟨_, rfl⟩
          have P1 := S4.out.rk.put ⟨st.at_ + 2 * 1, st.p, (x0, st.now.2), st.bg⟩ 3 (.int .i64 x0) rfl (fun W P => rfl)
          have P2 := P1.1.put ⟨st.at_ + 2 * 1, st.p, (x0, y0), st.bg⟩ 4 (.int .i64 y0) rfl (fun W P => rfl)
          rw [hw7] at P2
          have K7 : Keep w4 w7 (fun k => k = r) := P1.2.trans P2.2 (fun _ _ x => x)
          have R7 := P2.1
          obtain ⟨A7, c7, A7', c7', -, -, -, u3, u4, u5, u6, uz, -, -⟩ := R7.cells
          have rl7 := R7.lt
          obtain ⟨w8, hw8⟩ : ∃ w8, (w7.setCell ⟨r, 5, none⟩ (.int .i64 x0)).setCell ⟨r, 6, none⟩ (.int .i64 y0) = w8 := ⟨_, rfl⟩
          have P3 := R7.put ⟨st.at_ + 2 * 1, st.p, (x0, y0), (x0, st.bg.2)⟩ 5 (.int .i64 x0) rfl (fun W P => rfl)
          have P4 := P3.1.put ⟨st.at_ + 2 * 1, st.p, (x0, y0), (x0, y0)⟩ 6 (.int .i64 y0) rfl (fun W P => rfl)
          rw [hw8] at P4
          have K8 : Keep w4 w8 (fun k => k = r) := K7.trans (P3.2.trans P4.2 (fun _ _ x => x)) (fun _ _ x => x)
          have R8 := P4.1
          have sq8 : w8.heap[q]? = some (.cells #[.int .i64 1, .int .i64 x0, .int .i64 y0, .int .i64 0, .int .i64 0, .int .i64 0, .int .i64 0] 42 (0, 0)) := by rw [K8.block q (heap_lt sq) (by have := RQ.out; omega), sq]; rfl
          have v0 : w8.cell? ⟨q, 0, none⟩ = some (.int .i64 1) := (heap_cell sq8 0).trans rfl
          have v1 : w8.cell? ⟨q, 1, none⟩ = some (.int .i64 x0) := (heap_cell sq8 1).trans rfl
          have v2 : w8.cell? ⟨q, 2, none⟩ = some (.int .i64 y0) := (heap_cell sq8 2).trans rfl
          have v3 : w8.cell? ⟨q, 3, none⟩ = some (.int .i64 0) := (heap_cell sq8 3).trans rfl
          have v4 : w8.cell? ⟨q, 4, none⟩ = some (.int .i64 0) := (heap_cell sq8 4).trans rfl
          have v5 : w8.cell? ⟨q, 5, none⟩ = some (.int .i64 0) := (heap_cell sq8 5).trans rfl
          have v6 : w8.cell? ⟨q, 6, none⟩ = some (.int .i64 0) := (heap_cell sq8 6).trans rfl
          have AD : Hid (Calls Tryd.prog 37 #[.pointer (some ⟨r, 0, none⟩), .agg #[.int .i64 1, .int .i64 x0, .int .i64 y0, .int .i64 0, .int .i64 0, .int .i64 0, .int .i64 0]] w8 fun e w' => e = .returned (.int .i64 0) ∧ RK b0 r w'.heap.size w' ws ⟨st.at_ + 2 * 1, st.p ++ [mkSg 1 [(x0, y0)]], (x0, y0), (x0, y0)⟩ ∧ Keep w8 w' (fun k => r ≤ k)) := Lib.hid (add_any R8 (mkSg 1 [(x0, y0)]) SG.out PF.out)
          have KT : Hid (Keep w w8 (fun k => r ≤ k)) := Lib.hid (S4.out.keep.trans (K8.mono (fun x e => by omega)) (fun _ _ x => x))
          clear P1 P2 K7 R7 sq sq8 P3 P4 K8 R8 S4 SG
          go_wp2_with fail
          refine AD.out.mono ?_
          rintro e w9 ⟨rfl, hR9, hK9⟩
          have FIN : Hid (RK b0 r w9.heap.size w9 ws ⟨st.at_ + 2 * 1, st.p ++ [mkSg 1 [(x0, y0)]], (x0, y0), (x0, y0)⟩ ∧ Keep w w9 (fun k => r ≤ k)) := Lib.hid ⟨hR9, KT.out.trans hK9 (fun _ _ x => x)⟩
          clear hR9 hK9 AD KT
          go_wp2
          go_ret
          exact ⟨by rw [GL.out] <;> rfl, by rw [GL.out]; exact FIN.out.1, FIN.out.2⟩
        · obtain rfl : j = 1 := by rw [← hm2]; rfl
          obtain ⟨z0, rfl⟩ := list1 hgl
          obtain ⟨x0, y0⟩ := z0
          have s1 : w4.cell? ⟨q, 1, none⟩ = some (.int .i64 x0) := (heap_cell sq 1).trans rfl
          have s2 : w4.cell? ⟨q, 2, none⟩ = some (.int .i64 y0) := (heap_cell sq 2).trans rfl
          obtain ⟨A4, c4, A4', c4', -, -, -, t3, t4, t5, t6, tz, -, -⟩ := S4.out.rk.cells
          have rl := S4.out.rk.lt
          obtain ⟨w7, hw7⟩ : ∃ w7, (w4.setCell ⟨r, 3, none⟩ (.int .i64 x0)).setCell ⟨r, 4, none⟩ (.int .i64 y0) = w7 := ⟨_, rfl⟩
          have P1 := S4.out.rk.put ⟨st.at_ + 2 * 1, st.p, (x0, st.now.2), st.bg⟩ 3 (.int .i64 x0) rfl (fun W P => rfl)
          have P2 := P1.1.put ⟨st.at_ + 2 * 1, st.p, (x0, y0), st.bg⟩ 4 (.int .i64 y0) rfl (fun W P => rfl)
          rw [hw7] at P2
          have K7 : Keep w4 w7 (fun k => k = r) := P1.2.trans P2.2 (fun _ _ x => x)
          have R7 := P2.1
          have sq8 : w7.heap[q]? = some (.cells #[.int .i64 2, .int .i64 x0, .int .i64 y0, .int .i64 0, .int .i64 0, .int .i64 0, .int .i64 0] 42 (0, 0)) := by rw [K7.block q (heap_lt sq) (by have := RQ.out; omega), sq]; rfl
          have v0 : w7.cell? ⟨q, 0, none⟩ = some (.int .i64 2) := (heap_cell sq8 0).trans rfl
          have v1 : w7.cell? ⟨q, 1, none⟩ = some (.int .i64 x0) := (heap_cell sq8 1).trans rfl
          have v2 : w7.cell? ⟨q, 2, none⟩ = some (.int .i64 y0) := (heap_cell sq8 2).trans rfl
          have v3 : w7.cell? ⟨q, 3, none⟩ = some (.int .i64 0) := (heap_cell sq8 3).trans rfl
          have v4 : w7.cell? ⟨q, 4, none⟩ = some (.int .i64 0) := (heap_cell sq8 4).trans rfl
          have v5 : w7.cell? ⟨q, 5, none⟩ = some (.int .i64 0) := (heap_cell sq8 5).trans rfl
          have v6 : w7.cell? ⟨q, 6, none⟩ = some (.int .i64 0) := (heap_cell sq8 6).trans rfl
          have AD : Hid (Calls Tryd.prog 37 #[.pointer (some ⟨r, 0, none⟩), .agg #[.int .i64 2, .int .i64 x0, .int .i64 y0, .int .i64 0, .int .i64 0, .int .i64 0, .int .i64 0]] w7 fun e w' => e = .returned (.int .i64 0) ∧ RK b0 r w'.heap.size w' ws ⟨st.at_ + 2 * 1, st.p ++ [mkSg 2 [(x0, y0)]], (x0, y0), st.bg⟩ ∧ Keep w7 w' (fun k => r ≤ k)) := Lib.hid (add_any R7 (mkSg 2 [(x0, y0)]) SG.out PF.out)
          have KT : Hid (Keep w w7 (fun k => r ≤ k)) := Lib.hid (S4.out.keep.trans (K7.mono (fun x e => by omega)) (fun _ _ x => x))
          clear P1 P2 K7 R7 sq sq8 S4 SG
          go_wp2_with fail
          refine AD.out.mono ?_
          rintro e w9 ⟨rfl, hR9, hK9⟩
          have FIN : Hid (RK b0 r w9.heap.size w9 ws ⟨st.at_ + 2 * 1, st.p ++ [mkSg 2 [(x0, y0)]], (x0, y0), st.bg⟩ ∧ Keep w w9 (fun k => r ≤ k)) := Lib.hid ⟨hR9, KT.out.trans hK9 (fun _ _ x => x)⟩
          clear hR9 hK9 AD KT
          go_wp2
          go_ret
          exact ⟨by rw [GL.out] <;> rfl, by rw [GL.out]; exact FIN.out.1, FIN.out.2⟩
        · obtain rfl : j = 2 := by rw [← hm2]; rfl
          obtain ⟨z0, z1, rfl⟩ := list2 hgl
          obtain ⟨x0, y0⟩ := z0
          obtain ⟨x1, y1⟩ := z1
          have s1 : w4.cell? ⟨q, 3, none⟩ = some (.int .i64 x1) := (heap_cell sq 3).trans rfl
          have s2 : w4.cell? ⟨q, 4, none⟩ = some (.int .i64 y1) := (heap_cell sq 4).trans rfl
          obtain ⟨A4, c4, A4', c4', -, -, -, t3, t4, t5, t6, tz, -, -⟩ := S4.out.rk.cells
          have rl := S4.out.rk.lt
          obtain ⟨w7, hw7⟩ : ∃ w7, (w4.setCell ⟨r, 3, none⟩ (.int .i64 x1)).setCell ⟨r, 4, none⟩ (.int .i64 y1) = w7 := ⟨_, rfl⟩
          have P1 := S4.out.rk.put ⟨st.at_ + 2 * 2, st.p, (x1, st.now.2), st.bg⟩ 3 (.int .i64 x1) rfl (fun W P => rfl)
          have P2 := P1.1.put ⟨st.at_ + 2 * 2, st.p, (x1, y1), st.bg⟩ 4 (.int .i64 y1) rfl (fun W P => rfl)
          rw [hw7] at P2
          have K7 : Keep w4 w7 (fun k => k = r) := P1.2.trans P2.2 (fun _ _ x => x)
          have R7 := P2.1
          have sq8 : w7.heap[q]? = some (.cells #[.int .i64 3, .int .i64 x0, .int .i64 y0, .int .i64 x1, .int .i64 y1, .int .i64 0, .int .i64 0] 42 (0, 0)) := by rw [K7.block q (heap_lt sq) (by have := RQ.out; omega), sq]; rfl
          have v0 : w7.cell? ⟨q, 0, none⟩ = some (.int .i64 3) := (heap_cell sq8 0).trans rfl
          have v1 : w7.cell? ⟨q, 1, none⟩ = some (.int .i64 x0) := (heap_cell sq8 1).trans rfl
          have v2 : w7.cell? ⟨q, 2, none⟩ = some (.int .i64 y0) := (heap_cell sq8 2).trans rfl
          have v3 : w7.cell? ⟨q, 3, none⟩ = some (.int .i64 x1) := (heap_cell sq8 3).trans rfl
          have v4 : w7.cell? ⟨q, 4, none⟩ = some (.int .i64 y1) := (heap_cell sq8 4).trans rfl
          have v5 : w7.cell? ⟨q, 5, none⟩ = some (.int .i64 0) := (heap_cell sq8 5).trans rfl
          have v6 : w7.cell? ⟨q, 6, none⟩ = some (.int .i64 0) := (heap_cell sq8 6).trans rfl
          have AD : Hid (Calls Tryd.prog 37 #[.pointer (some ⟨r, 0, none⟩), .agg #[.int .i64 3, .int .i64 x0, .int .i64 y0, .int .i64 x1, .int .i64 y1, .int .i64 0, .int .i64 0]] w7 fun e w' => e = .returned (.int .i64 0) ∧ RK b0 r w'.heap.size w' ws ⟨st.at_ + 2 * 2, st.p ++ [mkSg 3 [(x0, y0), (x1, y1)]], (x1, y1), st.bg⟩ ∧ Keep w7 w' (fun k => r ≤ k)) := Lib.hid (add_any R7 (mkSg 3 [(x0, y0), (x1, y1)]) SG.out PF.out)
          have KT : Hid (Keep w w7 (fun k => r ≤ k)) := Lib.hid (S4.out.keep.trans (K7.mono (fun x e => by omega)) (fun _ _ x => x))
          clear P1 P2 K7 R7 sq sq8 S4 SG
          go_wp2_with fail
          refine AD.out.mono ?_
          rintro e w9 ⟨rfl, hR9, hK9⟩
          have FIN : Hid (RK b0 r w9.heap.size w9 ws ⟨st.at_ + 2 * 2, st.p ++ [mkSg 3 [(x0, y0), (x1, y1)]], (x1, y1), st.bg⟩ ∧ Keep w w9 (fun k => r ≤ k)) := Lib.hid ⟨hR9, KT.out.trans hK9 (fun _ _ x => x)⟩
          clear hR9 hK9 AD KT
          go_wp2
          go_ret
          exact ⟨by rw [GL.out] <;> rfl, by rw [GL.out]; exact FIN.out.1, FIN.out.2⟩
        · obtain rfl : j = 3 := by rw [← hm2]; rfl
          obtain ⟨z0, z1, z2, rfl⟩ := list3 hgl
          obtain ⟨x0, y0⟩ := z0
          obtain ⟨x1, y1⟩ := z1
          obtain ⟨x2, y2⟩ := z2
          have s1 : w4.cell? ⟨q, 5, none⟩ = some (.int .i64 x2) := (heap_cell sq 5).trans rfl
          have s2 : w4.cell? ⟨q, 6, none⟩ = some (.int .i64 y2) := (heap_cell sq 6).trans rfl
          obtain ⟨A4, c4, A4', c4', -, -, -, t3, t4, t5, t6, tz, -, -⟩ := S4.out.rk.cells
          have rl := S4.out.rk.lt
          obtain ⟨w7, hw7⟩ : ∃ w7, (w4.setCell ⟨r, 3, none⟩ (.int .i64 x2)).setCell ⟨r, 4, none⟩ (.int .i64 y2) = w7 := ⟨_, rfl⟩
          have P1 := S4.out.rk.put ⟨st.at_ + 2 * 3, st.p, (x2, st.now.2), st.bg⟩ 3 (.int .i64 x2) rfl (fun W P => rfl)
          have P2 := P1.1.put ⟨st.at_ + 2 * 3, st.p, (x2, y2), st.bg⟩ 4 (.int .i64 y2) rfl (fun W P => rfl)
          rw [hw7] at P2
          have K7 : Keep w4 w7 (fun k => k = r) := P1.2.trans P2.2 (fun _ _ x => x)
          have R7 := P2.1
          have sq8 : w7.heap[q]? = some (.cells #[.int .i64 4, .int .i64 x0, .int .i64 y0, .int .i64 x1, .int .i64 y1, .int .i64 x2, .int .i64 y2] 42 (0, 0)) := by rw [K7.block q (heap_lt sq) (by have := RQ.out; omega), sq]; rfl
          have v0 : w7.cell? ⟨q, 0, none⟩ = some (.int .i64 4) := (heap_cell sq8 0).trans rfl
          have v1 : w7.cell? ⟨q, 1, none⟩ = some (.int .i64 x0) := (heap_cell sq8 1).trans rfl
          have v2 : w7.cell? ⟨q, 2, none⟩ = some (.int .i64 y0) := (heap_cell sq8 2).trans rfl
          have v3 : w7.cell? ⟨q, 3, none⟩ = some (.int .i64 x1) := (heap_cell sq8 3).trans rfl
          have v4 : w7.cell? ⟨q, 4, none⟩ = some (.int .i64 y1) := (heap_cell sq8 4).trans rfl
          have v5 : w7.cell? ⟨q, 5, none⟩ = some (.int .i64 x2) := (heap_cell sq8 5).trans rfl
          have v6 : w7.cell? ⟨q, 6, none⟩ = some (.int .i64 y2) := (heap_cell sq8 6).trans rfl
          have AD : Hid (Calls Tryd.prog 37 #[.pointer (some ⟨r, 0, none⟩), .agg #[.int .i64 4, .int .i64 x0, .int .i64 y0, .int .i64 x1, .int .i64 y1, .int .i64 x2, .int .i64 y2]] w7 fun e w' => e = .returned (.int .i64 0) ∧ RK b0 r w'.heap.size w' ws ⟨st.at_ + 2 * 3, st.p ++ [mkSg 4 [(x0, y0), (x1, y1), (x2, y2)]], (x2, y2), st.bg⟩ ∧ Keep w7 w' (fun k => r ≤ k)) := Lib.hid (add_any R7 (mkSg 4 [(x0, y0), (x1, y1), (x2, y2)]) SG.out PF.out)
          have KT : Hid (Keep w w7 (fun k => r ≤ k)) := Lib.hid (S4.out.keep.trans (K7.mono (fun x e => by omega)) (fun _ _ x => x))
          clear P1 P2 K7 R7 sq sq8 S4 SG
          go_wp2_with fail
          refine AD.out.mono ?_
          rintro e w9 ⟨rfl, hR9, hK9⟩
          have FIN : Hid (RK b0 r w9.heap.size w9 ws ⟨st.at_ + 2 * 3, st.p ++ [mkSg 4 [(x0, y0), (x1, y1), (x2, y2)]], (x2, y2), st.bg⟩ ∧ Keep w w9 (fun k => r ≤ k)) := Lib.hid ⟨hR9, KT.out.trans hK9 (fun _ _ x => x)⟩
          clear hR9 hK9 AD KT
          go_wp2
          go_ret
          exact ⟨by rw [GL.out] <;> rfl, by rw [GL.out]; exact FIN.out.1, FIN.out.2⟩
  | false =>
    simp only [Bool.false_eq_true, if_false, Prod.mk.injEq] at hfr
    obtain ⟨rfl, rfl⟩ := hfr
    have G0 : Hid (GS b0 r q w w2 ws st k (0, 0) 0 []) := Lib.hid (by
      refine ⟨(hq ▸ H.out.top).ext E2.out, ?_, HQ2.out, Keep.ofExt E2.out _, rfl, by simp, rfl, FR0.out, RQ.out, by have := HAT.out; have := HN.out; omega⟩
      rw [MK0.out]; exact HQ1.out)
    have ND0 := Lib.hid (ND.out _ G0.out.rk.iv)
    go_enter Tryd.func38, Tryd.ntmps38
    go_wp2_with fail
    refine ND0.out.mono ?_
    rintro e w3 ⟨rfl, hE3⟩
    have G3 := Lib.hid (G0.out.ext hE3)
    clear hE3 G0 ND0 hw2 E2 HQ1 HQ2 k3 k4 m0 m1 mz ml HR2 HR hq hnow
    go_wp2
    go_loopw [22] (fun t22 wr => ∃ (j : Nat) (acc : List Pt), j ≤ m ∧ t22 = .int .i64 (j : Int) ∧ Hid (GS b0 r q w wr ws st k (0, 0) j acc)) (fun t22 _ => m - (intOf t22).toNat)
    case atStart => exact ⟨0, [], by omega, rfl, G3⟩
    case round =>
      obtain ⟨j, acc, hj, rfl, ST⟩ := hrel
      by_cases hlt : j < m
      · have hlt' : (j : Int) < (m : Int) := by omega
        have ATL : Hid (st.at_ + 2 * j ≤ ws.length) := Lib.hid ST.out.le
        have f0 : wr.cell? ⟨q + 1, 0, none⟩ = some (.int .i64 (0)) := (heap_cell ST.out.fq 0).trans rfl
        have N1 := Lib.hid (num_any ST.out.rk W.out ATL.out (0) ST.out.frr.1)
        have T1 : Hid (GT b0 r q w wr ws st k (0, 0) j acc (st.at_ + 2 * j)) := Lib.hid ⟨ST.out.rk, ST.out.sq, ST.out.fq, ST.out.keep⟩
        obtain ⟨v1, e1, hv1⟩ : ∃ v e, num1 ws (st.at_ + 2 * j) (0) = (v, e) := ⟨_, _, rfl⟩
        have HV1 := Lib.hid hv1
        rw [hv1] at N1
        dsimp only at N1
        clear hv1
        go_wp2_with fail
        refine N1.out.mono ?_
        rintro e w4 ⟨rfl, hR4, hK4⟩
        by_cases he1 : e1 = 0
        · subst he1
          rw [stN_0] at hR4
          have T2 : Hid (GT b0 r q w w4 ws st k (0, 0) j acc (st.at_ + 2 * j + 1)) := Lib.hid (T1.out.num RQ.out hR4 hK4)
          clear hR4 hK4 N1 T1 f0
          have AT1 : Hid (st.at_ + 2 * j + 1 ≤ ws.length) := Lib.hid (by
            rcases num1_or ws (st.at_ + 2 * j) (0) with ⟨_, h2, _⟩ | ⟨h1, _⟩
            · omega
            · rw [HV1.out] at h1; exact absurd rfl h1)
          have f1 : w4.cell? ⟨q + 1, 1, none⟩ = some (.int .i64 (0)) := (heap_cell T2.out.fq 1).trans rfl
          have N2 := Lib.hid (num_any T2.out.rk W.out AT1.out (0) ST.out.frr.2)
          obtain ⟨v2, e2, hv2⟩ : ∃ v e, num1 ws (st.at_ + 2 * j + 1) (0) = (v, e) := ⟨_, _, rfl⟩
          have HV2 := Lib.hid hv2
          rw [hv2] at N2
          dsimp only at N2
          clear hv2
          go_wp2_with fail
          refine N2.out.mono ?_
          rintro e w5 ⟨rfl, hR5, hK5⟩
          by_cases he2 : e2 = 0
          · subst he2
            rw [stN_0] at hR5
            have T3 : Hid (GT b0 r q w w5 ws st k (0, 0) j acc (st.at_ + 2 * (j + 1))) := Lib.hid (T2.out.num RQ.out hR5 hK5)
            clear hR5 hK5 N2 T2 f1
            have V1 : Hid (inR v1 ∧ inR v2 ∧ st.at_ + 2 * (j + 1) ≤ ws.length) := Lib.hid (by
              rcases num1_or ws (st.at_ + 2 * j) (0) with ⟨_, _, h3⟩ | ⟨h1, _⟩
              · rcases num1_or ws (st.at_ + 2 * j + 1) (0) with ⟨_, g2, g3⟩ | ⟨g1, _⟩
                · rw [HV1.out] at h3; rw [HV2.out] at g3; exact ⟨h3, g3, by omega⟩
                · rw [HV2.out] at g1; exact absurd rfl g1
              · rw [HV1.out] at h1; exact absurd rfl h1)
            have NR : Hid (ptsL ws (0, 0) (needL k - (j + 1)) (st.at_ + 2 * (j + 1)) (acc ++ [(v1, v2)]) = ptsL ws (0, 0) (needL k) st.at_ []) := Lib.hid (by
              have h0 := ST.out.rest
              have en : needL k - j = (needL k - (j + 1)) + 1 := by rw [HM.out]; omega
              rw [en, pts_next HV1.out HV2.out] at h0
              exact h0)
            have RM : Hid (∀ x ∈ acc ++ [(v1, v2)], inP x) := Lib.hid (by
              intro x hx
              rcases List.mem_append.1 hx with hx | hx
              · exact ST.out.room x hx
              · simp at hx; subst hx; exact ⟨V1.out.1, V1.out.2.1⟩)
            have hlen := ST.out.len
            have FR := Lib.hid ST.out.frr
            clear ST HV1 HV2 ATL AT1
            have hsq := T3.out.sq
            have SQ := Lib.hid hsq
            have ql := heap_lt hsq
            have fz : ∀ i, w5.frozen? ⟨q, i, none⟩ = false := fun i => heap_thaw hsq i
            rcases (show j = 0 ∨ j = 1 ∨ j = 2 by omega) with rfl | rfl | rfl
            · obtain rfl : acc = [] := List.eq_nil_of_length_eq_zero hlen
              have s1 : w5.cell? ⟨q, 1, none⟩ = some (.int .i64 0) := (heap_cell hsq 1).trans rfl
              have s2 : w5.cell? ⟨q, 2, none⟩ = some (.int .i64 0) := (heap_cell hsq 2).trans rfl
              have NX : Hid (GS b0 r q w ((w5.setCell ⟨q, 1, none⟩ (.int .i64 v1)).setCell ⟨q, 2, none⟩ (.int .i64 v2)) ws st k (0, 0) 1 [(v1, v2)]) := Lib.hid (T3.out.next RQ.out 1 2 v1 v2 rfl rfl RM.out NR.out FR.out V1.out.2.2)
              clear hsq SQ NR RM T3 FR
              go_wp2
              go_roundw
              case rel => exact ⟨1, _, by omega, by go_num, NX⟩
              case measure => simp [intOf]; omega
            · obtain ⟨a, rfl⟩ := list1 hlen
              have s1 : w5.cell? ⟨q, 3, none⟩ = some (.int .i64 0) := (heap_cell hsq 3).trans rfl
              have s2 : w5.cell? ⟨q, 4, none⟩ = some (.int .i64 0) := (heap_cell hsq 4).trans rfl
              have NX : Hid (GS b0 r q w ((w5.setCell ⟨q, 3, none⟩ (.int .i64 v1)).setCell ⟨q, 4, none⟩ (.int .i64 v2)) ws st k (0, 0) 2 ([a] ++ [(v1, v2)])) := Lib.hid (T3.out.next RQ.out 3 4 v1 v2 rfl rfl RM.out NR.out FR.out V1.out.2.2)
              clear hsq SQ NR RM T3 FR
              go_wp2
              go_roundw
              case rel => exact ⟨2, _, by omega, by go_num, NX⟩
              case measure => simp [intOf]; omega
            · obtain ⟨a, b, rfl⟩ := list2 hlen
              have s1 : w5.cell? ⟨q, 5, none⟩ = some (.int .i64 0) := (heap_cell hsq 5).trans rfl
              have s2 : w5.cell? ⟨q, 6, none⟩ = some (.int .i64 0) := (heap_cell hsq 6).trans rfl
              have NX : Hid (GS b0 r q w ((w5.setCell ⟨q, 5, none⟩ (.int .i64 v1)).setCell ⟨q, 6, none⟩ (.int .i64 v2)) ws st k (0, 0) 3 ([a, b] ++ [(v1, v2)])) := Lib.hid (T3.out.next RQ.out 5 6 v1 v2 rfl rfl RM.out NR.out FR.out V1.out.2.2)
              clear hsq SQ NR RM T3 FR
              go_wp2
              go_roundw
              case rel => exact ⟨3, _, by omega, by go_num, NX⟩
              case measure => simp [intOf]; omega
          · have hne : (e2 == 0) = false := by simpa using he2
            have GL : Hid (groupL ws k false st = (e2, { st with at_ := st.at_ + 2 * j + 1 })) := Lib.hid (group_of_fail HFR.out (by
              rw [← ST.out.rest, show needL k - j = (m - j - 1) + 1 by rw [HM.out]; omega]
              exact pts_fail2 HV1.out HV2.out he2) he2)
            rw [stN_n _ he2] at hR5
            have FIN : Hid (RK b0 r w5.heap.size w5 ws { st with at_ := st.at_ + 2 * j + 1 } ∧ Keep w w5 (fun k => r ≤ k)) := Lib.hid ⟨hR5.top, T2.out.keep.trans (hK5.mono (fun x e => by omega)) (fun _ _ x => x)⟩
            clear hR5 hK5 N2 T2 f1 ST HV1 HV2
            go_wp2
            go_ret
            exact ⟨by rw [GL.out] <;> rfl, by rw [GL.out]; exact FIN.out.1, FIN.out.2⟩
        · have hne : (e1 == 0) = false := by simpa using he1
          have GL : Hid (groupL ws k false st = (e1, { st with at_ := st.at_ + 2 * j })) := Lib.hid (group_of_fail HFR.out (by
            rw [← ST.out.rest, show needL k - j = (m - j - 1) + 1 by rw [HM.out]; omega]
            exact pts_fail1 HV1.out he1) he1)
          rw [stN_n _ he1] at hR4
          have FIN : Hid (RK b0 r w4.heap.size w4 ws { st with at_ := st.at_ + 2 * j } ∧ Keep w w4 (fun k => r ≤ k)) := Lib.hid ⟨hR4.top, T1.out.keep.trans (hK4.mono (fun x e => by omega)) (fun _ _ x => x)⟩
          clear hR4 hK4 N1 T1 f0 ST HV1
          go_wp2
          go_ret
          exact ⟨by rw [GL.out] <;> rfl, by rw [GL.out]; exact FIN.out.1, FIN.out.2⟩
      · have hlt' : ¬ (j : Int) < (m : Int) := by omega
        obtain rfl : j = m := by omega
        have GL : Hid (groupL ws k false st = (0, ⟨st.at_ + 2 * j, st.p ++ [mkSg k acc], lastP acc, if k = 1 then lastP acc else st.bg⟩)) := Lib.hid (group_of_ok HFR.out (by
          rw [← ST.out.rest, show needL k - j = 0 by rw [HM.out]; omega]; rfl))
        have GLEN : Hid (acc.length = needL k) := Lib.hid (by rw [HM.out]; exact ST.out.len)
        have GROOM := Lib.hid ST.out.room
        have SG : Hid (sgR.ok (mkSg k acc)) := Lib.hid (mk_i64 (by have := HK.out; constructor <;> omega) ST.out.room)
        have ND1 := Lib.hid (ND.out _ ST.out.rk.iv)
        have S0 : Hid (GT b0 r q w wr ws st k (0, 0) j acc (st.at_ + 2 * j)) := Lib.hid ⟨ST.out.rk, ST.out.sq, ST.out.fq, ST.out.keep⟩
        have PF : Hid (st.p.length ≤ 4000) := Lib.hid (by have := OK.out.few; have := OK.out.le; have := HN.out; omega)
        clear ST
        go_wp2_with fail
        refine ND1.out.mono ?_
        rintro e w4 ⟨rfl, hE4⟩
        have S4 : Hid (GT b0 r q w w4 ws st k (0, 0) j acc (st.at_ + 2 * j)) := Lib.hid (S0.out.ext hE4)
        clear hE4 S0 ND1
        have hgl := GLEN.out
        have hm2 := HM.out
        have hk2 := HK.out
        have sq := S4.out.sq
        rcases (show k = 1 ∨ k = 2 ∨ k = 3 ∨ k = 4 by omega) with rfl | rfl | rfl | rfl
        · obtain rfl : j = 1 := by rw [← hm2]; rfl
          obtain ⟨z0, rfl⟩ := list1 hgl
          obtain ⟨x0, y0⟩ := z0
          have s1 : w4.cell? ⟨q, 1, none⟩ = some (.int .i64 x0) := (heap_cell sq 1).trans rfl
          have s2 : w4.cell? ⟨q, 2, none⟩ = some (.int .i64 y0) := (heap_cell sq 2).trans rfl
          obtain ⟨A4, c4, A4', c4', -, -, -, t3, t4, t5, t6, tz, -, -⟩ := S4.out.rk.cells
          have rl := S4.out.rk.lt
          obtain ⟨w7, hw7⟩ : ∃ w7, (w4.setCell ⟨r, 3, none⟩ (.int .i64 x0)).setCell ⟨r, 4, none⟩ (.int .i64 y0) = w7 := ⟨_, rfl⟩
          have P1 := S4.out.rk.put ⟨st.at_ + 2 * 1, st.p, (x0, st.now.2), st.bg⟩ 3 (.int .i64 x0) rfl (fun W P => rfl)
          have P2 := P1.1.put ⟨st.at_ + 2 * 1, st.p, (x0, y0), st.bg⟩ 4 (.int .i64 y0) rfl (fun W P => rfl)
          rw [hw7] at P2
          have K7 : Keep w4 w7 (fun k => k = r) := P1.2.trans P2.2 (fun _ _ x => x)
          have R7 := P2.1
          obtain ⟨A7, c7, A7', c7', -, -, -, u3, u4, u5, u6, uz, -, -⟩ := R7.cells
          have rl7 := R7.lt
          obtain ⟨w8, hw8⟩ : ∃ w8, (w7.setCell ⟨r, 5, none⟩ (.int .i64 x0)).setCell ⟨r, 6, none⟩ (.int .i64 y0) = w8 := ⟨_, rfl⟩
          have P3 := R7.put ⟨st.at_ + 2 * 1, st.p, (x0, y0), (x0, st.bg.2)⟩ 5 (.int .i64 x0) rfl (fun W P => rfl)
          have P4 := P3.1.put ⟨st.at_ + 2 * 1, st.p, (x0, y0), (x0, y0)⟩ 6 (.int .i64 y0) rfl (fun W P => rfl)
          rw [hw8] at P4
          have K8 : Keep w4 w8 (fun k => k = r) := K7.trans (P3.2.trans P4.2 (fun _ _ x => x)) (fun _ _ x => x)
          have R8 := P4.1
          have sq8 : w8.heap[q]? = some (.cells #[.int .i64 1, .int .i64 x0, .int .i64 y0, .int .i64 0, .int .i64 0, .int .i64 0, .int .i64 0] 42 (0, 0)) := by rw [K8.block q (heap_lt sq) (by have := RQ.out; omega), sq]; rfl
          have v0 : w8.cell? ⟨q, 0, none⟩ = some (.int .i64 1) := (heap_cell sq8 0).trans rfl
          have v1 : w8.cell? ⟨q, 1, none⟩ = some (.int .i64 x0) := (heap_cell sq8 1).trans rfl
          have v2 : w8.cell? ⟨q, 2, none⟩ = some (.int .i64 y0) := (heap_cell sq8 2).trans rfl
          have v3 : w8.cell? ⟨q, 3, none⟩ = some (.int .i64 0) := (heap_cell sq8 3).trans rfl
          have v4 : w8.cell? ⟨q, 4, none⟩ = some (.int .i64 0) := (heap_cell sq8 4).trans rfl
          have v5 : w8.cell? ⟨q, 5, none⟩ = some (.int .i64 0) := (heap_cell sq8 5).trans rfl
          have v6 : w8.cell? ⟨q, 6, none⟩ = some (.int .i64 0) := (heap_cell sq8 6).trans rfl
          have AD : Hid (Calls Tryd.prog 37 #[.pointer (some ⟨r, 0, none⟩), .agg #[.int .i64 1, .int .i64 x0, .int .i64 y0, .int .i64 0, .int .i64 0, .int .i64 0, .int .i64 0]] w8 fun e w' => e = .returned (.int .i64 0) ∧ RK b0 r w'.heap.size w' ws ⟨st.at_ + 2 * 1, st.p ++ [mkSg 1 [(x0, y0)]], (x0, y0), (x0, y0)⟩ ∧ Keep w8 w' (fun k => r ≤ k)) := Lib.hid (add_any R8 (mkSg 1 [(x0, y0)]) SG.out PF.out)
          have KT : Hid (Keep w w8 (fun k => r ≤ k)) := Lib.hid (S4.out.keep.trans (K8.mono (fun x e => by omega)) (fun _ _ x => x))
          clear P1 P2 K7 R7 sq sq8 P3 P4 K8 R8 S4 SG
          go_wp2_with fail
          refine AD.out.mono ?_
          rintro e w9 ⟨rfl, hR9, hK9⟩
          have FIN : Hid (RK b0 r w9.heap.size w9 ws ⟨st.at_ + 2 * 1, st.p ++ [mkSg 1 [(x0, y0)]], (x0, y0), (x0, y0)⟩ ∧ Keep w w9 (fun k => r ≤ k)) := Lib.hid ⟨hR9, KT.out.trans hK9 (fun _ _ x => x)⟩
          clear hR9 hK9 AD KT
          go_wp2
          go_ret
          exact ⟨by rw [GL.out] <;> rfl, by rw [GL.out]; exact FIN.out.1, FIN.out.2⟩
        · obtain rfl : j = 1 := by rw [← hm2]; rfl
          obtain ⟨z0, rfl⟩ := list1 hgl
          obtain ⟨x0, y0⟩ := z0
          have s1 : w4.cell? ⟨q, 1, none⟩ = some (.int .i64 x0) := (heap_cell sq 1).trans rfl
          have s2 : w4.cell? ⟨q, 2, none⟩ = some (.int .i64 y0) := (heap_cell sq 2).trans rfl
          obtain ⟨A4, c4, A4', c4', -, -, -, t3, t4, t5, t6, tz, -, -⟩ := S4.out.rk.cells
          have rl := S4.out.rk.lt
          obtain ⟨w7, hw7⟩ : ∃ w7, (w4.setCell ⟨r, 3, none⟩ (.int .i64 x0)).setCell ⟨r, 4, none⟩ (.int .i64 y0) = w7 := ⟨_, rfl⟩
          have P1 := S4.out.rk.put ⟨st.at_ + 2 * 1, st.p, (x0, st.now.2), st.bg⟩ 3 (.int .i64 x0) rfl (fun W P => rfl)
          have P2 := P1.1.put ⟨st.at_ + 2 * 1, st.p, (x0, y0), st.bg⟩ 4 (.int .i64 y0) rfl (fun W P => rfl)
          rw [hw7] at P2
          have K7 : Keep w4 w7 (fun k => k = r) := P1.2.trans P2.2 (fun _ _ x => x)
          have R7 := P2.1
          have sq8 : w7.heap[q]? = some (.cells #[.int .i64 2, .int .i64 x0, .int .i64 y0, .int .i64 0, .int .i64 0, .int .i64 0, .int .i64 0] 42 (0, 0)) := by rw [K7.block q (heap_lt sq) (by have := RQ.out; omega), sq]; rfl
          have v0 : w7.cell? ⟨q, 0, none⟩ = some (.int .i64 2) := (heap_cell sq8 0).trans rfl
          have v1 : w7.cell? ⟨q, 1, none⟩ = some (.int .i64 x0) := (heap_cell sq8 1).trans rfl
          have v2 : w7.cell? ⟨q, 2, none⟩ = some (.int .i64 y0) := (heap_cell sq8 2).trans rfl
          have v3 : w7.cell? ⟨q, 3, none⟩ = some (.int .i64 0) := (heap_cell sq8 3).trans rfl
          have v4 : w7.cell? ⟨q, 4, none⟩ = some (.int .i64 0) := (heap_cell sq8 4).trans rfl
          have v5 : w7.cell? ⟨q, 5, none⟩ = some (.int .i64 0) := (heap_cell sq8 5).trans rfl
          have v6 : w7.cell? ⟨q, 6, none⟩ = some (.int .i64 0) := (heap_cell sq8 6).trans rfl
          have AD : Hid (Calls Tryd.prog 37 #[.pointer (some ⟨r, 0, none⟩), .agg #[.int .i64 2, .int .i64 x0, .int .i64 y0, .int .i64 0, .int .i64 0, .int .i64 0, .int .i64 0]] w7 fun e w' => e = .returned (.int .i64 0) ∧ RK b0 r w'.heap.size w' ws ⟨st.at_ + 2 * 1, st.p ++ [mkSg 2 [(x0, y0)]], (x0, y0), st.bg⟩ ∧ Keep w7 w' (fun k => r ≤ k)) := Lib.hid (add_any R7 (mkSg 2 [(x0, y0)]) SG.out PF.out)
          have KT : Hid (Keep w w7 (fun k => r ≤ k)) := Lib.hid (S4.out.keep.trans (K7.mono (fun x e => by omega)) (fun _ _ x => x))
          clear P1 P2 K7 R7 sq sq8 S4 SG
          go_wp2_with fail
          refine AD.out.mono ?_
          rintro e w9 ⟨rfl, hR9, hK9⟩
          have FIN : Hid (RK b0 r w9.heap.size w9 ws ⟨st.at_ + 2 * 1, st.p ++ [mkSg 2 [(x0, y0)]], (x0, y0), st.bg⟩ ∧ Keep w w9 (fun k => r ≤ k)) := Lib.hid ⟨hR9, KT.out.trans hK9 (fun _ _ x => x)⟩
          clear hR9 hK9 AD KT
          go_wp2
          go_ret
          exact ⟨by rw [GL.out] <;> rfl, by rw [GL.out]; exact FIN.out.1, FIN.out.2⟩
        · obtain rfl : j = 2 := by rw [← hm2]; rfl
          obtain ⟨z0, z1, rfl⟩ := list2 hgl
          obtain ⟨x0, y0⟩ := z0
          obtain ⟨x1, y1⟩ := z1
          have s1 : w4.cell? ⟨q, 3, none⟩ = some (.int .i64 x1) := (heap_cell sq 3).trans rfl
          have s2 : w4.cell? ⟨q, 4, none⟩ = some (.int .i64 y1) := (heap_cell sq 4).trans rfl
          obtain ⟨A4, c4, A4', c4', -, -, -, t3, t4, t5, t6, tz, -, -⟩ := S4.out.rk.cells
          have rl := S4.out.rk.lt
          obtain ⟨w7, hw7⟩ : ∃ w7, (w4.setCell ⟨r, 3, none⟩ (.int .i64 x1)).setCell ⟨r, 4, none⟩ (.int .i64 y1) = w7 := ⟨_, rfl⟩
          have P1 := S4.out.rk.put ⟨st.at_ + 2 * 2, st.p, (x1, st.now.2), st.bg⟩ 3 (.int .i64 x1) rfl (fun W P => rfl)
          have P2 := P1.1.put ⟨st.at_ + 2 * 2, st.p, (x1, y1), st.bg⟩ 4 (.int .i64 y1) rfl (fun W P => rfl)
          rw [hw7] at P2
          have K7 : Keep w4 w7 (fun k => k = r) := P1.2.trans P2.2 (fun _ _ x => x)
          have R7 := P2.1
          have sq8 : w7.heap[q]? = some (.cells #[.int .i64 3, .int .i64 x0, .int .i64 y0, .int .i64 x1, .int .i64 y1, .int .i64 0, .int .i64 0] 42 (0, 0)) := by rw [K7.block q (heap_lt sq) (by have := RQ.out; omega), sq]; rfl
          have v0 : w7.cell? ⟨q, 0, none⟩ = some (.int .i64 3) := (heap_cell sq8 0).trans rfl
          have v1 : w7.cell? ⟨q, 1, none⟩ = some (.int .i64 x0) := (heap_cell sq8 1).trans rfl
          have v2 : w7.cell? ⟨q, 2, none⟩ = some (.int .i64 y0) := (heap_cell sq8 2).trans rfl
          have v3 : w7.cell? ⟨q, 3, none⟩ = some (.int .i64 x1) := (heap_cell sq8 3).trans rfl
          have v4 : w7.cell? ⟨q, 4, none⟩ = some (.int .i64 y1) := (heap_cell sq8 4).trans rfl
          have v5 : w7.cell? ⟨q, 5, none⟩ = some (.int .i64 0) := (heap_cell sq8 5).trans rfl
          have v6 : w7.cell? ⟨q, 6, none⟩ = some (.int .i64 0) := (heap_cell sq8 6).trans rfl
          have AD : Hid (Calls Tryd.prog 37 #[.pointer (some ⟨r, 0, none⟩), .agg #[.int .i64 3, .int .i64 x0, .int .i64 y0, .int .i64 x1, .int .i64 y1, .int .i64 0, .int .i64 0]] w7 fun e w' => e = .returned (.int .i64 0) ∧ RK b0 r w'.heap.size w' ws ⟨st.at_ + 2 * 2, st.p ++ [mkSg 3 [(x0, y0), (x1, y1)]], (x1, y1), st.bg⟩ ∧ Keep w7 w' (fun k => r ≤ k)) := Lib.hid (add_any R7 (mkSg 3 [(x0, y0), (x1, y1)]) SG.out PF.out)
          have KT : Hid (Keep w w7 (fun k => r ≤ k)) := Lib.hid (S4.out.keep.trans (K7.mono (fun x e => by omega)) (fun _ _ x => x))
          clear P1 P2 K7 R7 sq sq8 S4 SG
          go_wp2_with fail
          refine AD.out.mono ?_
          rintro e w9 ⟨rfl, hR9, hK9⟩
          have FIN : Hid (RK b0 r w9.heap.size w9 ws ⟨st.at_ + 2 * 2, st.p ++ [mkSg 3 [(x0, y0), (x1, y1)]], (x1, y1), st.bg⟩ ∧ Keep w w9 (fun k => r ≤ k)) := Lib.hid ⟨hR9, KT.out.trans hK9 (fun _ _ x => x)⟩
          clear hR9 hK9 AD KT
          go_wp2
          go_ret
          exact ⟨by rw [GL.out] <;> rfl, by rw [GL.out]; exact FIN.out.1, FIN.out.2⟩
        · obtain rfl : j = 3 := by rw [← hm2]; rfl
          obtain ⟨z0, z1, z2, rfl⟩ := list3 hgl
          obtain ⟨x0, y0⟩ := z0
          obtain ⟨x1, y1⟩ := z1
          obtain ⟨x2, y2⟩ := z2
          have s1 : w4.cell? ⟨q, 5, none⟩ = some (.int .i64 x2) := (heap_cell sq 5).trans rfl
          have s2 : w4.cell? ⟨q, 6, none⟩ = some (.int .i64 y2) := (heap_cell sq 6).trans rfl
          obtain ⟨A4, c4, A4', c4', -, -, -, t3, t4, t5, t6, tz, -, -⟩ := S4.out.rk.cells
          have rl := S4.out.rk.lt
          obtain ⟨w7, hw7⟩ : ∃ w7, (w4.setCell ⟨r, 3, none⟩ (.int .i64 x2)).setCell ⟨r, 4, none⟩ (.int .i64 y2) = w7 := ⟨_, rfl⟩
          have P1 := S4.out.rk.put ⟨st.at_ + 2 * 3, st.p, (x2, st.now.2), st.bg⟩ 3 (.int .i64 x2) rfl (fun W P => rfl)
          have P2 := P1.1.put ⟨st.at_ + 2 * 3, st.p, (x2, y2), st.bg⟩ 4 (.int .i64 y2) rfl (fun W P => rfl)
          rw [hw7] at P2
          have K7 : Keep w4 w7 (fun k => k = r) := P1.2.trans P2.2 (fun _ _ x => x)
          have R7 := P2.1
          have sq8 : w7.heap[q]? = some (.cells #[.int .i64 4, .int .i64 x0, .int .i64 y0, .int .i64 x1, .int .i64 y1, .int .i64 x2, .int .i64 y2] 42 (0, 0)) := by rw [K7.block q (heap_lt sq) (by have := RQ.out; omega), sq]; rfl
          have v0 : w7.cell? ⟨q, 0, none⟩ = some (.int .i64 4) := (heap_cell sq8 0).trans rfl
          have v1 : w7.cell? ⟨q, 1, none⟩ = some (.int .i64 x0) := (heap_cell sq8 1).trans rfl
          have v2 : w7.cell? ⟨q, 2, none⟩ = some (.int .i64 y0) := (heap_cell sq8 2).trans rfl
          have v3 : w7.cell? ⟨q, 3, none⟩ = some (.int .i64 x1) := (heap_cell sq8 3).trans rfl
          have v4 : w7.cell? ⟨q, 4, none⟩ = some (.int .i64 y1) := (heap_cell sq8 4).trans rfl
          have v5 : w7.cell? ⟨q, 5, none⟩ = some (.int .i64 x2) := (heap_cell sq8 5).trans rfl
          have v6 : w7.cell? ⟨q, 6, none⟩ = some (.int .i64 y2) := (heap_cell sq8 6).trans rfl
          have AD : Hid (Calls Tryd.prog 37 #[.pointer (some ⟨r, 0, none⟩), .agg #[.int .i64 4, .int .i64 x0, .int .i64 y0, .int .i64 x1, .int .i64 y1, .int .i64 x2, .int .i64 y2]] w7 fun e w' => e = .returned (.int .i64 0) ∧ RK b0 r w'.heap.size w' ws ⟨st.at_ + 2 * 3, st.p ++ [mkSg 4 [(x0, y0), (x1, y1), (x2, y2)]], (x2, y2), st.bg⟩ ∧ Keep w7 w' (fun k => r ≤ k)) := Lib.hid (add_any R7 (mkSg 4 [(x0, y0), (x1, y1), (x2, y2)]) SG.out PF.out)
          have KT : Hid (Keep w w7 (fun k => r ≤ k)) := Lib.hid (S4.out.keep.trans (K7.mono (fun x e => by omega)) (fun _ _ x => x))
          clear P1 P2 K7 R7 sq sq8 S4 SG
          go_wp2_with fail
          refine AD.out.mono ?_
          rintro e w9 ⟨rfl, hR9, hK9⟩
          have FIN : Hid (RK b0 r w9.heap.size w9 ws ⟨st.at_ + 2 * 3, st.p ++ [mkSg 4 [(x0, y0), (x1, y1), (x2, y2)]], (x2, y2), st.bg⟩ ∧ Keep w w9 (fun k => r ≤ k)) := Lib.hid ⟨hR9, KT.out.trans hK9 (fun _ _ x => x)⟩
          clear hR9 hK9 AD KT
          go_wp2
          go_ret
          exact ⟨by rw [GL.out] <;> rfl, by rw [GL.out]; exact FIN.out.1, FIN.out.2⟩
end Go.Proofs.YtakebbphielbfaaDoor
