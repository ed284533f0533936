import Derived.Test.YtobnbdoehobigaaDoorRScan
namespace Go.Proofs.YtobnbdoehobigaaDoor
open Go.RowKit Go.Shelf
set_option linter.unusedVariables false
set_option linter.unusedSimpArgs false

theorem flat3 : ∀ (rs : List Rec) (i j : Nat) (r : Rec), rs[i]? = some r → j < 3 → (rs.flatMap recCells)[i * 3 + j]? = (recCells r)[j]? := by
  intro rs
  induction rs with
  | nil => intro i j r h; simp at h
  | cons x rs ih =>
    intro i j r h hj
    cases i with
    | zero =>
      simp at h; subst h
      rw [List.flatMap_cons, List.getElem?_append_left (by simp [recCells]; omega)]
      simp
    | succ i =>
      rw [List.flatMap_cons, List.getElem?_append_right (by simp [recCells]; omega)]
      have := ih i j r (by simpa using h) hj
      rw [← this]
      congr 1
      simp [recCells]
      omega

theorem recs_at {B : Nat} {W : World} {v : Value} {rs : List Rec} (h : Recs B W v rs) {i : Nat} (hi : i < rs.length) :
    ∃ g cap q k A n c d, v = .slice (some ⟨g, 0, none⟩) rs.length cap ∧ g < W.heap.size ∧ (rs.map recPure)[i]? = some (q, k, d) ∧ W.cell? ⟨g, i * 3, none⟩ = some (.int .i64 q) ∧ W.cell? ⟨g, i * 3 + 1, none⟩ = some (.int .i64 (k : Int)) ∧ W.cell? ⟨g, i * 3 + 2, none⟩ = some (.slice A n c) ∧ Bytes W (.slice A n c) d := by
  obtain ⟨hrow, hdata⟩ := h
  obtain ⟨r, hr⟩ : ∃ r, rs[i]? = some r := ⟨rs[i], by simp [hi]⟩
  obtain ⟨A, n, c, e, hB, _⟩ := hdata r (List.mem_of_getElem? hr)
  obtain ⟨m, hm⟩ : ∃ m, rs.length = m + 1 := ⟨rs.length - 1, by omega⟩
  rw [hm] at hrow
  obtain ⟨g, cap, rfl⟩ := ownsRow_succ hrow
  have hl : (rs.flatMap recCells).length = (m + 1) * 3 := by
    rw [← hm]
    clear hrow hdata hi hm hr
    induction rs with
    | nil => rfl
    | cons x rs ih => rw [List.flatMap_cons, List.length_append, ih]; simp [recCells]; omega
  have cell : ∀ j, j < 3 → W.cell? ⟨g, i * 3 + j, none⟩ = (recCells r)[j]? := fun j hj => by
    rw [hrow.cellAt _ (by omega)]
    exact flat3 rs i j r hr hj
  have c0 := cell 0 (by omega)
  have c1 := cell 1 (by omega)
  have c2 := cell 2 (by omega)
  refine ⟨g, cap, r.1, r.2.1, A, n, c, r.2.2.2, by rw [hm], World.block_lt_of_cell? _ _ c0, ?_, by simpa [recCells] using c0, by simpa [recCells] using c1, by simpa [recCells, e] using c2, hB⟩
  rw [List.getElem?_map, hr]; rfl

theorem rrecs_at {B : Nat} {W : World} {v : Value} {rs : List Rec} (h : RRecs B W v rs) {i : Nat} (hi : i < rs.length) :
    ∃ g cap q k A n c d, v = .slice (some ⟨g, 0, none⟩) rs.length cap ∧ g < W.heap.size ∧ (rs.map recPure)[i]? = some (q, k, d) ∧ W.cell? ⟨g, i * 3, none⟩ = some (.int .i64 q) ∧ W.cell? ⟨g, i * 3 + 1, none⟩ = some (.int .i64 (k : Int)) ∧ W.cell? ⟨g, i * 3 + 2, none⟩ = some (.slice A n c) ∧ Bytes W (.slice A n c) d := by
  obtain ⟨hrow, hdata⟩ := h
  obtain ⟨r, hr⟩ : ∃ r, rs[i]? = some r := ⟨rs[i], by simp [hi]⟩
  obtain ⟨A, n, c, e, hB, _⟩ := hdata r (List.mem_of_getElem? hr)
  obtain ⟨m, hm⟩ : ∃ m, rs.length = m + 1 := ⟨rs.length - 1, by omega⟩
  rw [hm] at hrow
  obtain ⟨g, cap, rfl⟩ := ownsRow_succ hrow
  have hl : (rs.flatMap recCells).length = (m + 1) * 3 := by
    rw [← hm]
    clear hrow hdata hi hm hr
    induction rs with
    | nil => rfl
    | cons x rs ih => rw [List.flatMap_cons, List.length_append, ih]; simp [recCells]; omega
  have cell : ∀ j, j < 3 → W.cell? ⟨g, i * 3 + j, none⟩ = (recCells r)[j]? := fun j hj => by
    rw [hrow.cellAt _ (by omega)]
    exact flat3 rs i j r hr hj
  have c0 := cell 0 (by omega)
  have c1 := cell 1 (by omega)
  have c2 := cell 2 (by omega)
  refine ⟨g, cap, r.1, r.2.1, A, n, c, r.2.2.2, by rw [hm], World.block_lt_of_cell? _ _ c0, ?_, by simpa [recCells] using c0, by simpa [recCells] using c1, by simpa [recCells, e] using c2, hB⟩
  rw [List.getElem?_map, hr]; rfl

theorem scanF_len (f : Nat) : ∀ (b : List Nat) (sq : Int), 17 * (scanF f b sq).1.length ≤ b.length := by
  induction f with
  | zero => intro b sq; simp [scanF]
  | succ f ih =>
    intro b sq
    cases ho : oneL b with
    | none => rw [scanF_none ho]; simp
    | some p =>
      obtain ⟨s, k, d⟩ := p
      by_cases hs : wrap64 (s : Int) < 0 ∨ wrap64 (s : Int) ≠ sq
      · rw [scanF_stop ho hs]; simp
      · rw [scanF_next ho hs]
        have h1 := ih (b.drop (d.length + 17)) (wrap64 (sq + 1))
        have h2 := one_len ho
        simp only [List.length_drop] at h1
        simp only [List.length_cons]
        omega

theorem own_slice {B e size : Nat} {W : World} {v : Value} {n : Nat} {xs : List Value} (h : W.ownsRow B e size v n xs) : ∃ A cap, v = .slice A n cap := by
  rcases h.2 with ⟨e, h0⟩ | ⟨_, _, _, e, _⟩
  · exact ⟨none, 0, by rw [e, h0]⟩
  · exact ⟨_, _, e⟩

set_option maxRecDepth 100000 in
set_option maxHeartbeats 6400000 in
theorem FrameScans_walk (v : Value) (b : List Nat) (seq : Int) (w : World) (hb : Bytes w v b) (h1 : -9223372036854775808 ≤ seq) (h2 : seq ≤ 9223372036854775807) (hT : Tab w) :
    Calls Tryd.prog 7 #[v, .int .i64 seq] w fun e w' => e = .returned (.bool true) ∧ Ext w w' := by
  have B := Lib.hid hb
  have T := Lib.hid hT
  clear hT
  obtain ⟨X, c, rfl, c2, c3, _⟩ := hb
  obtain ⟨N, hN⟩ : ∃ N, b.length = N := ⟨_, rfl⟩
  rw [hN] at c2 B
  rw [hN]
  have HN := Lib.hid hN
  clear hN
  have q1 := h1
  have q2 := h2
  by_cases hlen : 3000 < N
  · have hl : (3000 : Int) < (N : Int) := by omega
    go_enter Tryd.func7, Tryd.ntmps7
    go_wp2_with fail
    refine (awake_any _ T.out).mono ?_
    rintro e w' ⟨rfl, g, rfl⟩
    go_wp2
    go_ret
    exact ⟨rfl, g, rfl⟩
  · have hl : ¬ (3000 : Int) < (N : Int) := by omega
    go_enter Tryd.func7, Tryd.ntmps7
    go_wp2_with fail
    refine (scan_any _ b seq _ B.out T.out (by have := HN.out; omega) h1 h2).mono ?_
    rintro e w1 ⟨v1, rs1, e1, rfl, hR1, hE1, hs1⟩
    have R1 := Lib.hid hR1
    have E1 := Lib.hid hE1
    obtain ⟨A1, cap1, rfl⟩ := own_slice hR1.1
    have S1 := Lib.hid hs1
    clear hR1 hE1 hs1
    go_wp2_with fail
    refine (refScan_any _ b seq _ (B.out.ext E1.out) (by have := HN.out; omega) h1 h2).mono ?_
    rintro e w2 ⟨v2, rs2, e2, rfl, hR2, hE2, hs2⟩
    rw [S1.out] at hs2
    simp only [Prod.mk.injEq] at hs2
    obtain ⟨hs2, rfl⟩ := hs2
    have R1' := Lib.hid (R1.out.keep (Keep.ofExt hE2 (fun _ => False)) (fun _ _ h => h))
    have R2 := Lib.hid hR2
    obtain ⟨A2, cap2, rfl⟩ := own_slice hR2.1
    have E2 := Lib.hid (E1.out.trans hE2)
    have hll : rs1.length = rs2.length := by have := congrArg List.length hs2; simpa using this
    obtain ⟨M, hM⟩ : ∃ M, rs1.length = M := ⟨_, rfl⟩
    rw [hM] at hll
    rw [hM, ← hll]
    have HM := Lib.hid (And.intro hM hll)
    rw [hM] at R1'
    rw [← hll] at R2
    have S2 := Lib.hid hs2
    have hMb : M ≤ 3000 := by
      have h := scanF_len (b.length + 1) b seq
      rw [S1.out] at h
      simp at h
      have := HN.out; omega
    clear hs2 hR2 hE2 hll R1 hM S1
    go_wp2
    go_loopw [38] (fun t38 wr => ∃ i : Nat, i ≤ M ∧ t38 = .int .i64 i ∧ Ext w2 wr) (fun t38 _ => M - (intOf t38).toNat)
    case atStart => exact ⟨0, by omega, rfl, Ext.refl _⟩
    case round =>
      obtain ⟨i, hi, rfl, hE⟩ := hrel
      by_cases hlt : i < M
      · have hlt' : (i : Int) < (M : Int) := by omega
        obtain ⟨g1, p1, s, k, A3, n3, c3, d, e3, l3, m3, x0, x1, x2, x3⟩ := recs_at R1'.out (i := i) (by have := HM.out; omega)
        obtain ⟨g2, p2, s', k', A4, n4, c4, d', e4, l4, m4, y0, y1, y2, y3⟩ := rrecs_at R2.out (i := i) (by have := HM.out; omega)
        rw [S2.out, m4] at m3
        simp only [Option.some.injEq, Prod.mk.injEq] at m3
        obtain ⟨rfl, rfl, rfl⟩ := m3
        simp only [Value.slice.injEq] at e3 e4
        obtain ⟨rfl, _, rfl⟩ := e3
        obtain ⟨rfl, _, rfl⟩ := e4
        have hx : ∀ g, Ext w2 (wr.ext g) := fun g => hE.trans ⟨g, rfl⟩
        have u0 : ∀ g, (wr.ext g).cell? ⟨g1, i * 3, none⟩ = some (.int .i64 s') := fun g => ((hx g).cell l3).trans x0
        have u1 : ∀ g, (wr.ext g).cell? ⟨g1, i * 3 + 1, none⟩ = some (.int .i64 (k' : Int)) := fun g => ((hx g).cell l3).trans x1
        have u2 : ∀ g, (wr.ext g).cell? ⟨g1, i * 3 + 2, none⟩ = some (.slice A3 n3 c3) := fun g => ((hx g).cell l3).trans x2
        have u3 : ∀ g, (convert 22 9 (.slice A3 n3 c3)).run Tryd.prog (wr.ext g) = .ok (.string (strOf d')) (wr.ext g) := fun g => conv_bytes (x3.ext (hx g))
        have u4 : ∀ g, (wr.ext g).cell? ⟨g2, i * 3, none⟩ = some (.int .i64 s') := fun g => ((hx g).cell l4).trans y0
        have u5 : ∀ g, (wr.ext g).cell? ⟨g2, i * 3 + 1, none⟩ = some (.int .i64 (k' : Int)) := fun g => ((hx g).cell l4).trans y1
        have u6 : ∀ g, (wr.ext g).cell? ⟨g2, i * 3 + 2, none⟩ = some (.slice A4 n4 c4) := fun g => ((hx g).cell l4).trans y2
        have u7 : ∀ g, (convert 22 9 (.slice A4 n4 c4)).run Tryd.prog (wr.ext g) = .ok (.string (strOf d')) (wr.ext g) := fun g => conv_bytes (y3.ext (hx g))
        have HE := Lib.hid hE
        generalize strOf d' = SD at u3 u7
        clear x0 x1 x2 x3 y0 y1 y2 y3 m4 l3 l4 hx hE
        go_wp2
        refine region_flow 39 [] (fun t v => False) (fun t v w' => True) (by kernel_rfl) (by kernel_rfl) ?hq ?hu ?hR ?h
        case hq => intro t v h; exact h.elim
        case hu => intro t h; exact h
        case hR => intros; trivial
        case h =>
          dsimp only [List.take, List.drop]
          repeat (refine Flow.plain rfl rfl ?_; go_big_quiet_step (fail); refine wpQuiet_nil ?_)
          refine Flow.nil fun w3 hx3 hf => ?_
          clear hf
          go_wp2
          go_roundw
          case rel => exact ⟨i + 1, by omega, by go_num, HE.out.trans hx3⟩
          case measure => simp [intOf]; omega
      · have hlt' : ¬ (i : Int) < (M : Int) := by omega
        have HE := Lib.hid hE
        clear hE
        go_wp2_with fail
        refine (awake_any _ (T.out.ext (E2.out.trans HE.out))).mono ?_
        rintro e w' ⟨rfl, g, rfl⟩
        go_wp2
        go_ret
        exact ⟨rfl, (E2.out.trans HE.out).ext g⟩

end Go.Proofs.YtobnbdoehobigaaDoor
