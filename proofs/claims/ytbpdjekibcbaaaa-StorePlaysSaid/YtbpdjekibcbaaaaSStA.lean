import Derived.Test.YtbpdjekibcbaaaaSDec2
namespace Go.Proofs.Ytbpdjekibcbaaaa
open Go.RowKit
set_option linter.unusedVariables false
set_option linter.unusedSimpArgs false

structure Hd where
  gen : Nat
  half : Nat
  snap : Nat
  log : Nat

def stCells (D : Nat) (h : Hd) (A : Option Addr) (n cap : Nat) (dn : Bool) : Array Value :=
  #[.pointer (some ⟨D, 0, none⟩), .int .i64 (h.gen : Int), .int .i64 (h.half : Int), .int .i64 (h.snap : Int), .int .i64 (h.log : Int), .slice A n cap, .bool dn]
/-- a store's own block, and its bytes -/
structure StAt (base : Nat) (w : World) (s D : Nat) (h : Hd) (A : Option Addr) (n cap : Nat) (b : List Nat) (dn : Bool) : Prop where
  blk : w.heap[s]? = some (.cells (stCells D h A n cap dn) 71 (0, 0))
  lo : base ≤ s
  own : Own base w A n cap b

section
variable {base : Nat} {w w' : World} {s D : Nat} {h : Hd} {A : Option Addr} {n cap : Nat} {b : List Nat} {dn : Bool}
theorem StAt.lt (H : StAt base w s D h A n cap b dn) : s < w.heap.size := (Array.getElem?_eq_some_iff.1 H.blk).1
theorem StAt.ext (H : StAt base w s D h A n cap b dn) (he : Ext w w') : StAt base w' s D h A n cap b dn := ⟨he.heapAt H.blk, H.lo, H.own.ext he⟩
theorem StAt.cells (H : StAt base w s D h A n cap b dn) : w.cell? ⟨s, 0, none⟩ = some (.pointer (some ⟨D, 0, none⟩)) ∧ w.cell? ⟨s, 1, none⟩ = some (.int .i64 (h.gen : Int)) ∧ w.cell? ⟨s, 2, none⟩ = some (.int .i64 (h.half : Int)) ∧ w.cell? ⟨s, 3, none⟩ = some (.int .i64 (h.snap : Int)) ∧ w.cell? ⟨s, 4, none⟩ = some (.int .i64 (h.log : Int)) ∧ w.cell? ⟨s, 5, none⟩ = some (.slice A n cap) ∧ w.cell? ⟨s, 6, none⟩ = some (.bool dn) ∧ (∀ j, w.frozen? ⟨s, j, none⟩ = false) ∧ s < w.heap.size :=
  ⟨cell_of_row w s 0 _ _ (0, 0) H.blk, cell_of_row w s 1 _ _ (0, 0) H.blk, cell_of_row w s 2 _ _ (0, 0) H.blk, cell_of_row w s 3 _ _ (0, 0) H.blk, cell_of_row w s 4 _ _ (0, 0) H.blk, cell_of_row w s 5 _ _ (0, 0) H.blk, cell_of_row w s 6 _ _ (0, 0) H.blk, fun j => by simp [World.frozen?, H.blk], H.lt⟩
theorem Own.tch {base base' : Nat} (H : Own base w A n cap b) (hk : Keep w w' (Tch base' w)) : Own base w' A n cap b := by
  refine H.keep hk ?_
  rintro k hk ⟨_, c, t, f, hh, ht⟩
  obtain ⟨cur, hc⟩ := row_type H.2.1 hk
  have := type_ne hc hh
  subst this
  exact absurd ht (by decide)
theorem StAt.keep (H : StAt base w s D h A n cap b dn) (hk : Keep w w' (Tch base w)) : StAt base w' s D h A n cap b dn := by
  refine ⟨?_, H.lo, H.own.tch hk⟩
  rw [hk.block s H.lt ?_]
  · exact H.blk
  · rintro ⟨_, c, t, f, hh, ht⟩
    have := type_ne H.blk hh
    subst this
    exact absurd ht (by decide)
end

/-- the disk's cells -/
theorem DK.cells {base : Nat} {w : World} {D : Nat} {m : DM} (H : DK base w D m) : ∃ SA sc WA wc, w.cell? ⟨D, 0, none⟩ = some (.slice SA m.B.length sc) ∧ w.cell? ⟨D, 1, none⟩ = some (.int .i64 (m.sz : Int)) ∧ w.cell? ⟨D, 2, none⟩ = some (.slice WA m.W.length wc) ∧ D < w.heap.size := by
  obtain ⟨SA, sc, WA, wc, RA, rc, S, h1, rfl⟩ := H
  refine ⟨SA, sc, WA, wc, ?_, h1.cell 1, ?_, h1.lt⟩
  · rw [h1.cell 0]; simp [fields, DS.m, DS.bytes]
  · rw [h1.cell 2]; simp [fields, DS.m, DS.wbytes]

def DM.hs (m : DM) : Nat := (m.B.length - 2) / 2
def DM.cap (m : DM) : Nat := if m.B.length < 4 ∨ m.sz < 32 then 0 else m.hs * m.sz

set_option maxRecDepth 100000
set_option maxHeartbeats 1600000

theorem sectors_any {base : Nat} {w : World} {D : Nat} {m : DM} (H : DK base w D m) : Calls Try.prog 29 #[.pointer (some ⟨D, 0, none⟩)] w fun e w' => e = .returned (.int .i64 (m.B.length : Int)) ∧ Ext w w' := by
  obtain ⟨SA, sc, WA, wc, c0, c1, c2, hl⟩ := H.cells
  clear H
  go_enter Try.func29, Try.ntmps29
  go_wp2
  go_ret
  exact ⟨rfl, Ext.refl w⟩
theorem dsize_any {base : Nat} {w : World} {D : Nat} {m : DM} (H : DK base w D m) : Calls Try.prog 30 #[.pointer (some ⟨D, 0, none⟩)] w fun e w' => e = .returned (.int .i64 (m.sz : Int)) ∧ Ext w w' := by
  obtain ⟨SA, sc, WA, wc, c0, c1, c2, hl⟩ := H.cells
  clear H
  go_enter Try.func30, Try.ntmps30
  go_wp2
  go_ret
  exact ⟨rfl, Ext.refl w⟩
theorem halfs_any {base : Nat} {w : World} {D : Nat} {m : DM} (H : DK base w D m) (h4 : 4 ≤ m.B.length) (hb : m.B.length ≤ 4096) : Calls Try.prog 31 #[.pointer (some ⟨D, 0, none⟩)] w fun e w' => e = .returned (.int .i64 (m.hs : Int)) ∧ Ext w w' := by
  have HH := Lib.hid H
  clear H
  have e1 : ((m.B.length : Int) - 2).tdiv 2 = (m.hs : Int) := by rw [Int.tdiv_eq_ediv_of_nonneg (by omega)]; unfold DM.hs; omega
  have e2 : (m.hs : Int) ≤ 2047 := by unfold DM.hs; omega
  go_enter Try.func31, Try.ntmps31
  go_wp2_with fail
  refine (sectors_any HH.out).mono ?_
  rintro e w1 ⟨rfl, hE⟩
  have E1 := Lib.hid hE
  clear hE
  go_wp2
  go_ret
  exact ⟨rfl, E1.out⟩
theorem cap0_any {base : Nat} {w : World} {D : Nat} {m : DM} (H : DK base w D m) (hb : m.B.length ≤ 4096) (hz : m.sz ≤ 512) : Calls Try.prog 12 #[.pointer (some ⟨D, 0, none⟩)] w fun e w' => e = .returned (.int .i64 (m.cap : Int)) ∧ Ext w w' := by
  have HH := Lib.hid H
  clear H
  obtain ⟨R, hR⟩ : ∃ R, m.cap = R := ⟨_, rfl⟩
  rw [hR]
  have HR := Lib.hid hR
  clear hR
  go_enter Try.func12, Try.ntmps12
  by_cases h4 : m.B.length < 4
  · obtain rfl : R = 0 := by rw [← HR.out]; unfold DM.cap; rw [if_pos (.inl h4)]
    have h4' : (m.B.length : Int) < 4 := by omega
    go_wp2_with fail
    refine (sectors_any HH.out).mono ?_
    rintro e w1 ⟨rfl, hE⟩
    have E1 := Lib.hid hE
    clear hE
    go_wp2
    go_ret
    exact ⟨rfl, E1.out⟩
  · have h4' : ¬ (m.B.length : Int) < 4 := by omega
    go_wp2_with fail
    refine (sectors_any HH.out).mono ?_
    rintro e w1 ⟨rfl, hE⟩
    have E1 := Lib.hid hE
    clear hE
    go_wp2_with fail
    refine (dsize_any (HH.out.ext E1.out)).mono ?_
    rintro e w2 ⟨rfl, hE⟩
    have E2 := Lib.hid (E1.out.trans hE)
    clear hE E1
    by_cases h5 : m.sz < 32
    · obtain rfl : R = 0 := by rw [← HR.out]; unfold DM.cap; rw [if_pos (.inr h5)]
      have h5' : (m.sz : Int) < 32 := by omega
      go_wp2
      go_ret
      exact ⟨rfl, E2.out⟩
    · have h5' : ¬ (m.sz : Int) < 32 := by omega
      obtain rfl : R = m.hs * m.sz := by rw [← HR.out]; unfold DM.cap; rw [if_neg (by omega)]
      go_wp2_with fail
      refine (halfs_any (HH.out.ext E2.out) (by omega) hb).mono ?_
      rintro e w3 ⟨rfl, hE⟩
      have E3 := Lib.hid (E2.out.trans hE)
      clear hE E2
      go_wp2_with fail
      refine (dsize_any (HH.out.ext E3.out)).mono ?_
      rintro e w4 ⟨rfl, hE⟩
      have E4 := Lib.hid (E3.out.trans hE)
      clear hE E3
      have hm : (m.hs : Int) * (m.sz : Int) ≤ 2047 * 512 := Int.mul_le_mul (by unfold DM.hs; omega) (by omega) (by omega) (by omega)
      have hm0 : (0 : Int) ≤ (m.hs : Int) * (m.sz : Int) := Int.mul_nonneg (by omega) (by omega)
      go_wp2
      go_ret
      exact ⟨by push_cast; rfl, E4.out⟩
theorem cap0_nil (w : World) : Calls Try.prog 12 #[.pointer none] w fun e w' => e = .returned (.int .i64 0) ∧ Ext w w' := by
  go_enter Try.func12, Try.ntmps12
  go_wp2
  go_ret
  exact ⟨rfl, Ext.refl w⟩

/-- the store and its disk -/
def StK (base : Nat) (w : World) (s D : Nat) (m : DM) (h : Hd) (b : List Nat) : Prop := DK base w D m ∧ ∃ A n cap, StAt base w s D h A n cap b false
theorem StK.ext {base : Nat} {w w' : World} {s D : Nat} {m : DM} {h : Hd} {b : List Nat} (H : StK base w s D m h b) (he : Ext w w') : StK base w' s D m h b := by
  obtain ⟨h1, A, n, cap, h2⟩ := H
  exact ⟨h1.ext he, A, n, cap, h2.ext he⟩

section
variable {base : Nat} {w : World} {s D : Nat} {m : DM} {h : Hd} {A : Option Addr} {n cap : Nat} {b : List Nat} {dn : Bool}

theorem scap_any (H : StAt base w s D h A n cap b dn) (K : DK base w D m) (hb : m.B.length ≤ 4096) (hz : m.sz ≤ 512) : Calls Try.prog 17 #[.pointer (some ⟨s, 0, none⟩)] w fun e w' => e = .returned (.int .i64 (m.cap : Int)) ∧ Ext w w' := by
  obtain ⟨c0, c1, c2, c3, c4, c5, c6, cf, cl⟩ := H.cells
  have KK := Lib.hid K
  clear H K
  go_enter Try.func17, Try.ntmps17
  go_wp2_with fail
  refine (cap0_any KK.out hb hz).mono ?_
  rintro e w1 ⟨rfl, hE⟩
  have E1 := Lib.hid hE
  clear hE
  go_wp2
  go_ret
  exact ⟨rfl, E1.out⟩
theorem used_any (H : StAt base w s D h A n cap b dn) (hn : h.snap + h.log ≤ 9223372036854775807) : Calls Try.prog 36 #[.pointer (some ⟨s, 0, none⟩)] w fun e w' => e = .returned (.int .i64 ((h.snap + h.log : Nat) : Int)) ∧ Ext w w' := by
  obtain ⟨c0, c1, c2, c3, c4, c5, c6, cf, cl⟩ := H.cells
  clear H
  have hn' : (h.snap : Int) + (h.log : Int) ≤ 9223372036854775807 := by omega
  go_enter Try.func36, Try.ntmps36
  go_wp2_with fail
  refine region_tail 11 (by kernel_rfl) (by kernel_rfl) ?_
  simp only [List.take_succ_cons, List.take_zero, List.drop_succ_cons, List.drop_zero]
  iterate 11 (go_big_quiet_step (fail))
  refine wpQuiet_nil ?_
  intro wx hE
  have E1 := Lib.hid hE
  clear hE
  go_wp2
  go_ret
  exact ⟨by push_cast; rfl, E1.out⟩
theorem first_any (half : Nat) (H : StAt base w s D h A n cap b dn) (K : DK base w D m) (h4 : 4 ≤ m.B.length) (hb : m.B.length ≤ 4096) (hh : half ≤ 1) : Calls Try.prog 37 #[.pointer (some ⟨s, 0, none⟩), .int .i64 (half : Int)] w fun e w' => e = .returned (.int .i64 ((2 + half * m.hs : Nat) : Int)) ∧ Ext w w' := by
  obtain ⟨c0, c1, c2, c3, c4, c5, c6, cf, cl⟩ := H.cells
  have KK := Lib.hid K
  clear H K
  have hm : (half : Int) * (m.hs : Int) ≤ 1 * 2047 := Int.mul_le_mul (by omega) (by unfold DM.hs; omega) (by omega) (by omega)
  have hm0 : (0 : Int) ≤ (half : Int) * (m.hs : Int) := Int.mul_nonneg (by omega) (by omega)
  go_enter Try.func37, Try.ntmps37
  go_wp2_with fail
  refine (halfs_any KK.out h4 hb).mono ?_
  rintro e w1 ⟨rfl, hE⟩
  have E1 := Lib.hid hE
  clear hE
  go_wp2
  go_ret
  exact ⟨by push_cast; rfl, E1.out⟩
theorem room_any (H : StAt base w s D h A n cap b dn) (K : DK base w D m) (hb : m.B.length ≤ 4096) (hz : m.sz ≤ 512) (hn : h.snap + h.log ≤ 1000000000) (hc : m.cap ≤ 1000000000000) : Calls Try.prog 38 #[.pointer (some ⟨s, 0, none⟩)] w fun e w' => e = .returned (.int .i64 ((m.cap : Int) - ((h.snap + h.log : Nat) : Int))) ∧ Ext w w' := by
  have HH := Lib.hid H
  have KK := Lib.hid K
  clear H K
  obtain ⟨C, hC⟩ : ∃ C, m.cap = C := ⟨_, rfl⟩
  obtain ⟨U, hU⟩ : ∃ U, h.snap + h.log = U := ⟨_, rfl⟩
  have S1 : Hid (Calls Try.prog 17 #[.pointer (some ⟨s, 0, none⟩)] w fun e w' => e = .returned (.int .i64 (C : Int)) ∧ Ext w w') := Lib.hid (by rw [← hC]; exact scap_any HH.out KK.out hb hz)
  have S2 : Hid (∀ wx, Ext w wx → Calls Try.prog 36 #[.pointer (some ⟨s, 0, none⟩)] wx fun e w' => e = .returned (.int .i64 (U : Int)) ∧ Ext wx w') := Lib.hid fun wx he => by rw [← hU]; exact used_any (HH.out.ext he) (by omega)
  rw [hC] at hc
  rw [hU] at hn
  rw [hC, hU]
  clear hC hU
  go_enter Try.func38, Try.ntmps38
  go_wp2_with fail
  refine S1.out.mono ?_
  rintro e w1 ⟨rfl, hE⟩
  have E1 := Lib.hid hE
  clear hE
  go_wp2_with fail
  refine (S2.out w1 E1.out).mono ?_
  rintro e w2 ⟨rfl, hE⟩
  have E2 := Lib.hid (E1.out.trans hE)
  clear hE
  go_wp2
  go_ret
  exact ⟨rfl, E2.out⟩
theorem sheader_any (H : StAt base w s D h A n cap b dn) : Calls Try.prog 21 #[.pointer (some ⟨s, 0, none⟩)] w fun e w' => e = .returned (.agg #[.int .i64 (h.gen : Int), .int .i64 (h.half : Int), .int .i64 (h.snap : Int), .int .i64 (h.log : Int)]) ∧ Ext w w' := by
  obtain ⟨c0, c1, c2, c3, c4, c5, c6, cf, cl⟩ := H.cells
  clear H
  go_enter Try.func21, Try.ntmps21
  go_wp2
  refine bodyPost_ret (v := .agg #[.int .i64 (h.gen : Int), .int .i64 (h.half : Int), .int .i64 (h.snap : Int), .int .i64 (h.log : Int)]) (by simp [results, Try.results21, go_sem]) rfl ⟨rfl, ?_⟩
  (repeat (first | exact Ext.refl _ | apply Ext.alloc | (refine Ext.setCell ?_ (by simp) _)))
end

end Go.Proofs.Ytbpdjekibcbaaaa
