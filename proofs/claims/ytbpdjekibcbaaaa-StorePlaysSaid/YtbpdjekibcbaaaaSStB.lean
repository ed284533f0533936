import Derived.Test.YtbpdjekibcbaaaaSStA
namespace Go.Proofs.Ytbpdjekibcbaaaa
open Go.RowKit
set_option linter.unusedVariables false
set_option linter.unusedSimpArgs false
set_option maxRecDepth 100000
set_option maxHeartbeats 3200000

theorem grow_all (z : Int) (w : World) (h0 : 0 ≤ z) (hn : z ≤ 70368744177664) :
    Calls Try.prog 45 #[.slice none 0 0, .int .i64 z] w fun e w' => ∃ A cap, e = .returned (.slice A 0 cap) ∧ Own w.heap.size w' A 0 cap [] ∧ Ext w w' := by
  by_cases hp : 0 < z
  · exact grow_nil' z w hp hn
  · obtain rfl : z = 0 := by omega
    clear h0 hn hp
    go_enter Try.func45, Try.ntmps45
    go_wp2
    go_ret
    exact ⟨none, 0, rfl, Own.nil _ _, Ext.refl _⟩

/-- slices.Concat of two slices of bytes -/
theorem concat_any (g : Nat) (w : World) (A0 A1 : Option Addr) (n0 n1 c0 c1 : Nat) (l0 l1 : List Nat)
    (k0 : w.cell? ⟨g, 0, none⟩ = some (.slice A0 n0 c0)) (k1 : w.cell? ⟨g, 1, none⟩ = some (.slice A1 n1 c1))
    (hg : g < w.heap.size) (b0 : Bytes w (.slice A0 n0 c0) l0) (b1 : Bytes w (.slice A1 n1 c1) l1)
    (m0 : n0 ≤ 4294967296) (m1 : n1 ≤ 4294967296) :
    Calls Try.prog 39 #[.slice (some ⟨g, 0, none⟩) 2 2] w fun e w' => ∃ A n cap, e = .returned (.slice A n cap) ∧ Own w.heap.size w' A n cap (l0 ++ l1) ∧ Ext w w' := by
  have B0 := Lib.hid b0
  have B1 := Lib.hid b1
  have K := Lib.hid (And.intro k0 k1)
  have HG := Lib.hid hg
  clear b0 b1
  go_enter Try.func39, Try.ntmps39
  go_wp2
  refine wp_loop_rounds 3 ?_
  iterate 3
    rw [rounds_succ]
    go_wp2_with fail
  refine (grow_all _ _ (by omega) (by omega)).mono ?_
  rintro e w0 ⟨D0, cap0, rfl, hO, hE⟩
  have N := Lib.hid (And.intro B0.out.len B1.out.len)
  have M := Lib.hid (And.intro m0 m1)
  clear m0 m1 k0 k1 hg
  have O0 := Lib.hid hO
  have E0 := Lib.hid hE
  clear hO hE
  have hk : w0.cell? ⟨g, 0, none⟩ = some (.slice A0 n0 c0) := (E0.out.cell HG.out).trans K.out.1
  have hgw : g < w0.heap.size := Nat.lt_of_lt_of_le HG.out E0.out.size
  go_wp2
  refine wp_loop_rounds 3 ?_
  have Y := Lib.hid (B0.out.ext E0.out)
  have Z : Hid ((([] : List Nat)).length + l0.length ≤ 70368744177664) := Lib.hid (by
    have := N.out; have := M.out; (try simp only [List.length_append, List.length_nil]); omega)
  rw [rounds_succ]
  go_wp2_with (at_builtin; refine wpList_app rfl (.tmp 31) (.tmp 32) rfl rfl rfl O0.out Y.out Z.out E0.out.size ?_)
  intro D1 d1 cap1 w1 hO hgr
  have O1 := Lib.hid hO
  have E1 := Lib.hid (E0.out.grown hgr O0.out.row)
  clear hO hgr hk hgw Y Z
  have hk : w1.cell? ⟨g, 1, none⟩ = some (.slice A1 n1 c1) := (E1.out.cell HG.out).trans K.out.2
  have hgw : g < w1.heap.size := Nat.lt_of_lt_of_le HG.out E1.out.size
  go_wp2
  have Y := Lib.hid (B1.out.ext E1.out)
  have Z : Hid ((l0).length + l1.length ≤ 70368744177664) := Lib.hid (by
    have := N.out; have := M.out; (try simp only [List.length_append, List.length_nil]); omega)
  rw [rounds_succ]
  go_wp2_with (at_builtin; refine wpList_app rfl (.tmp 31) (.tmp 32) rfl rfl rfl O1.out Y.out Z.out E1.out.size ?_)
  intro D2 d2 cap2 w2 hO hgr
  have O2 := Lib.hid hO
  have E2 := Lib.hid (E1.out.grown hgr O1.out.row)
  clear hO hgr hk hgw Y Z
  go_wp2
  rw [rounds_succ]
  go_wp2
  go_ret
  exact ⟨D2, d2, cap2, rfl, by simpa only [List.append_assoc] using O2.out, E2.out⟩


section
variable {base : Nat} {w : World} {s D : Nat} {h : Hd} {A : Option Addr} {n cap : Nat} {b : List Nat} {dn : Bool}

theorem own_cases {base : Nat} {w : World} {A : Option Addr} {n cap : Nat} {l : List Nat} (h : Own base w A n cap l) : (A = none ∧ n = 0 ∧ cap = 0) ∨ ∃ g, A = some ⟨g, 0, none⟩ ∧ n ≤ cap ∧ cap ≤ 9223372036854775807 := by
  rcases h.2.1.2 with ⟨e, h0⟩ | ⟨g, c, cur, e, _, _, h1, h2, _⟩
  · simp only [Value.slice.injEq] at e; exact .inl e
  · simp only [Value.slice.injEq] at e
    obtain ⟨rfl, -, rfl⟩ := e
    exact .inr ⟨g, rfl, h1, h2⟩

theorem log_any (H : StAt base w s D h A n cap b dn) (hn : h.snap ≤ b.length) (hb : b.length ≤ 4294967296) : Calls Try.prog 23 #[.pointer (some ⟨s, 0, none⟩)] w fun e w' => ∃ A' n' cap', e = .returned (.slice A' n' cap') ∧ Own w.heap.size w' A' n' cap' (b.drop h.snap) ∧ Ext w w' := by
  obtain ⟨c0, c1, c2, c3, c4, c5, c6, cf, cl⟩ := H.cells
  have HH := Lib.hid H
  have B := Lib.hid H.own.bytes
  have hl := H.own.1
  have oc := own_cases H.own
  clear H
  obtain ⟨sn, hsn⟩ : ∃ sn, h.snap = sn := ⟨_, rfl⟩
  rw [hsn] at c3 hn ⊢
  have N1 : Hid (n = b.length) := Lib.hid hl
  have hnn : sn ≤ n := by omega
  clear hl hsn
  rcases oc with ⟨rfl, rfl, rfl⟩ | ⟨g, rfl, h1, h2⟩
  · have hz : b = [] := List.eq_nil_of_length_eq_zero (by have := N1.out; omega)
    have hs0 : sn = 0 := by omega
    have YY : ∀ wx, Ext w wx → Bytes wx (.slice none 0 0) (b.drop sn) := fun wx he => by rw [hz]; simpa using (Own.nil 0 wx).bytes
    have YH := Lib.hid YY
    clear YY hz
    go_enter Try.func23, Try.ntmps23
    go_wp2_with fail
    refine region_tail 10 (by kernel_rfl) (by kernel_rfl) ?_
    simp only [List.take_succ_cons, List.take_zero, List.drop_succ_cons, List.drop_zero]
    iterate 10 (go_big_quiet_step (fail))
    refine wpQuiet_nil ?_
    intro wx hE
    have E1 := Lib.hid hE
    clear hE
    go_wp2_with fail
    refine (clone_any _ (b.drop sn) wx (YH.out wx E1.out) (by simp; omega)).mono ?_
    rintro e wy ⟨A', n', cap', rfl, hO, hE⟩
    have O2 := Lib.hid (hO.mono E1.out.size)
    have E2 := Lib.hid (E1.out.trans hE)
    clear hO hE
    go_wp2
    go_ret
    exact ⟨A', n', cap', rfl, O2.out, E2.out⟩
  · have hB := B.out.drop sn hn
    by_cases hc : cap = sn
    · have YY : ∀ wx, Ext w wx → Bytes wx (.slice (some ⟨g, 0, none⟩) (n - sn) 0) (b.drop sn) := fun wx he => (hB.2 hc).ext he
      have YH := Lib.hid YY
      clear YY
      go_enter Try.func23, Try.ntmps23
      go_wp2_with fail
      refine region_tail 10 (by kernel_rfl) (by kernel_rfl) ?_
      simp only [List.take_succ_cons, List.take_zero, List.drop_succ_cons, List.drop_zero]
      iterate 10 (go_big_quiet_step (fail))
      refine wpQuiet_nil ?_
      intro wx hE
      have E1 := Lib.hid hE
      clear hE
      go_wp2_with fail
      refine (clone_any _ (b.drop sn) wx (YH.out wx E1.out) (by simp; omega)).mono ?_
      rintro e wy ⟨A', n', cap', rfl, hO, hE⟩
      have O2 := Lib.hid (hO.mono E1.out.size)
      have E2 := Lib.hid (E1.out.trans hE)
      clear hO hE
      go_wp2
      go_ret
      exact ⟨A', n', cap', rfl, O2.out, E2.out⟩
    · skip
      have YY : ∀ wx, Ext w wx → Bytes wx (.slice (some ⟨g, sn, none⟩) (n - sn) (cap - sn)) (b.drop sn) := fun wx he => by have := hB.1.ext he; rwa [Nat.zero_add] at this
      have YH := Lib.hid YY
      clear YY
      go_enter Try.func23, Try.ntmps23
      go_wp2_with fail
      refine region_tail 10 (by kernel_rfl) (by kernel_rfl) ?_
      simp only [List.take_succ_cons, List.take_zero, List.drop_succ_cons, List.drop_zero]
      iterate 10 (go_big_quiet_step (fail))
      refine wpQuiet_nil ?_
      intro wx hE
      have E1 := Lib.hid hE
      clear hE
      go_wp2_with fail
      refine (clone_any _ (b.drop sn) wx (YH.out wx E1.out) (by simp; omega)).mono ?_
      rintro e wy ⟨A', n', cap', rfl, hO, hE⟩
      have O2 := Lib.hid (hO.mono E1.out.size)
      have E2 := Lib.hid (E1.out.trans hE)
      clear hO hE
      go_wp2
      go_ret
      exact ⟨A', n', cap', rfl, O2.out, E2.out⟩

theorem snapshot_any (H : StAt base w s D h A n cap b dn) (hn : h.snap ≤ b.length) (hb : b.length ≤ 4294967296) : Calls Try.prog 41 #[.pointer (some ⟨s, 0, none⟩)] w fun e w' => ∃ A' n' cap', e = .returned (.slice A' n' cap') ∧ Own w.heap.size w' A' n' cap' (b.take h.snap) ∧ Ext w w' := by
  obtain ⟨c0, c1, c2, c3, c4, c5, c6, cf, cl⟩ := H.cells
  have HH := Lib.hid H
  have B := Lib.hid H.own.bytes
  have hl := H.own.1
  have oc := own_cases H.own
  clear H
  obtain ⟨sn, hsn⟩ : ∃ sn, h.snap = sn := ⟨_, rfl⟩
  rw [hsn] at c3 hn ⊢
  have N1 : Hid (n = b.length) := Lib.hid hl
  have hnn : sn ≤ n := by omega
  clear hl hsn
  rcases oc with ⟨rfl, rfl, rfl⟩ | ⟨g, rfl, h1, h2⟩
  · have hz : b = [] := List.eq_nil_of_length_eq_zero (by have := N1.out; omega)
    have hs0 : sn = 0 := by omega
    have YY : ∀ wx, Ext w wx → Bytes wx (.slice none 0 0) (b.take sn) := fun wx he => by rw [hz]; simpa using (Own.nil 0 wx).bytes
    have YH := Lib.hid YY
    clear YY hz
    go_enter Try.func41, Try.ntmps41
    go_wp2_with fail
    refine region_tail 10 (by kernel_rfl) (by kernel_rfl) ?_
    simp only [List.take_succ_cons, List.take_zero, List.drop_succ_cons, List.drop_zero]
    iterate 10 (go_big_quiet_step (fail))
    refine wpQuiet_nil ?_
    intro wx hE
    have E1 := Lib.hid hE
    clear hE
    go_wp2_with fail
    refine (clone_any _ (b.take sn) wx (YH.out wx E1.out) (by simp; omega)).mono ?_
    rintro e wy ⟨A', n', cap', rfl, hO, hE⟩
    have O2 := Lib.hid (hO.mono E1.out.size)
    have E2 := Lib.hid (E1.out.trans hE)
    clear hO hE
    go_wp2
    go_ret
    exact ⟨A', n', cap', rfl, O2.out, E2.out⟩
  · skip
    have YY : ∀ wx, Ext w wx → Bytes wx (.slice (some ⟨g, 0, none⟩) sn cap) (b.take sn) := fun wx he => ((B.out.take sn hn).cap cap (by simp; omega) h2 (by simp)).ext he
    have YH := Lib.hid YY
    clear YY
    go_enter Try.func41, Try.ntmps41
    go_wp2_with fail
    refine region_tail 10 (by kernel_rfl) (by kernel_rfl) ?_
    simp only [List.take_succ_cons, List.take_zero, List.drop_succ_cons, List.drop_zero]
    iterate 10 (go_big_quiet_step (fail))
    refine wpQuiet_nil ?_
    intro wx hE
    have E1 := Lib.hid hE
    clear hE
    go_wp2_with fail
    refine (clone_any _ (b.take sn) wx (YH.out wx E1.out) (by simp; omega)).mono ?_
    rintro e wy ⟨A', n', cap', rfl, hO, hE⟩
    have O2 := Lib.hid (hO.mono E1.out.size)
    have E2 := Lib.hid (E1.out.trans hE)
    clear hO hE
    go_wp2
    go_ret
    exact ⟨A', n', cap', rfl, O2.out, E2.out⟩
end
end Go.Proofs.Ytbpdjekibcbaaaa
