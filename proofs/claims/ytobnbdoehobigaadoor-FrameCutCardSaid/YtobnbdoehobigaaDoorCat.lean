
import Derived.Test.YtobnbdoehobigaaDoorHigh
import Derived.Lib.AppendZerosOnto
import Derived.Lib.Walk
namespace Go.Proofs.YtobnbdoehobigaaDoor
open Go.RowKit
set_option linter.unusedVariables false
set_option linter.unusedSimpArgs false

set_option maxRecDepth 100000 in
set_option maxHeartbeats 3200000 in
/-- slices.Grow of nil: an empty slice of the call's own, with room -/
theorem grow_nil (n : Nat) (w : World) (h0 : 0 < n) (hn : n ≤ 70368744177664) :
    Calls Tryd.prog 34 #[.slice none 0 0, .int .i64 n] w fun e w' => ∃ A cap, e = .returned (.slice A 0 cap) ∧ n ≤ cap ∧ Own w.heap.size w' A 0 cap [] ∧ Ext w w' := by
  obtain ⟨i0, hi, hz0, hz1, hz2⟩ := info_parts info5
  have hrz : ∀ ty, (Builtin.append_ #[22, 3] ty #[.slice none 0 0, .int .i64 (n : Int)]).run Tryd.prog w = _ := fun ty =>
    Lib.run_append_grow_zeros w 22 3 ty 5 i0 (.int .u8 0) .i64 .i64 Tryd.underlying22 Tryd.underlying3 hi hz0 none 0 0 [] (run_firstCells_none w.drew i0.size 0 0 0) n h0 (by omega) (by omega) (by omega) (by rw [hz2]; omega)
      (growslice_fits (by omega) (by rw [hz2]; omega))
  have hge := grownCap_ge w (0 + n) 0 5
  have hle := grownCap_le_maxLen w (0 + n) 0 5 (by unfold maxLen; omega)
  obtain ⟨G, hG⟩ : ∃ G, G = grownCap w (0 + n) 0 5 := ⟨_, rfl⟩
  rw [← hG] at hrz hge hle
  have hG63 : G ≤ 9223372036854775807 := hle
  have h1 : (0 : Int) < (n : Int) := by omega
  have HG := Lib.hid hge
  have HL := Lib.hid hle
  clear hG hge hle hi hz0 hz1 hz2
  go_enter Tryd.func34, Tryd.ntmps34
  go_wp2_with (at_builtin; refine Lib.wpList_append_run _ rfl _ _ _ _ rfl _ _ rfl rfl _ _ (hrz _) ?_)
  go_ret
  refine ⟨_, G, rfl, by have := HG.out; omega, ?_, ((Ext.refl w).alloc _).drew'⟩
  have hO : Own w.heap.size (w.alloc (.cells (Builtin.zeroCells #[Value.int .u8 0] n ++ Builtin.zeroCells #[Value.int .u8 0] (G - n)) 5)) (some ⟨w.heap.size, 0, none⟩) 0 G [] := by
    refine ⟨rfl, World.ownsRow_made w _ G (Nat.le_refl _) HL.out ?_, fun i => by simp⟩
    have := HG.out
    simp only [Array.size_append, size_zeroCells]
    simp
    omega
  exact hO.ext (Ext.drew _)

theorem grow_nil' (z : Int) (w : World) (h0 : 0 < z) (hn : z ≤ 70368744177664) :
    Calls Tryd.prog 34 #[.slice none 0 0, .int .i64 z] w fun e w' => ∃ A cap, e = .returned (.slice A 0 cap) ∧ Own w.heap.size w' A 0 cap [] ∧ Ext w w' := by
  obtain ⟨n, rfl⟩ : ∃ n : Nat, z = n := ⟨z.toNat, by omega⟩
  exact (grow_nil n w (by omega) (by omega)).mono fun e w' ⟨A, cap, h1, _, h2, h3⟩ => ⟨A, cap, h1, h2, h3⟩

theorem Bytes.len {w : World} {A : Option Addr} {n c : Nat} {l : List Nat} (h : Bytes w (.slice A n c) l) : n = l.length := by
  obtain ⟨_, _, e, _⟩ := h
  simp only [Value.slice.injEq] at e
  exact e.2.1

set_option maxRecDepth 100000 in
set_option maxHeartbeats 6400000 in
/-- slices.Concat of four slices of bytes -/
theorem concat4 (g : Nat) (w : World) (A0 A1 A2 A3 : Option Addr) (n0 n1 n2 n3 c0 c1 c2 c3 : Nat) (l0 l1 l2 l3 : List Nat)
    (k0 : w.cell? ⟨g, 0, none⟩ = some (.slice A0 n0 c0)) (k1 : w.cell? ⟨g, 1, none⟩ = some (.slice A1 n1 c1)) (k2 : w.cell? ⟨g, 2, none⟩ = some (.slice A2 n2 c2)) (k3 : w.cell? ⟨g, 3, none⟩ = some (.slice A3 n3 c3))
    (hg : g < w.heap.size) (b0 : Bytes w (.slice A0 n0 c0) l0) (b1 : Bytes w (.slice A1 n1 c1) l1) (b2 : Bytes w (.slice A2 n2 c2) l2) (b3 : Bytes w (.slice A3 n3 c3) l3)
    (hpos : 0 < n0) (m0 : n0 ≤ 4294967296) (m1 : n1 ≤ 4294967296) (m2 : n2 ≤ 4294967296) (m3 : n3 ≤ 4294967296) :
    Calls Tryd.prog 30 #[.slice (some ⟨g, 0, none⟩) 4 4] w fun e w' => ∃ A n cap, e = .returned (.slice A n cap) ∧ Own w.heap.size w' A n cap (l0 ++ l1 ++ l2 ++ l3) ∧ Ext w w' := by
  have B0 := Lib.hid b0
  have B1 := Lib.hid b1
  have B2 := Lib.hid b2
  have B3 := Lib.hid b3
  have K := Lib.hid (And.intro k0 (And.intro k1 (And.intro k2 k3)))
  have HG := Lib.hid hg
  have P0 := Lib.hid hpos
  have p0 : (0 : Int) < n0 := by omega
  clear b0 b1 b2 b3 hpos
  go_enter Tryd.func30, Tryd.ntmps30
  go_wp2
  refine wp_loop_rounds 5 ?_
  iterate 5
    rw [rounds_succ]
    go_wp2_with fail
  refine (grow_nil' _ _ (by have := P0.out; omega) (by omega)).mono ?_
  rintro e w0 ⟨D0, cap0, rfl, hO, hE⟩
  have hN0 : D0 = D0 := rfl
  have N := Lib.hid (And.intro B0.out.len (And.intro B1.out.len (And.intro B2.out.len B3.out.len)))
  have M := Lib.hid (And.intro m0 (And.intro m1 (And.intro m2 m3)))
  have HB : Hid (w.heap.size ≤ w.heap.size) := Lib.hid (Nat.le_refl _)
  clear m0 m1 m2 m3 k0 k1 k2 k3 hg hN0
  have O0 := Lib.hid hO
  have E0 := Lib.hid hE
  clear hO hE
  have hk : w0.cell? ⟨g, 0, none⟩ = some (.slice A0 n0 c0) := (E0.out.cell HG.out).trans K.out.1
  have hgw : g < w0.heap.size := Nat.lt_of_lt_of_le HG.out E0.out.size
  go_wp2
  refine wp_loop_rounds 5 ?_
  have Y := Lib.hid (B0.out.ext E0.out)
  have Z : Hid ((([] : List Nat)).length + l0.length ≤ 70368744177664) := Lib.hid (by
    have := N.out; have := M.out; (try simp only [List.length_append, List.length_nil]); omega)
  rw [rounds_succ]
  go_wp2_with (at_builtin; refine wpList_app rfl (.tmp 31) (.tmp 32) rfl rfl rfl O0.out Y.out Z.out E0.out.size ?_)
  intro D1 d1 cap1 w1 hO hgr
  have O1 := Lib.hid hO
  have E1 := Lib.hid (E0.out.grown hgr O0.out.row)
  clear hO hgr hk hgw Y Z
  have hk : w1.cell? ⟨g, 1, none⟩ = some (.slice A1 n1 c1) := (E1.out.cell HG.out).trans K.out.2.1
  have hgw : g < w1.heap.size := Nat.lt_of_lt_of_le HG.out E1.out.size
  go_wp2
  have Y := Lib.hid (B1.out.ext E1.out)
  have Z : Hid ((l0).length + l1.length ≤ 70368744177664) := Lib.hid (by
    have := N.out; have := M.out; (try simp only [List.length_append, List.length_nil]); omega)
  rw [rounds_succ]
  go_wp2_with (at_builtin; refine wpList_app rfl (.tmp 31) (.tmp 32) rfl rfl rfl O1.out Y.out Z.out E1.out.size ?_)
  intro D2 d2 cap2 w2 hO hgr
  have O2 := Lib.hid hO
  have E2 := Lib.hid (E1.out.grown hgr O1.out.row)
  clear hO hgr hk hgw Y Z
  have hk : w2.cell? ⟨g, 2, none⟩ = some (.slice A2 n2 c2) := (E2.out.cell HG.out).trans K.out.2.2.1
  have hgw : g < w2.heap.size := Nat.lt_of_lt_of_le HG.out E2.out.size
  go_wp2
  have Y := Lib.hid (B2.out.ext E2.out)
  have Z : Hid ((l0 ++ l1).length + l2.length ≤ 70368744177664) := Lib.hid (by
    have := N.out; have := M.out; (try simp only [List.length_append, List.length_nil]); omega)
  rw [rounds_succ]
  go_wp2_with (at_builtin; refine wpList_app rfl (.tmp 31) (.tmp 32) rfl rfl rfl O2.out Y.out Z.out E2.out.size ?_)
  intro D3 d3 cap3 w3 hO hgr
  have O3 := Lib.hid hO
  have E3 := Lib.hid (E2.out.grown hgr O2.out.row)
  clear hO hgr hk hgw Y Z
  have hk : w3.cell? ⟨g, 3, none⟩ = some (.slice A3 n3 c3) := (E3.out.cell HG.out).trans K.out.2.2.2
  have hgw : g < w3.heap.size := Nat.lt_of_lt_of_le HG.out E3.out.size
  go_wp2
  have Y := Lib.hid (B3.out.ext E3.out)
  have Z : Hid ((l0 ++ (l1 ++ l2)).length + l3.length ≤ 70368744177664) := Lib.hid (by
    have := N.out; have := M.out; (try simp only [List.length_append, List.length_nil]); omega)
  rw [rounds_succ]
  go_wp2_with (at_builtin; refine wpList_app rfl (.tmp 31) (.tmp 32) rfl rfl rfl O3.out Y.out Z.out E3.out.size ?_)
  intro D4 d4 cap4 w4 hO hgr
  have O4 := Lib.hid hO
  have E4 := Lib.hid (E3.out.grown hgr O3.out.row)
  clear hO hgr hk hgw Y Z
  go_wp2
  rw [rounds_succ]
  go_wp2
  go_ret
  exact ⟨D4, d4, cap4, rfl, by simpa only [List.append_assoc] using O4.out, E4.out⟩

theorem slice_nil_eq (w : World) : (binOp .eql 22 (.slice none 0 0) (.slice none 0 0)).run Tryd.prog w = .ok (.bool true) w := by kernel_rfl
theorem slice_some_eq (a : Addr) (n c : Nat) (w : World) : (binOp .eql 22 (.slice (some a) n c) (.slice none 0 0)).run Tryd.prog w = .ok (.bool false) w := by kernel_rfl

theorem Own.nil (base : Nat) (w : World) : Own base w none 0 0 [] := ⟨rfl, World.ownsRow_nil w base 5 1, fun i => by simp⟩

theorem Own.fresh {w0 w : World} (h : Ext w0 w) (cs : List Nat) (hb : ∀ i, cs.getD i 0 < 256) (hm : cs.length ≤ 9223372036854775807) : Own w0.heap.size (w.alloc (.cells (cs.map byteV).toArray 5)) (some ⟨w.heap.size, 0, none⟩) cs.length cs.length cs := by
  refine ⟨rfl, ?_, hb⟩
  have := World.ownsRow_lit (e := 5) (size := 1) w (cs.map byteV).toArray cs.length h.size hm (by simp)
  simpa using this

set_option maxRecDepth 100000 in
set_option maxHeartbeats 6400000 in
/-- bytes.Clone -/
theorem clone_any (v : Value) (l : List Nat) (w : World) (hb : Bytes w v l) (hl : l.length ≤ 4294967296) :
    Calls Tryd.prog 29 #[v] w fun e w' => ∃ A n cap, e = .returned (.slice A n cap) ∧ Own w.heap.size w' A n cap l ∧ Ext w w' := by
  have B := Lib.hid hb
  obtain ⟨X, c, rfl, h2, h3, h4, h5, h6⟩ := hb
  cases X with
  | none =>
    have hc := h4 rfl
    subst hc
    have hm : l = [] := List.eq_nil_of_length_eq_zero (by omega)
    subst hm
    have he1 := slice_nil_eq
    have he2 := slice_some_eq
    go_enter Tryd.func29, Tryd.ntmps29
    go_wp2
    go_ret
    exact ⟨none, 0, 0, rfl, Own.nil _ _, Ext.refl _⟩
  | some a =>
    clear h4 h5 h6 h2 h3
    have E := Lib.hid ((Ext.refl w).alloc (.cells #[] 5))
    have O : Hid (Own w.heap.size (w.alloc (.cells #[] 5)) (some ⟨w.heap.size, 0, none⟩) 0 0 []) := Own.fresh (Ext.refl w) [] (fun i => by simp) (by simp)
    have Y := Lib.hid (B.out.ext E.out)
    have Z : Hid (([] : List Nat).length + l.length ≤ 70368744177664) := Lib.hid (by simp; omega)
    have he1 := slice_nil_eq
    have he2 := slice_some_eq
    go_enter Tryd.func29, Tryd.ntmps29
    go_wp2_with (at_builtin; refine wpList_app rfl (.tmp 5) (.tmp 6) rfl rfl rfl O.out Y.out Z.out E.out.size ?_)
    intro D d cap w1 hO hgr
    have O1 := Lib.hid hO
    have E1 := Lib.hid (E.out.grown hgr O.out.row)
    clear hO hgr
    go_wp2
    go_ret
    exact ⟨D, d, cap, rfl, O1.out, E1.out⟩

end Go.Proofs.YtobnbdoehobigaaDoor
