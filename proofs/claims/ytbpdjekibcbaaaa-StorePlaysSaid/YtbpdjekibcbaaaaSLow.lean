import Derived.Test.YtbpdjekibcbaaaaByt
import Derived.Lib.AppendZerosOnto
import Derived.Lib.Walk
import Derived.Laws.MakeOwn
namespace Go.Proofs.Ytbpdjekibcbaaaa
open Go.RowKit
set_option linter.unusedVariables false
set_option linter.unusedSimpArgs false

set_option maxRecDepth 100000 in
set_option maxHeartbeats 3200000 in
/-- slices.Grow of nil: an empty slice of the call's own, with room -/
theorem grow_nil (n : Nat) (w : World) (h0 : 0 < n) (hn : n ≤ 70368744177664) :
    Calls Try.prog 45 #[.slice none 0 0, .int .i64 n] w fun e w' => ∃ A cap, e = .returned (.slice A 0 cap) ∧ n ≤ cap ∧ Own w.heap.size w' A 0 cap [] ∧ Ext w w' := by
  obtain ⟨i0, hi, hz0, hz1, hz2⟩ := info_parts infoU8
  have hrz : ∀ ty, (Builtin.append_ #[24, 3] ty #[.slice none 0 0, .int .i64 (n : Int)]).run Try.prog w = _ := fun ty =>
    Lib.run_append_grow_zeros w 24 3 ty 5 i0 (.int .u8 0) .i64 .i64 Try.underlying24 Try.underlying3 hi hz0 none 0 0 [] (run_firstCells_none w.drew i0.size 0 0 0) n h0 (by omega) (by omega) (by omega) (by rw [hz2]; omega)
      (growslice_fits (by omega) (by rw [hz2]; omega))
  have hge := grownCap_ge w (0 + n) 0 5
  have hle := grownCap_le_maxLen w (0 + n) 0 5 (by unfold maxLen; omega)
  obtain ⟨G, hG⟩ : ∃ G, G = grownCap w (0 + n) 0 5 := ⟨_, rfl⟩
  rw [← hG] at hrz hge hle
  have hG63 : G ≤ 9223372036854775807 := hle
  have h1 : (0 : Int) < (n : Int) := by omega
  have HG := Lib.hid hge
  have HL := Lib.hid hle
  clear hG hge hle hi hz0 hz1 hz2
  go_enter Try.func45, Try.ntmps45
  go_wp2_with (at_builtin; refine Lib.wpList_append_run _ rfl _ _ _ _ rfl _ _ rfl rfl _ _ (hrz _) ?_)
  go_ret
  refine ⟨_, G, rfl, by have := HG.out; omega, ?_, ((Ext.refl w).alloc _).drew'⟩
  have hO : Own w.heap.size (w.alloc (.cells (Builtin.zeroCells #[Value.int .u8 0] n ++ Builtin.zeroCells #[Value.int .u8 0] (G - n)) 5)) (some ⟨w.heap.size, 0, none⟩) 0 G [] := by
    refine ⟨rfl, World.ownsRow_made w _ G (Nat.le_refl _) HL.out ?_, fun i => by simp⟩
    have := HG.out
    simp only [Array.size_append, size_zeroCells]
    simp
    omega
  exact hO.ext (Ext.drew _)

theorem grow_nil' (z : Int) (w : World) (h0 : 0 < z) (hn : z ≤ 70368744177664) :
    Calls Try.prog 45 #[.slice none 0 0, .int .i64 z] w fun e w' => ∃ A cap, e = .returned (.slice A 0 cap) ∧ Own w.heap.size w' A 0 cap [] ∧ Ext w w' := by
  obtain ⟨n, rfl⟩ : ∃ n : Nat, z = n := ⟨z.toNat, by omega⟩
  exact (grow_nil n w (by omega) (by omega)).mono fun e w' ⟨A, cap, h1, _, h2, h3⟩ => ⟨A, cap, h1, h2, h3⟩

set_option maxRecDepth 100000 in
set_option maxHeartbeats 6400000 in
/-- slices.Concat of two slices of bytes -/
theorem concat2 (g : Nat) (w : World) (A0 A1 : Option Addr) (n0 n1 c0 c1 : Nat) (l0 l1 : List Nat)
    (k0 : w.cell? ⟨g, 0, none⟩ = some (.slice A0 n0 c0)) (k1 : w.cell? ⟨g, 1, none⟩ = some (.slice A1 n1 c1))
    (hg : g < w.heap.size) (b0 : Bytes w (.slice A0 n0 c0) l0) (b1 : Bytes w (.slice A1 n1 c1) l1)
    (hpos : 0 < n0 + n1) (m0 : n0 ≤ 4294967296) (m1 : n1 ≤ 4294967296) :
    Calls Try.prog 39 #[.slice (some ⟨g, 0, none⟩) 2 2] w fun e w' => ∃ A n cap, e = .returned (.slice A n cap) ∧ Own w.heap.size w' A n cap (l0 ++ l1) ∧ Ext w w' := by
  have B0 := Lib.hid b0
  have B1 := Lib.hid b1
  have K := Lib.hid (And.intro k0 k1)
  have HG := Lib.hid hg
  have P0 := Lib.hid hpos
  clear b0 b1 hpos
  go_enter Try.func39, Try.ntmps39
  go_wp2
  refine wp_loop_rounds 3 ?_
  iterate 3
    rw [rounds_succ]
    go_wp2_with fail
  refine (grow_nil' _ _ (by have := P0.out; omega) (by omega)).mono ?_
  rintro e w0 ⟨D0, cap0, rfl, hO, hE⟩
  have N := Lib.hid (And.intro B0.out.len B1.out.len)
  have M := Lib.hid (And.intro m0 m1)
  clear m0 m1 k0 k1 hg
  have O0 := Lib.hid hO
  have E0 := Lib.hid hE
  clear hO hE
  have hk : w0.cell? ⟨g, 0, none⟩ = some (.slice A0 n0 c0) := (E0.out.cell HG.out).trans K.out.1
  have hgw : g < w0.heap.size := Nat.lt_of_lt_of_le HG.out E0.out.size
  go_wp2
  refine wp_loop_rounds 3 ?_
  have Y := Lib.hid (B0.out.ext E0.out)
  have Z : Hid ((([] : List Nat)).length + l0.length ≤ 70368744177664) := Lib.hid (by
    have := N.out; have := M.out; (try simp only [List.length_append, List.length_nil]); omega)
  rw [rounds_succ]
  go_wp2_with (at_builtin; refine wpList_app rfl (.tmp 31) (.tmp 32) rfl rfl rfl O0.out Y.out Z.out E0.out.size ?_)
  intro D1 d1 cap1 w1 hO hgr
  have O1 := Lib.hid hO
  have E1 := Lib.hid (E0.out.grown hgr O0.out.row)
  clear hO hgr hk hgw Y Z
  have hk : w1.cell? ⟨g, 1, none⟩ = some (.slice A1 n1 c1) := (E1.out.cell HG.out).trans K.out.2
  have hgw : g < w1.heap.size := Nat.lt_of_lt_of_le HG.out E1.out.size
  go_wp2
  have Y := Lib.hid (B1.out.ext E1.out)
  have Z : Hid ((l0).length + l1.length ≤ 70368744177664) := Lib.hid (by
    have := N.out; have := M.out; (try simp only [List.length_append, List.length_nil]); omega)
  rw [rounds_succ]
  go_wp2_with (at_builtin; refine wpList_app rfl (.tmp 31) (.tmp 32) rfl rfl rfl O1.out Y.out Z.out E1.out.size ?_)
  intro D2 d2 cap2 w2 hO hgr
  have O2 := Lib.hid hO
  have E2 := Lib.hid (E1.out.grown hgr O1.out.row)
  clear hO hgr hk hgw Y Z
  go_wp2
  rw [rounds_succ]
  go_wp2
  go_ret
  exact ⟨D2, d2, cap2, rfl, by simpa only [List.append_assoc] using O2.out, E2.out⟩

theorem slice_nil_eq (w : World) : (binOp .eql 24 (.slice none 0 0) (.slice none 0 0)).run Try.prog w = .ok (.bool true) w := by kernel_rfl
theorem slice_some_eq (a : Addr) (n c : Nat) (w : World) : (binOp .eql 24 (.slice (some a) n c) (.slice none 0 0)).run Try.prog w = .ok (.bool false) w := by kernel_rfl

set_option maxRecDepth 100000 in
set_option maxHeartbeats 6400000 in
/-- bytes.Clone -/
theorem clone_any (v : Value) (l : List Nat) (w : World) (hb : Bytes w v l) (hl : l.length ≤ 4294967296) :
    Calls Try.prog 40 #[v] w fun e w' => ∃ A n cap, e = .returned (.slice A n cap) ∧ Own w.heap.size w' A n cap l ∧ Ext w w' := by
  have B := Lib.hid hb
  obtain ⟨X, c, rfl, h2, h3, h4, h5, h6⟩ := hb
  cases X with
  | none =>
    have hc := h4 rfl
    subst hc
    have hm : l = [] := List.eq_nil_of_length_eq_zero (by omega)
    subst hm
    have he1 := slice_nil_eq
    have he2 := slice_some_eq
    go_enter Try.func40, Try.ntmps40
    go_wp2
    go_ret
    exact ⟨none, 0, 0, rfl, Own.nil _ _, Ext.refl _⟩
  | some a =>
    clear h4 h5 h6 h2 h3
    have E := Lib.hid ((Ext.refl w).alloc (.cells #[] 5))
    have O : Hid (Own w.heap.size (w.alloc (.cells #[] 5)) (some ⟨w.heap.size, 0, none⟩) 0 0 []) := Own.fresh (Ext.refl w) [] (fun i => by simp) (by simp)
    have Y := Lib.hid (B.out.ext E.out)
    have Z : Hid (([] : List Nat).length + l.length ≤ 70368744177664) := Lib.hid (by simp; omega)
    have he1 := slice_nil_eq
    have he2 := slice_some_eq
    go_enter Try.func40, Try.ntmps40
    go_wp2_with (at_builtin; refine wpList_app rfl (.tmp 5) (.tmp 6) rfl rfl rfl O.out Y.out Z.out E.out.size ?_)
    intro D d cap w1 hO hgr
    have O1 := Lib.hid hO
    have E1 := Lib.hid (E.out.grown hgr O.out.row)
    clear hO hgr
    go_wp2
    go_ret
    exact ⟨D, d, cap, rfl, O1.out, E1.out⟩

/-- a byte is stored in bytes of the call's own -/
theorem Own.stored {base : Nat} {w : World} {g n cap : Nat} {l : List Nat} (h : Own base w (some ⟨g, 0, none⟩) n cap l) (i x : Nat) (hi : i < l.length) (hx : x < 256) :
    Own base (w.setCell ⟨g, i, none⟩ (.int .u8 (x : Int))) (some ⟨g, 0, none⟩) n cap (l.set i x) ∧ w.cell? ⟨g, i, none⟩ = some (.int .u8 ((l.getD i 0 : Nat) : Int)) ∧ w.frozen? ⟨g, i, none⟩ = false := by
  obtain ⟨h1, h2, h3⟩ := h
  refine ⟨⟨by simpa using h1, ?_, fun j => ?_⟩, ?_, h2.frozenAt i⟩
  · have := (h2.stored i (.int .u8 (x : Int))).1
    rwa [show (l.map byteV).set i (.int .u8 (x : Int)) = (l.set i x).map byteV by rw [List.map_set]; rfl] at this
  · rw [List.getD_eq_getElem?_getD, List.getElem?_set]
    split
    · first
        | exact hx
        | (split <;> first | exact hx | decide)
    · rw [← List.getD_eq_getElem?_getD]; exact h3 j
  · rw [h2.cellAt i (by omega), List.getElem?_map, List.getElem?_eq_getElem hi, List.getD_eq_getElem?_getD, List.getElem?_eq_getElem hi]
    rfl

theorem zeros_list (n : Nat) : (madeCells #[.int .u8 0] n).toList = (List.replicate n 0).map byteV := by
  apply List.ext_getElem?
  intro i
  simp only [madeCells, Array.toList_map, List.getElem?_map, List.getElem?_replicate]
  by_cases h : i < n
  · simp [h, Nat.mod_one, byteV]
  · simp [h]

theorem own_zeros (w : World) (n : Nat) (hn : n ≤ 1000000) : Own w.heap.size (w.alloc (.cells (madeCells #[.int .u8 0] n) 5)) (some ⟨w.heap.size, 0, none⟩) n n (List.replicate n 0) := by
  refine ⟨by simp, ?_, fun i => ?_⟩
  · have := World.ownsRow_lit (base := w.heap.size) (e := 5) (size := 1) w (madeCells #[.int .u8 0] n) n (Nat.le_refl _) (by unfold maxLen; omega) (by rw [size_madeCells]; omega)
    rwa [zeros_list] at this
  · rw [List.getD_eq_getElem?_getD, List.getElem?_replicate]
    split <;> decide

end Go.Proofs.Ytbpdjekibcbaaaa
