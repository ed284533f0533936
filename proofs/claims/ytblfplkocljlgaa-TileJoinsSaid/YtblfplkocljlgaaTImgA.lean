import Derived.Test.YtblfplkocljlgaaTOwnP
import Derived.Deep.RegionHeld3
namespace Go.Proofs.Ytblfplkocljlgaa
open Go.RowKit
set_option linter.unusedVariables false
set_option linter.unusedSimpArgs false

theorem slice_nil_eq (w : World) : (binOp .eql 45 (.slice none 0 0) (.slice none 0 0)).run Try.prog w = .ok (.bool true) w := by kernel_rfl
theorem slice_some_eq (a : Addr) (n c : Nat) (w : World) : (binOp .eql 45 (.slice (some a) n c) (.slice none 0 0)).run Try.prog w = .ok (.bool false) w := by kernel_rfl

theorem own_empty {w0 w : World} (h : Ext w0 w) : OwnP .u8 68 w0.heap.size (w.alloc (.cells #[] 68)) (.slice (some ⟨w.heap.size, 0, none⟩) 0 0) [] := by
  refine ⟨?_, fun i => by simp [okP, noP]⟩
  have := World.ownsRow_lit (e := 68) (size := 4) w (#[] : Array Value) 0 h.size (by simp) (by simp)
  simpa using this

set_option maxRecDepth 100000 in
set_option maxHeartbeats 1600000 in
theorem clone_any (v : Value) (l : List Px) (w : World) (hl : Pix .u8 w v l) (hn : l.length ≤ 1000000) :
    Calls Try.prog 48 #[v] w fun e w' => ∃ v', e = .returned v' ∧ OwnP .u8 68 w.heap.size w' v' l ∧ Ext w w' := by
  have P := Lib.hid hl
  obtain ⟨X, c, rfl, h2, h3, h4, h5, h6⟩ := hl
  cases X with
  | none =>
    have hc := h4 rfl
    subst hc
    have hm : l = [] := List.eq_nil_of_length_eq_zero (by omega)
    subst hm
    have he1 := slice_nil_eq
    have he2 := slice_some_eq
    go_enter Try.func48, Try.ntmps48
    go_wp2
    go_ret
    exact ⟨_, rfl, OwnP.nil _ _ _ _, Ext.refl _⟩
  | some a =>
    clear h4 h5 h6 h2 h3
    have E := Lib.hid ((Ext.refl w).alloc (.cells #[] 68))
    have O := Lib.hid (own_empty (Ext.refl w))
    have Y := Lib.hid (P.out.ext E.out)
    have Z : Hid (([] : List Px).length + l.length ≤ 1000000) := Lib.hid (by simpa using hn)
    have he1 := slice_nil_eq
    have he2 := slice_some_eq
    go_enter Try.func48, Try.ntmps48
    go_wp2_with (at_builtin; refine wpList_pxs pxC rfl (.tmp 5) (.tmp 6) rfl rfl rfl O.out Y.out Z.out E.out.size ?_)
    intro v' w1 hO hgr _
    have O1 := Lib.hid hO
    have E1 := Lib.hid (E.out.grown hgr O.out.row)
    clear hO hgr
    go_wp2
    go_ret
    exact ⟨v', rfl, O1.out, E1.out⟩

theorem emptyBox_any (x0 y0 x1 y1 : Int) (w : World) :
    Calls Try.prog 13 #[.agg #[.int .i64 x0, .int .i64 y0, .int .i64 x1, .int .i64 y1]] w fun e w' => e = .returned (.bool (decide (x1 ≤ x0) || decide (y1 ≤ y0))) ∧ Ext w w' := by
  by_cases h : x1 ≤ x0
  · go_enter Try.func13, Try.ntmps13
    go_wp2
    go_ret
    exact ⟨ret_bool (by simp [h]), (Ext.refl w).alloc _⟩
  · go_enter Try.func13, Try.ntmps13
    go_wp2
    go_ret
    exact ⟨ret_bool (by simp; omega), (Ext.refl w).alloc _⟩

theorem take_succ_getD {α : Type} (l : List α) (i : Nat) (d : α) (hi : i < l.length) : l.take (i + 1) = l.take i ++ [l.getD i d] := by
  rw [List.take_succ_eq_append_getElem hi, List.getD_eq_getElem?_getD, List.getElem?_eq_getElem hi]; rfl

end Go.Proofs.Ytblfplkocljlgaa
