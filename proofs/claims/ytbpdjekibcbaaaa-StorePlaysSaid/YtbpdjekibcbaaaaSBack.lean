import Derived.RangeFuncNested
import Derived.RangeFuncBound
import Derived.RangeFuncCalls
import Derived.RangeFuncLeaves
import Derived.Shelf.Abstract
import Derived.Shelf.RegionOpen
import Derived.WalkKit
import Derived.OwnWalkIn
import Derived.TacticsInMore
import Derived.LoopNIn
import Derived.LoopIn
import Derived.Test.YtbpdjekibcbaaaaSRng
import Derived.Test.YtbpdjekibcbaaaaSSync
namespace Go.Proofs.Ytbpdjekibcbaaaa
open Go.RowKit Go.Shelf
set_option linter.unusedVariables false
set_option linter.unusedSimpArgs false
attribute [local go_sem] Oper.semAt_some

set_option maxHeartbeats 1600000 in
theorem backward_any (A : Option Addr) (n c : Nat) (w : World) : Calls Try.prog 46 #[.slice A n c] w fun e w' => e = .returned (.func (.func 47) #[] #[.pointer (some ⟨w.heap.size, 0, none⟩)]) ∧ w' = w.alloc (.cells #[.slice A n c] 65) := by
  go_enter Try.func46, Try.ntmps46
  go_wp2
  go_ret
  exact ⟨rfl, rfl⟩

set_option maxRecDepth 100000 in
set_option maxHeartbeats 6400000 in
/-- a walk from the last write to the first: J k holds when k of them are left, Z when the walk was left early -/
theorem back_in (lb Bn base : Nat) (WA : Option Addr) (wc : Nat) (l : List (Nat × Sec)) (hl : l.length ≤ 1000000) (J : Nat → World → Prop) (Z : World → Prop)
    (hJ : ∀ p W, J p W → W.cell? ⟨Bn, 0, none⟩ = some (.slice WA l.length wc) ∧ W.ownsRow base 79 2 (.slice WA l.length wc) l.length (l.flatMap waitV))
    (hY : ∀ p y, l[p]? = some y → ∀ W, J (p + 1) W → YieldAt Fence.wide 5 Try.prog lb #[.int .i64 (p : Int), .agg #[.int .i64 (y.1 : Int), secV y.2]] W fun e W' =>
      (e = .returned (.bool true) ∧ J p W') ∨ (e = .returned (.bool false) ∧ Z W'))
    (W : World) (h0 : J l.length W) :
    CallsIn Fence.wide 6 Try.prog 47 #[.func (.yield lb) #[] #[], .pointer (some ⟨Bn, 0, none⟩)] W fun e W' => (∃ v, e = .returned v) ∧ (J 0 W' ∨ Z W') := by
  have HJ := Lib.hid hJ
  have HY := Lib.hid hY
  have H0 := Lib.hid h0
  obtain ⟨k0, P0⟩ := hJ _ W h0
  obtain ⟨N, hN⟩ : ∃ N, l.length = N := ⟨_, rfl⟩
  rw [hN] at hl k0 H0
  have HN := Lib.hid hN
  clear hJ hY h0 hN P0
  refine callsIn_of_wp Try.func47 rfl trivial ?_ rfl
  simp only [Try.ntmps47, List.size_toArray, List.length_cons, List.length_nil, Nat.reduceAdd, Nat.reduceSub, Array.replicate_succ, Array.replicate_zero, List.push_toArray, List.append_toArray, List.nil_append, List.cons_append]
  gi_wp2
  gi_loopw [3] (fun t3 wr => ∃ p : Nat, p ≤ N ∧ t3 = .int .i64 ((p : Int) - 1) ∧ Hid (J p wr)) (fun t3 _ => (intOf t3 + 1).toNat)
  case atStart => exact ⟨N, by omega, by go_num, H0⟩
  case round =>
    obtain ⟨p, hp, rfl, ST⟩ := hrel
    rcases p with _ | p
    · gi_wp2
      go_end0
      exact ⟨⟨_, rfl⟩, .inl ST.out⟩
    · have hpn : p < N := by omega
      have hpl : p < l.length := by have := HN.out; omega
      obtain ⟨c0, R0⟩ := HJ.out _ _ ST.out
      obtain ⟨f0, f1⟩ := flat2 l p hpl
      obtain ⟨gw, rfl⟩ := own_some R0 (show 0 < l.length by omega)
      have w0 := R0.cellAt (p * 2) (show p * 2 < l.length * 2 by omega)
      have w1 := R0.cellAt (p * 2 + 1) (show p * 2 + 1 < l.length * 2 by omega)
      rw [f0] at w0
      rw [f1] at w1
      have YY := Lib.hid (HY.out p _ (List.getElem?_eq_getElem hpl) wr ST.out)
      rw [HN.out] at c0
      have hpi : (p : Int) < (N : Int) := by omega
      clear f0 f1 R0
      unfold secV at w1 YY
      have e1 : ((p + 1 : Nat) : Int) - 1 = (p : Int) := by omega
      rw [e1]
      obtain ⟨fn, tmps, assign, body, hy, hR⟩ := YY.out
      gi_wp2
      refine hR.mono ?_
      rintro e W3 (⟨rfl, hJ3⟩ | ⟨rfl, hZ⟩)
      · have J3 := Lib.hid hJ3
        clear hJ3 hR hy w0 w1 c0 YY
        gi_wp2
        go_roundw
        case rel => exact ⟨p, by omega, by go_num, J3⟩
        case measure => simp [intOf]
      · have Z3 := Lib.hid hZ
        clear hZ hR hy w0 w1 c0 YY
        gi_wp2
        refine bodyPost_ret (results_none rfl _ _ _) rfl ?_
        exact ⟨⟨_, rfl⟩, .inr Z3.out⟩

end Go.Proofs.Ytbpdjekibcbaaaa
