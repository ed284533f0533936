import Derived.Test.YtbhpnbeplomkoaaDOps
import Derived.Test.YtbhpnbeplomkoaaOpen
import Derived.Test.YtbhpnbeplomkoaaLeaf
set_option linter.unusedVariables false
set_option linter.unusedSimpArgs false
namespace Go.Proofs.Ytbhpnbeplomkoaa
open Go Go.ChangeShapes Go.WideShapes Go.ChangeAt Go.RowKit Go.Deep

set_option maxRecDepth 100000 in
theorem open_ops_of {H : Type} {enc : TypeId × Value → H} {Wd : World} {base : Nat} {v : Value} {d : DataW H} {ps : List MemPlace}
    (hval : Value.okWide Try.prog Wd .any base 34 v) (h : DataW.Trod enc Try.prog Wd 0 (fun _ => true) true 34 v d ps) : ∃ n, OpsAt Wd v n := by
  obtain ⟨A, n, cap, rfl, hn, hcap, hx, _⟩ := open_leafs (P := Try.prog) (t := 34) (e := 40) (ts := [3, 3, 5, 3, 38, 3, 3]) (by kernel_rfl) 4 (by kernel_rfl) (by kernel_rfl) (by decide) hval h
  have hm : maxLen ≤ 9223372036854775807 := by decide
  refine ⟨n, A, cap, rfl, hn, by omega, fun h0 => ?_⟩
  obtain ⟨b, off, rfl, hb, hc⟩ := hx h0
  refine ⟨b, off, rfl, hb, fun i hi => ?_⟩
  obtain ⟨cs, hr, hcell⟩ := hc i hi
  obtain ⟨t0, e0, w0⟩ := leaf_int hr 0 3 rfl (k := .i64) (by kernel_rfl)
  obtain ⟨t1, e1, w1⟩ := leaf_int hr 1 3 rfl (k := .i64) (by kernel_rfl)
  obtain ⟨t2, e2, w2⟩ := leaf_int hr 2 5 rfl (k := .u8) (by kernel_rfl)
  obtain ⟨t3, e3, w3⟩ := leaf_int hr 3 3 rfl (k := .i64) (by kernel_rfl)
  obtain ⟨KA, kn, kc, e4, hk1, hk2, _, _⟩ := leaf_slice hr 4 38 rfl (e := 4) (by kernel_rfl) 4 (us := [4]) (by kernel_rfl) (by kernel_rfl) (by decide)
  obtain ⟨t5, e5, w5⟩ := leaf_int hr 5 3 rfl (k := .i64) (by kernel_rfl)
  obtain ⟨t6, e6, w6⟩ := leaf_int hr 6 3 rfl (k := .i64) (by kernel_rfl)
  have b2 := wf_u8 w2
  refine ⟨⟨t0, t1, t2.toNat, t3, KA, kn, kc, t5, t6⟩, ⟨wf_i64 w0, wf_i64 w1, by dsimp only; omega, by dsimp only; omega⟩, fun j hj => ?_⟩
  have hj' := hcell j hj
  simp only [List.length_cons, List.length_nil, Nat.reduceAdd] at hj'
  rw [hj']
  match j, hj with
  | 0, _ => rw [e0]; rfl
  | 1, _ => rw [e1]; rfl
  | 2, _ => rw [e2]; simp [opCells]; omega
  | 3, _ => rw [e3]; rfl
  | 4, _ => rw [e4]; rfl
  | 5, _ => rw [e5]; rfl
  | 6, _ => rw [e6]; rfl

end Go.Proofs.Ytbhpnbeplomkoaa
