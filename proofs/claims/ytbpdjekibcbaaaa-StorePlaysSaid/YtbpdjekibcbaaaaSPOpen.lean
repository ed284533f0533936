import Derived.Test.YtbpdjekibcbaaaaSHOpen
import Derived.Test.YtbpdjekibcbaaaaSPOps
set_option linter.unusedVariables false
set_option linter.unusedSimpArgs false
namespace Go.Proofs.Ytbpdjekibcbaaaa
open Go Go.ChangeShapes Go.WideShapes Go.ChangeAt Go.RowKit Go.Deep

set_option maxRecDepth 100000 in
theorem open_sops_of {H : Type} {enc : TypeId × Value → H} {Wd : World} {base : Nat} {v : Value} {d : DataW H} {ps : List MemPlace}
    (hval : Value.okWide Try.prog Wd .any base 38 v) (h : DataW.Trod enc Try.prog Wd 0 (fun _ => true) true 38 v d ps) : ∃ os, OpsAt Wd v os := by
  obtain ⟨A, n, cap, rfl, hn, hcap, hx, _⟩ := open_leafs (P := Try.prog) (t := 38) (e := 53) (ts := [3, 3, 24, 51, 3, 3]) (by kernel_rfl) 4 (by kernel_rfl) (by kernel_rfl) (by decide) hval h
  have hm : maxLen ≤ 9223372036854775807 := by decide
  by_cases h0 : 0 < n
  · obtain ⟨b, off, rfl, hb, hc⟩ := hx h0
    obtain ⟨os, hos, hp⟩ := list_of' op0 (n := n) (p := fun i o => okO Wd o ∧ ∀ j, j < 6 → Wd.cell? ⟨b, off + (i * 6 + j), none⟩ = (opCells o)[j]?) (fun i hi => by
      obtain ⟨cs, hr, hcell⟩ := hc i hi
      obtain ⟨t0, e0, w0⟩ := leaf_int hr 0 3 rfl (k := .i64) (by kernel_rfl)
      obtain ⟨t1, e1, w1⟩ := leaf_int hr 1 3 rfl (k := .i64) (by kernel_rfl)
      obtain ⟨DA, dn, dc, e2, hd1, hd2, hdx, hdn⟩ := leaf_slice hr 2 24 rfl (e := 5) (by kernel_rfl) 4 (us := [5]) (by kernel_rfl) (by kernel_rfl) (by decide)
      obtain ⟨KA, kn, kc, e3, hk1, hk2, _, _⟩ := leaf_slice hr 3 51 rfl (e := 4) (by kernel_rfl) 4 (us := [4]) (by kernel_rfl) (by kernel_rfl) (by decide)
      obtain ⟨t4, e4, w4⟩ := leaf_int hr 4 3 rfl (k := .i64) (by kernel_rfl)
      obtain ⟨t5, e5, w5⟩ := leaf_int hr 5 3 rfl (k := .i64) (by kernel_rfl)
      obtain ⟨dl, hdl⟩ := bytes_of_cells hd1 hd2 hdn hdx
      refine ⟨⟨t0, t1, DA, dn, dc, dl, KA, kn, kc, t4, t5⟩, ⟨hdl, by dsimp only; omega⟩, fun j hj => ?_⟩
      have hj' := hcell j hj
      simp only [List.length_cons, List.length_nil, Nat.reduceAdd] at hj'
      rw [hj']
      match j, hj with
      | 0, _ => rw [e0]; rfl
      | 1, _ => rw [e1]; rfl
      | 2, _ => rw [e2]; rfl
      | 3, _ => rw [e3]; rfl
      | 4, _ => rw [e4]; rfl
      | 5, _ => rw [e5]; rfl)
    subst hos
    exact ⟨os, _, cap, rfl, hn, by omega, fun _ => ⟨b, off, rfl, hb, hp⟩⟩
  · obtain rfl : n = 0 := by omega
    exact ⟨[], A, cap, rfl, by simp, by omega, fun h => by simp at h⟩

end Go.Proofs.Ytbpdjekibcbaaaa
