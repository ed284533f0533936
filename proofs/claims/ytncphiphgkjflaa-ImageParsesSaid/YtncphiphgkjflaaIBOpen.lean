import Derived.Test.YtncphiphgkjflaaIOpen
import Derived.Test.YtncphiphgkjflaaByt
set_option linter.unusedVariables false
set_option linter.unusedSimpArgs false
namespace Go.Proofs.Ytncphiphgkjflaa
open Go Go.ChangeShapes Go.WideShapes Go.ChangeAt Go.RowKit Go.Deep

set_option maxRecDepth 100000 in
theorem open_bytes_of {H : Type} {enc : TypeId × Value → H} {W : World} {base : Nat} {v : Value} {d : DataW H} {ps : List MemPlace}
    (hval : Value.okWide Try.prog W .any base 59 v) (h : DataW.Trod enc Try.prog W 0 (fun _ => true) true 59 v d ps) : ∃ l, Bytes W v l := by
  obtain ⟨A, n, cap, rfl, hn, hcap, hx, hnil⟩ := open_leafs (P := Try.prog) (t := 59) (e := 5) (ts := [5]) (by kernel_rfl) 4 (by kernel_rfl) (by kernel_rfl) (by decide) hval h
  by_cases h0 : 0 < n
  · obtain ⟨b, off, rfl, hb, hc⟩ := hx h0
    obtain ⟨l, hl, hp⟩ := list_of' (0 : Nat) (n := n) (p := fun i x => x < 256 ∧ W.cell? ⟨b, off + i, none⟩ = some (.int .u8 (x : Int))) (fun i hi => by
      obtain ⟨cs, hr, hcell⟩ := hc i hi
      obtain ⟨t, e0, w0⟩ := leaf_int hr 0 5 rfl (k := .u8) (by kernel_rfl)
      have hb0 := wf_u8 w0
      have := hcell 0 (by decide)
      rw [e0] at this
      refine ⟨t.toNat, by omega, ?_⟩
      rw [show ((t.toNat : Nat) : Int) = t by omega]
      simpa using this)
    refine ⟨l, some ⟨b, off, none⟩, cap, by rw [hl], by omega, hcap, (fun h => by cases h), fun i => ?_, fun _ => ⟨b, off, rfl, hb, fun i hi => (hp i (by omega)).2⟩⟩
    by_cases hi : i < n
    · exact (hp i hi).1
    · rw [List.getD_eq_getElem?_getD, List.getElem?_eq_none (by omega)]; decide
  · obtain rfl : n = 0 := by omega
    exact ⟨[], A, cap, rfl, by simp, hcap, hnil, fun i => by simp, fun h => by simp at h⟩


end Go.Proofs.Ytncphiphgkjflaa
