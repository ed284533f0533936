/- Chapter 10: stops that come in, opened. -/
import Derived.Test.YtnginblfdamfbaaLeaf
import Derived.Test.YtnginblfdamfbaaPaintStops
set_option linter.unusedVariables false
set_option linter.unusedSimpArgs false
namespace Go.Proofs.Ytnginblfdamfbaa
open Go Go.ChangeShapes Go.WideShapes Go.ChangeAt Go.RowKit

theorem leaf_int {H : Type} {enc : TypeId × Value → H} {P : Program} {w : World} {base : Nat} {sp : Nat → Bool} {held : Bool} {ts : List TypeId} {cs : List Value} {k : IntKind}
    (h : LeafsRead enc P w base sp held ts cs) (j : Nat) (t : TypeId) (hj : ts[j]? = some t) (hu : P.underlying t = some (.int k)) : ∃ n : Int, cs[j]? = some (.int k n) ∧ (Lit.int k n).wf = true := by
  obtain ⟨v, hv, n, y, hy⟩ := h.2 j t hj
  obtain ⟨x, e, _, wf⟩ := DataW.trod_int hu hy
  simp at e
  subst e
  exact ⟨x, hv, wf⟩

theorem open_stops {H : Type} {enc : TypeId × Value → H} {W : World} {base : Nat} {v : Value} {d : DataW H} {ps : List MemPlace}
    (hval : Value.okWide Try.prog W .any base 47 v) (h : DataW.Trod enc Try.prog W 0 (fun _ => true) true 47 v d ps) : ∃ n S, Stops W v n S ∧ StopsB n S := by
  obtain ⟨A, n, cap, rfl, hn, hcap, hx, _⟩ := open_leafs (P := Try.prog) (t := 47) (e := 49) (ts := [3, 5, 5, 5, 5]) (by kernel_rfl) 4 (by kernel_rfl) (by kernel_rfl) (by decide) hval h
  by_cases h0 : 0 < n
  · obtain ⟨b, off, rfl, hb, hc⟩ := hx h0
    have key : ∀ i, i < n → ∃ s : StopI, (W.cell? ⟨b, off + i * 5, none⟩ = some (.int .i64 s.t) ∧ W.cell? ⟨b, off + (i * 5 + 1), none⟩ = some (.int .u8 s.r) ∧ W.cell? ⟨b, off + (i * 5 + 2), none⟩ = some (.int .u8 s.g) ∧
        W.cell? ⟨b, off + (i * 5 + 3), none⟩ = some (.int .u8 s.b) ∧ W.cell? ⟨b, off + (i * 5 + 4), none⟩ = some (.int .u8 s.a)) ∧
        ((-9223372036854775808 ≤ s.t ∧ s.t ≤ 9223372036854775807) ∧ (0 ≤ s.r ∧ s.r ≤ 255) ∧ (0 ≤ s.g ∧ s.g ≤ 255) ∧ (0 ≤ s.b ∧ s.b ≤ 255) ∧ (0 ≤ s.a ∧ s.a ≤ 255)) := by
      intro i hi
      obtain ⟨cs, hr, hcell⟩ := hc i hi
      obtain ⟨t, e0, w0⟩ := leaf_int hr 0 3 rfl (k := .i64) (by kernel_rfl)
      obtain ⟨r, e1, w1⟩ := leaf_int hr 1 5 rfl (k := .u8) (by kernel_rfl)
      obtain ⟨g, e2, w2⟩ := leaf_int hr 2 5 rfl (k := .u8) (by kernel_rfl)
      obtain ⟨b', e3, w3⟩ := leaf_int hr 3 5 rfl (k := .u8) (by kernel_rfl)
      obtain ⟨a, e4, w4⟩ := leaf_int hr 4 5 rfl (k := .u8) (by kernel_rfl)
      refine ⟨⟨t, r, g, b', a⟩, ⟨?_, ?_, ?_, ?_, ?_⟩, wf_i64 w0, wf_u8 w1, wf_u8 w2, wf_u8 w3, wf_u8 w4⟩
      · have := hcell 0 (by decide); rw [e0] at this; simpa using this
      · have := hcell 1 (by decide); rw [e1] at this; simpa using this
      · have := hcell 2 (by decide); rw [e2] at this; simpa using this
      · have := hcell 3 (by decide); rw [e3] at this; simpa using this
      · have := hcell 4 (by decide); rw [e4] at this; simpa using this
    refine ⟨n, fun i => if hi : i < n then Classical.choose (key i hi) else ⟨0, 0, 0, 0, 0⟩, ⟨some ⟨b, off, none⟩, cap, rfl, hn, hcap, fun _ => ⟨b, off, rfl, hb, fun i hi => ?_⟩⟩, fun i hi => ?_⟩
    · simp only [dif_pos hi]; exact (Classical.choose_spec (key i hi)).1
    · simp only [dif_pos hi]; exact (Classical.choose_spec (key i hi)).2
  · exact ⟨n, fun _ => ⟨0, 0, 0, 0, 0⟩, ⟨A, cap, rfl, hn, hcap, fun h => absurd h h0⟩, fun i hi => by omega⟩
end Go.Proofs.Ytnginblfdamfbaa
