import Derived.Test.YtblfplkocljlgaaOpen
import Derived.Test.YtblfplkocljlgaaLeaf
import Derived.Test.YtblfplkocljlgaaTKey
set_option linter.unusedVariables false
set_option linter.unusedSimpArgs false
namespace Go.Proofs.Ytblfplkocljlgaa
open Go Go.ChangeShapes Go.WideShapes Go.ChangeAt Go.RowKit Go.Deep

theorem list_of' {α : Type} (d : α) {n : Nat} {p : Nat → α → Prop} (h : ∀ i, i < n → ∃ x, p i x) : ∃ l : List α, l.length = n ∧ ∀ i, i < n → p i (l.getD i d) := by
  induction n with
  | zero => exact ⟨[], rfl, fun i hi => by omega⟩
  | succ n ih =>
    obtain ⟨l, hl, hp⟩ := ih (fun i hi => h i (by omega))
    obtain ⟨x, hx⟩ := h n (by omega)
    refine ⟨l ++ [x], by simp [hl], fun i hi => ?_⟩
    rw [List.getD_eq_getElem?_getD, List.getElem?_append]
    split
    · have := hp i (by omega); rwa [List.getD_eq_getElem?_getD] at this
    · obtain rfl : i = n := by omega
      simpa [hl] using hx

set_option maxRecDepth 100000 in
theorem open_box_of {H : Type} {enc : TypeId × Value → H} {Wd : World} {base : Nat} {v : Value} {d : DataW H} {ps : List MemPlace}
    (hval : Value.okWide Try.prog Wd .any base 25 v) (h : DataW.Trod enc Try.prog Wd 0 (fun _ => true) true 25 v d ps) :
    ∃ (a b c d : Int), v = .agg #[.int .i64 a, .int .i64 b, .int .i64 c, .int .i64 d] ∧ (-9223372036854775808 ≤ a ∧ a ≤ 9223372036854775807) ∧ (-9223372036854775808 ≤ b ∧ b ≤ 9223372036854775807) ∧ (-9223372036854775808 ≤ c ∧ c ≤ 9223372036854775807) ∧ (-9223372036854775808 ≤ d ∧ d ≤ 9223372036854775807) := by
  obtain ⟨cs, rfl, hsz⟩ := okWide_struct Try.underlying25 hval
  obtain ⟨cs', e, hr⟩ := open_value (ts := [3, 3, 3, 3]) ⟨cs, rfl, hsz⟩ 4 (by kernel_rfl) (by kernel_rfl) h
  simp only [Value.agg.injEq] at e
  subst e
  obtain ⟨a, ea, wa⟩ := leaf_int hr 0 3 rfl (k := .i64) (by kernel_rfl)
  obtain ⟨b, eb, wb⟩ := leaf_int hr 1 3 rfl (k := .i64) (by kernel_rfl)
  obtain ⟨c, ec, wc⟩ := leaf_int hr 2 3 rfl (k := .i64) (by kernel_rfl)
  obtain ⟨d, ed, wd⟩ := leaf_int hr 3 3 rfl (k := .i64) (by kernel_rfl)
  refine ⟨a, b, c, d, ?_, wf_i64 wa, wf_i64 wb, wf_i64 wc, wf_i64 wd⟩
  have hlen := hr.1
  match cs', hlen, ea, eb, ec, ed with
  | [x, y, z, t], _, ea, eb, ec, ed =>
    simp at ea eb ec ed
    subst ea eb ec ed
    rfl

set_option maxRecDepth 100000 in
theorem open_key_of {H : Type} {enc : TypeId × Value → H} {Wd : World} {base : Nat} {v : Value} {d : DataW H} {ps : List MemPlace}
    (hval : Value.okWide Try.prog Wd .any base 23 v) (h : DataW.Trod enc Try.prog Wd 0 (fun _ => true) true 23 v d ps) :
    ∃ (a b : Int), v = .agg #[.int .i64 a, .int .i64 b] ∧ (-9223372036854775808 ≤ a ∧ a ≤ 9223372036854775807) ∧ (-9223372036854775808 ≤ b ∧ b ≤ 9223372036854775807) := by
  obtain ⟨cs, rfl, hsz⟩ := okWide_struct Try.underlying23 hval
  obtain ⟨cs', e, hr⟩ := open_value (ts := [3, 3]) ⟨cs, rfl, hsz⟩ 4 (by kernel_rfl) (by kernel_rfl) h
  simp only [Value.agg.injEq] at e
  subst e
  obtain ⟨a, ea, wa⟩ := leaf_int hr 0 3 rfl (k := .i64) (by kernel_rfl)
  obtain ⟨b, eb, wb⟩ := leaf_int hr 1 3 rfl (k := .i64) (by kernel_rfl)
  refine ⟨a, b, ?_, wf_i64 wa, wf_i64 wb⟩
  have hlen := hr.1
  match cs', hlen, ea, eb with
  | [x, y], _, ea, eb =>
    simp at ea eb
    subst ea eb
    rfl

set_option maxRecDepth 100000 in
theorem open_keys_of {H : Type} {enc : TypeId × Value → H} {Wd : World} {base : Nat} {v : Value} {d : DataW H} {ps : List MemPlace}
    (hval : Value.okWide Try.prog Wd .any base 33 v) (h : DataW.Trod enc Try.prog Wd 0 (fun _ => true) true 33 v d ps) : ∃ l, Kys Wd v l := by
  obtain ⟨A, n, cap, rfl, hn, hcap, hx, hnil⟩ := open_leafs (P := Try.prog) (t := 33) (e := 23) (ts := [3, 3]) (by kernel_rfl) 4 (by kernel_rfl) (by kernel_rfl) (by decide) hval h
  have hm : maxLen ≤ 9223372036854775807 := by decide
  by_cases h0 : 0 < n
  · obtain ⟨b, off, rfl, hb, hc⟩ := hx h0
    obtain ⟨l, hl, hp⟩ := list_of' noK (n := n) (p := fun i x => inK x ∧ ∀ j, j < 2 → Wd.cell? ⟨b, off + (i * 2 + j), none⟩ = (cellsK x)[j]?) (fun i hi => by
      obtain ⟨cs, hr, hcell⟩ := hc i hi
      obtain ⟨t0, e0, w0⟩ := leaf_int hr 0 3 rfl (k := .i64) (by kernel_rfl)
      obtain ⟨t1, e1, w1⟩ := leaf_int hr 1 3 rfl (k := .i64) (by kernel_rfl)
      have b0 := wf_i64 w0
      have b1 := wf_i64 w1
      refine ⟨(t0, t1), ⟨b0.1, b0.2, b1.1, b1.2⟩, fun j hj => ?_⟩
      have hj' := hcell j hj
      simp only [List.length_cons, List.length_nil, Nat.reduceAdd] at hj'
      rw [hj']
      match j, hj with
      | 0, _ => rw [e0]; rfl
      | 1, _ => rw [e1]; rfl)
    refine ⟨l, some ⟨b, off, none⟩, cap, by rw [hl], by omega, by omega, (fun h => by cases h), fun i => ?_, fun _ => ⟨b, off, rfl, hb, fun i hi => (hp i (by omega)).2⟩⟩
    by_cases hi : i < n
    · exact (hp i hi).1
    · rw [List.getD_eq_getElem?_getD, List.getElem?_eq_none (by omega)]; simp [inK, noK]
  · obtain rfl : n = 0 := by omega
    exact ⟨[], A, cap, rfl, by simp, by omega, hnil, fun i => by simp [inK, noK], fun h => by simp at h⟩

end Go.Proofs.Ytblfplkocljlgaa
