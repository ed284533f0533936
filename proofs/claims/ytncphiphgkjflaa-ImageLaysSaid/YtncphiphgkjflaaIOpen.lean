import Derived.Test.YtncphiphgkjflaaOpen
import Derived.Test.YtncphiphgkjflaaLeaf
import Derived.Test.YtncphiphgkjflaaPix
set_option linter.unusedVariables false
set_option linter.unusedSimpArgs false
namespace Go.Proofs.Ytncphiphgkjflaa
open Go Go.ChangeShapes Go.WideShapes Go.ChangeAt Go.RowKit Go.Deep

theorem list_of' {α : Type} (d : α) {n : Nat} {p : Nat → α → Prop} (h : ∀ i, i < n → ∃ x, p i x) : ∃ l : List α, l.length = n ∧ ∀ i, i < n → p i (l.getD i d) := by
  induction n with
  | zero => exact ⟨[], rfl, fun i hi => by omega⟩
  | succ n ih =>
    obtain ⟨l, hl, hp⟩ := ih (fun i hi => h i (by omega))
    obtain ⟨x, hx⟩ := h n (by omega)
    refine ⟨l ++ [x], by simp [hl], fun i hi => ?_⟩
    rw [List.getD_eq_getElem?_getD, List.getElem?_append]
    split
    · have := hp i (by omega); rwa [List.getD_eq_getElem?_getD] at this
    · obtain rfl : i = n := by omega
      simpa [hl] using hx

set_option maxRecDepth 100000 in
theorem pix_of_cells {Wd : World} {A : Option Addr} {n cap : Nat} (hn : n ≤ cap) (hcap : cap ≤ maxLen) {H : Type} {enc : TypeId × Value → H}
    (hx : 0 < n → ∃ b off, A = some ⟨b, off, none⟩ ∧ b < Wd.heap.size ∧ ∀ i, i < n → ∃ cs, LeafsRead enc Try.prog Wd 0 (fun _ => true) true [5, 5, 5, 5] cs ∧ ∀ j, j < [5, 5, 5, 5].length → Wd.cell? ⟨b, off + (i * [5, 5, 5, 5].length + j), none⟩ = cs[j]?) (hnil : A = none → cap = 0) : ∃ l, Pix .u8 Wd (.slice A n cap) l := by
  by_cases h0 : 0 < n
  · obtain ⟨b, off, rfl, hb, hc⟩ := hx h0
    obtain ⟨l, hl, hp⟩ := list_of' noP (n := n) (p := fun i x => okP x ∧ ∀ j, j < 4 → Wd.cell? ⟨b, off + (i * 4 + j), none⟩ = (cellsP .u8 x)[j]?) (fun i hi => by
      obtain ⟨cs, hr, hcell⟩ := hc i hi
      obtain ⟨t0, e0, w0⟩ := leaf_int hr 0 5 rfl (k := .u8) (by kernel_rfl)
      obtain ⟨t1, e1, w1⟩ := leaf_int hr 1 5 rfl (k := .u8) (by kernel_rfl)
      obtain ⟨t2, e2, w2⟩ := leaf_int hr 2 5 rfl (k := .u8) (by kernel_rfl)
      obtain ⟨t3, e3, w3⟩ := leaf_int hr 3 5 rfl (k := .u8) (by kernel_rfl)
      have b0 := wf_u8 w0
      have b1 := wf_u8 w1
      have b2 := wf_u8 w2
      have b3 := wf_u8 w3
      refine ⟨(t0.toNat, t1.toNat, t2.toNat, t3.toNat), ⟨by simp only; omega, by simp only; omega, by simp only; omega, by simp only; omega⟩, fun j hj => ?_⟩
      have hj' := hcell j hj
      simp only [List.length_cons, List.length_nil, Nat.reduceAdd] at hj'
      rw [hj']
      match j, hj with
      | 0, _ => rw [e0]; simp [cellsP]; omega
      | 1, _ => rw [e1]; simp [cellsP]; omega
      | 2, _ => rw [e2]; simp [cellsP]; omega
      | 3, _ => rw [e3]; simp [cellsP]; omega)
    refine ⟨l, some ⟨b, off, none⟩, cap, by rw [hl], by omega, hcap, (fun h => by cases h), fun i => ?_, fun _ => ⟨b, off, rfl, hb, fun i hi => (hp i (by omega)).2⟩⟩
    by_cases hi : i < n
    · exact (hp i hi).1
    · rw [List.getD_eq_getElem?_getD, List.getElem?_eq_none (by omega)]; exact ⟨by decide, by decide, by decide, by decide⟩
  · obtain rfl : n = 0 := by omega
    exact ⟨[], A, cap, rfl, by simp, hcap, hnil, fun i => by simp [okP, noP], fun h => by simp at h⟩

set_option maxRecDepth 100000 in
theorem open_image_of {H : Type} {enc : TypeId × Value → H} {Wd : World} {base : Nat} {v : Value} {d : DataW H} {ps : List MemPlace}
    (hval : Value.okWide Try.prog Wd .any base 24 v) (h : DataW.Trod enc Try.prog Wd 0 (fun _ => true) true 24 v d ps) :
    ∃ (a b : Int) (x : Value) (l : List Px), v = .agg #[.int .i64 a, .int .i64 b, x] ∧ (-9223372036854775808 ≤ a ∧ a ≤ 9223372036854775807) ∧ (-9223372036854775808 ≤ b ∧ b ≤ 9223372036854775807) ∧ Pix .u8 Wd x l := by
  obtain ⟨cs, rfl, hsz⟩ := okWide_struct Try.underlying24 hval
  obtain ⟨cs', e, hr⟩ := open_value (ts := [3, 3, 22]) ⟨cs, rfl, hsz⟩ 4 (by kernel_rfl) (by kernel_rfl) h
  simp only [Value.agg.injEq] at e
  subst e
  obtain ⟨a, ea, wa⟩ := leaf_int hr 0 3 rfl (k := .i64) (by kernel_rfl)
  obtain ⟨b, eb, wb⟩ := leaf_int hr 1 3 rfl (k := .i64) (by kernel_rfl)
  obtain ⟨A, n, cap, ex, hn, hcap, hx, hnil⟩ := leaf_slice hr 2 22 rfl (e := 40) (by kernel_rfl) 4 (us := [5, 5, 5, 5]) (by kernel_rfl) (by kernel_rfl) (by decide)
  obtain ⟨l, hl⟩ := pix_of_cells hn hcap hx hnil
  refine ⟨a, b, _, l, ?_, wf_i64 wa, wf_i64 wb, hl⟩
  have hlen := hr.1
  match cs', hlen, ea, eb, ex with
  | [x, y, z], _, ea, eb, ex =>
    simp at ea eb ex
    subst ea eb ex
    rfl

set_option maxRecDepth 100000 in
theorem open_box_of {H : Type} {enc : TypeId × Value → H} {Wd : World} {base : Nat} {v : Value} {d : DataW H} {ps : List MemPlace}
    (hval : Value.okWide Try.prog Wd .any base 26 v) (h : DataW.Trod enc Try.prog Wd 0 (fun _ => true) true 26 v d ps) :
    ∃ (a b c d : Int), v = .agg #[.int .i64 a, .int .i64 b, .int .i64 c, .int .i64 d] ∧ (-9223372036854775808 ≤ a ∧ a ≤ 9223372036854775807) ∧ (-9223372036854775808 ≤ b ∧ b ≤ 9223372036854775807) ∧ (-9223372036854775808 ≤ c ∧ c ≤ 9223372036854775807) ∧ (-9223372036854775808 ≤ d ∧ d ≤ 9223372036854775807) := by
  obtain ⟨cs, rfl, hsz⟩ := okWide_struct Try.underlying26 hval
  obtain ⟨cs', e, hr⟩ := open_value (ts := [3, 3, 3, 3]) ⟨cs, rfl, hsz⟩ 4 (by kernel_rfl) (by kernel_rfl) h
  simp only [Value.agg.injEq] at e
  subst e
  obtain ⟨a, ea, wa⟩ := leaf_int hr 0 3 rfl (k := .i64) (by kernel_rfl)
  obtain ⟨b, eb, wb⟩ := leaf_int hr 1 3 rfl (k := .i64) (by kernel_rfl)
  obtain ⟨c, ec, wc⟩ := leaf_int hr 2 3 rfl (k := .i64) (by kernel_rfl)
  obtain ⟨d, ed, wd⟩ := leaf_int hr 3 3 rfl (k := .i64) (by kernel_rfl)
  refine ⟨a, b, c, d, ?_, wf_i64 wa, wf_i64 wb, wf_i64 wc, wf_i64 wd⟩
  have hlen := hr.1
  match cs', hlen, ea, eb, ec, ed with
  | [x, y, z, t], _, ea, eb, ec, ed =>
    simp at ea eb ec ed
    subst ea eb ec ed
    rfl

set_option maxRecDepth 100000 in
theorem open_point_of {H : Type} {enc : TypeId × Value → H} {Wd : World} {base : Nat} {v : Value} {d : DataW H} {ps : List MemPlace}
    (hval : Value.okWide Try.prog Wd .any base 28 v) (h : DataW.Trod enc Try.prog Wd 0 (fun _ => true) true 28 v d ps) :
    ∃ (a b : Int), v = .agg #[.int .i64 a, .int .i64 b] ∧ (-9223372036854775808 ≤ a ∧ a ≤ 9223372036854775807) ∧ (-9223372036854775808 ≤ b ∧ b ≤ 9223372036854775807) := by
  obtain ⟨cs, rfl, hsz⟩ := okWide_struct Try.underlying28 hval
  obtain ⟨cs', e, hr⟩ := open_value (ts := [3, 3]) ⟨cs, rfl, hsz⟩ 4 (by kernel_rfl) (by kernel_rfl) h
  simp only [Value.agg.injEq] at e
  subst e
  obtain ⟨a, ea, wa⟩ := leaf_int hr 0 3 rfl (k := .i64) (by kernel_rfl)
  obtain ⟨b, eb, wb⟩ := leaf_int hr 1 3 rfl (k := .i64) (by kernel_rfl)
  refine ⟨a, b, ?_, wf_i64 wa, wf_i64 wb⟩
  have hlen := hr.1
  match cs', hlen, ea, eb with
  | [x, y], _, ea, eb =>
    simp at ea eb
    subst ea eb
    rfl
end Go.Proofs.Ytncphiphgkjflaa
