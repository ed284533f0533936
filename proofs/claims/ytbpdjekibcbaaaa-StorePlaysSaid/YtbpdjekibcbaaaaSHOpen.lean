import Derived.Test.YtbpdjekibcbaaaaOpen
import Derived.Test.YtbpdjekibcbaaaaLeaf
import Derived.Test.YtbpdjekibcbaaaaByt
set_option linter.unusedVariables false
set_option linter.unusedSimpArgs false
namespace Go.Proofs.Ytbpdjekibcbaaaa
open Go Go.ChangeShapes Go.WideShapes Go.ChangeAt Go.RowKit Go.Deep

theorem list_of' {α : Type} (d : α) {n : Nat} {p : Nat → α → Prop} (h : ∀ i, i < n → ∃ x, p i x) : ∃ l : List α, l.length = n ∧ ∀ i, i < n → p i (l.getD i d) := by
  induction n with
  | zero => exact ⟨[], rfl, fun i hi => by omega⟩
  | succ n ih =>
    obtain ⟨l, hl, hp⟩ := ih (fun i hi => h i (by omega))
    obtain ⟨x, hx⟩ := h n (by omega)
    refine ⟨l ++ [x], by simp [hl], fun i hi => ?_⟩
    rw [List.getD_eq_getElem?_getD, List.getElem?_append]
    split
    · have := hp i (by omega); rwa [List.getD_eq_getElem?_getD] at this
    · obtain rfl : i = n := by omega
      simpa [hl] using hx

theorem bytes_of_cells {Wd : World} {A : Option Addr} {n cap : Nat} (hn : n ≤ cap) (hcap : cap ≤ maxLen) {H : Type} {enc : TypeId × Value → H} (hnil : A = none → cap = 0)
    (hx : 0 < n → ∃ b off, A = some ⟨b, off, none⟩ ∧ b < Wd.heap.size ∧ ∀ i, i < n → ∃ cs, LeafsRead enc Try.prog Wd 0 (fun _ => true) true [5] cs ∧ ∀ j, j < ([5] : List TypeId).length → Wd.cell? ⟨b, off + (i * ([5] : List TypeId).length + j), none⟩ = cs[j]?) : ∃ l, Bytes Wd (.slice A n cap) l := by
  by_cases h0 : 0 < n
  · obtain ⟨b, off, rfl, hb, hc⟩ := hx h0
    obtain ⟨l, hl, hp⟩ := list_of' (0 : Nat) (n := n) (p := fun i x => x < 256 ∧ Wd.cell? ⟨b, off + i, none⟩ = some (.int .u8 (x : Int))) (fun i hi => by
      obtain ⟨cs, hr, hcell⟩ := hc i hi
      obtain ⟨t, e0, w0⟩ := leaf_int hr 0 5 rfl (k := .u8) (by kernel_rfl)
      have hb0 := wf_u8 w0
      have := hcell 0 (by decide)
      rw [e0] at this
      refine ⟨t.toNat, by omega, ?_⟩
      rw [show ((t.toNat : Nat) : Int) = t by omega]
      simpa using this)
    refine ⟨l, some ⟨b, off, none⟩, cap, by rw [hl], by omega, hcap, (fun h => by cases h), fun i => ?_, fun _ => ⟨b, off, rfl, hb, fun i hi => (hp i (by omega)).2⟩⟩
    by_cases hi : i < n
    · exact (hp i hi).1
    · rw [List.getD_eq_getElem?_getD, List.getElem?_eq_none (by omega)]; decide
  · obtain rfl : n = 0 := by omega
    exact ⟨[], A, cap, rfl, by simp, hcap, hnil, fun i => by simp, fun h => by simp at h⟩

set_option maxRecDepth 100000 in
theorem open_hdr_of {H : Type} {enc : TypeId × Value → H} {Wd : World} {base : Nat} {v : Value} {d : DataW H} {ps : List MemPlace}
    (hval : Value.okWide Try.prog Wd .any base 23 v) (h : DataW.Trod enc Try.prog Wd 0 (fun _ => true) true 23 v d ps) :
    ∃ (a b c d : Int), v = .agg #[.int .i64 a, .int .i64 b, .int .i64 c, .int .i64 d] ∧ (-9223372036854775808 ≤ a ∧ a ≤ 9223372036854775807) ∧ (-9223372036854775808 ≤ b ∧ b ≤ 9223372036854775807) ∧ (-9223372036854775808 ≤ c ∧ c ≤ 9223372036854775807) ∧ (-9223372036854775808 ≤ d ∧ d ≤ 9223372036854775807) := by
  obtain ⟨cs, rfl, hsz⟩ := okWide_struct Try.underlying23 hval
  obtain ⟨cs', e, hr⟩ := open_value (ts := [3, 3, 3, 3]) ⟨cs, rfl, hsz⟩ 4 (by kernel_rfl) (by kernel_rfl) h
  simp only [Value.agg.injEq] at e
  subst e
  obtain ⟨a, ea, wa⟩ := leaf_int hr 0 3 rfl (k := .i64) (by kernel_rfl)
  obtain ⟨b, eb, wb⟩ := leaf_int hr 1 3 rfl (k := .i64) (by kernel_rfl)
  obtain ⟨c, ec, wc⟩ := leaf_int hr 2 3 rfl (k := .i64) (by kernel_rfl)
  obtain ⟨d, ed, wd⟩ := leaf_int hr 3 3 rfl (k := .i64) (by kernel_rfl)
  refine ⟨a, b, c, d, ?_, wf_i64 wa, wf_i64 wb, wf_i64 wc, wf_i64 wd⟩
  have hlen := hr.1
  match cs', hlen, ea, eb, ec, ed with
  | [x, y, z, t], _, ea, eb, ec, ed =>
    simp at ea eb ec ed
    subst ea eb ec ed
    rfl

set_option maxRecDepth 100000 in
theorem open_heading_of {H : Type} {enc : TypeId × Value → H} {Wd : World} {base : Nat} {v : Value} {d : DataW H} {ps : List MemPlace}
    (hval : Value.okWide Try.prog Wd .any base 26 v) (h : DataW.Trod enc Try.prog Wd 0 (fun _ => true) true 26 v d ps) :
    ∃ (a b c d s k : Int) (x : Value) (l : List Nat), v = .agg #[.int .i64 a, .int .i64 b, .int .i64 c, .int .i64 d, .int .i64 s, .int .i64 k, x] ∧ (-9223372036854775808 ≤ a ∧ a ≤ 9223372036854775807) ∧ (-9223372036854775808 ≤ b ∧ b ≤ 9223372036854775807) ∧ (-9223372036854775808 ≤ c ∧ c ≤ 9223372036854775807) ∧ (-9223372036854775808 ≤ d ∧ d ≤ 9223372036854775807) ∧
      (-9223372036854775808 ≤ s ∧ s ≤ 9223372036854775807) ∧ (-9223372036854775808 ≤ k ∧ k ≤ 9223372036854775807) ∧ Bytes Wd x l := by
  obtain ⟨cs, rfl, hsz⟩ := okWide_struct Try.underlying26 hval
  obtain ⟨cs', e, hr⟩ := open_value (ts := [3, 3, 3, 3, 3, 3, 24]) ⟨cs, rfl, hsz⟩ 4 (by kernel_rfl) (by kernel_rfl) h
  simp only [Value.agg.injEq] at e
  subst e
  obtain ⟨a, ea, wa⟩ := leaf_int hr 0 3 rfl (k := .i64) (by kernel_rfl)
  obtain ⟨b, eb, wb⟩ := leaf_int hr 1 3 rfl (k := .i64) (by kernel_rfl)
  obtain ⟨c, ec, wc⟩ := leaf_int hr 2 3 rfl (k := .i64) (by kernel_rfl)
  obtain ⟨d, ed, wd⟩ := leaf_int hr 3 3 rfl (k := .i64) (by kernel_rfl)
  obtain ⟨s, es, ws⟩ := leaf_int hr 4 3 rfl (k := .i64) (by kernel_rfl)
  obtain ⟨k, ek, wk⟩ := leaf_int hr 5 3 rfl (k := .i64) (by kernel_rfl)
  obtain ⟨A, n, cap, ex, hn, hcap, hx, hnil⟩ := leaf_slice hr 6 24 rfl (e := 5) (by kernel_rfl) 4 (us := [5]) (by kernel_rfl) (by kernel_rfl) (by decide)
  obtain ⟨l, hl⟩ := bytes_of_cells hn hcap hnil hx
  refine ⟨a, b, c, d, s, k, _, l, ?_, wf_i64 wa, wf_i64 wb, wf_i64 wc, wf_i64 wd, wf_i64 ws, wf_i64 wk, hl⟩
  have hlen := hr.1
  match cs', hlen, ea, eb, ec, ed, es, ek, ex with
  | [x, y, z, t, u, r, o], _, ea, eb, ec, ed, es, ek, ex =>
    simp at ea eb ec ed es ek ex
    subst ea eb ec ed es ek ex
    rfl

end Go.Proofs.Ytbpdjekibcbaaaa
