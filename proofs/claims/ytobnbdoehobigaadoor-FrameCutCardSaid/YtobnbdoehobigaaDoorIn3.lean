import Derived.Test.YtobnbdoehobigaaDoorIn
set_option linter.unusedVariables false
set_option linter.unusedSimpArgs false
namespace Go.Proofs.YtobnbdoehobigaaDoor
open Go Go.ChangeShapes Go.WideShapes Go.ChangeAt Go.RowKit Go.Deep

section
variable {H : Type} {enc : TypeId × Value → H} {P : Program} {w : World} {base : Nat} {sp : Nat → Bool} {held : Bool}

/-- A slice, opened down to the cells of its elements. -/
theorem open_leafs_of {t e : TypeId} {v : Value} {d : DataW H} {ps : List MemPlace} {ts : List TypeId} (ht : P.underlying t = some (.slice e)) (m : Nat) (hl : leafs P m e = some ts) (hc : P.cellsOf e = ts.length) (hz : 0 < ts.length)
    (hform : ∃ A n cap, v = .slice A n cap) (h : DataW.Trod enc P w 0 (fun _ => true) true t v d ps) :
    ∃ (A : Option Addr) (n cap : Nat), v = .slice A n cap ∧ n ≤ cap ∧ cap ≤ maxLen ∧ (0 < n → ∃ b off, A = some ⟨b, off, none⟩ ∧ b < w.heap.size ∧
      ∀ i, i < n → ∃ cs, LeafsRead enc P w 0 (fun _ => true) true ts cs ∧ ∀ j, j < ts.length → w.cell? ⟨b, off + (i * ts.length + j), none⟩ = cs[j]?) ∧ (A = none → cap = 0) := by
  obtain ⟨A, n, cap, rfl⟩ := hform
  obtain ⟨fuel, hf⟩ := h
  rcases open_slice ht hf with ⟨hcs, _⟩ | ⟨a, len, cap', mm, nn, D, Pl, hcs, hb, hlen, hcap, hm, _, hx⟩
  · simp [Value.cells] at hcs
    obtain ⟨rfl, rfl, rfl⟩ := hcs
    exact ⟨none, 0, 0, rfl, Nat.le_refl _, Nat.zero_le _, fun h => by omega, fun _ => rfl⟩
  · simp [Value.cells] at hcs
    obtain ⟨rfl, rfl, rfl⟩ := hcs
    refine ⟨some a, n, cap, rfl, hlen, hcap, fun hn => ?_, fun h => by cases h⟩
    simp only [if_true] at hm
    · obtain ⟨cs0, h0, h1⟩ := hx 0 (by omega)
      obtain ⟨_, hl0, hc0⟩ := World.cells?_some h0
      have hcell := hc0 0 (by omega)
      rw [List.getElem?_eq_getElem (by omega)] at hcell
      obtain ⟨b, off, spot⟩ := a
      have hspot : spot = none := by simpa [Addr.add] using World.cell?_spot hcell
      subst hspot
      refine ⟨b, off, rfl, by simpa [Addr.add] using block_lt_of_cell hcell, fun i hi => ?_⟩
      obtain ⟨cs, h2, h3⟩ := hx i (by omega)
      obtain ⟨_, hl2, hc2⟩ := World.cells?_some h2
      refine ⟨cs, leafs_read m hl h3 (by omega) hc, fun j hj => ?_⟩
      have := hc2 j (by omega)
      rw [hc] at this
      rw [addr_add, addr_add, Nat.add_assoc] at this
      exact this
/-- A slice, opened down to the cells of its elements. -/
theorem leaf_slice {ts us : List TypeId} {cs : List Value} {e : TypeId} (h : LeafsRead enc P w 0 (fun _ => true) true ts cs) (j : Nat) (t : TypeId) (hj : ts[j]? = some t) (ht : P.underlying t = some (.slice e)) (m : Nat) (hl : leafs P m e = some us) (hc : P.cellsOf e = us.length) (hz : 0 < us.length) :
    ∃ (A : Option Addr) (n cap : Nat), cs[j]? = some (.slice A n cap) ∧ n ≤ cap ∧ cap ≤ maxLen ∧ (0 < n → ∃ b off, A = some ⟨b, off, none⟩ ∧ b < w.heap.size ∧
      ∀ i, i < n → ∃ cs, LeafsRead enc P w 0 (fun _ => true) true us cs ∧ ∀ j, j < us.length → w.cell? ⟨b, off + (i * us.length + j), none⟩ = cs[j]?) ∧ (A = none → cap = 0) := by
  obtain ⟨v, hv, n, y, hy⟩ := h.2 j t hj
  obtain ⟨A, l, c, e⟩ : ∃ A l c, v = .slice A l c := by
    rcases open_slice ht hy with ⟨hcs, _⟩ | ⟨a', len', cap', m, n, D, Pl, hcs, _⟩
    · simp at hcs; exact ⟨_, _, _, hcs⟩
    · simp at hcs; exact ⟨_, _, _, hcs⟩
  subst e
  obtain ⟨A', n', cap', e, rest⟩ := open_leafs_of (v := .slice A l c) (d := y.1) (ps := y.2) ht m hl hc hz ⟨A, l, c, rfl⟩ ⟨n, by simpa [Value.cells] using hy⟩
  exact ⟨A', n', cap', by rw [hv, e], rest⟩

/-- A struct or an array by value, opened down to its cells. -/
theorem open_value {t : TypeId} {v : Value} {d : DataW H} {ps : List MemPlace} {ts : List TypeId} (hagg : ∃ cs, v = .agg cs ∧ cs.size = P.cellsOf t) (m : Nat) (hl : leafs P m t = some ts) (hc : P.cellsOf t = ts.length)
    (h : DataW.Trod enc P w base sp held t v d ps) : ∃ cs : List Value, v = .agg cs.toArray ∧ LeafsRead enc P w base sp held ts cs := by
  obtain ⟨cs, rfl, hsz⟩ := hagg
  obtain ⟨fuel, hf⟩ := h
  exact ⟨cs.toList, by simp, leafs_read m hl (by simpa [Value.cells] using hf) (by simpa using hsz) hc⟩
end

theorem bytes_of_cells {W : World} {A : Option Addr} {n cap : Nat} (hn : n ≤ cap) (hcap : cap ≤ maxLen) {H : Type} {enc : TypeId × Value → H}
    (hx : 0 < n → ∃ b off, A = some ⟨b, off, none⟩ ∧ b < W.heap.size ∧ ∀ i, i < n → ∃ cs, LeafsRead enc Tryd.prog W 0 (fun _ => true) true [5] cs ∧ ∀ j, j < [5].length → W.cell? ⟨b, off + (i * [5].length + j), none⟩ = cs[j]?) (hnil : A = none → cap = 0) : ∃ l, Bytes W (.slice A n cap) l := by
  by_cases h0 : 0 < n
  · obtain ⟨b, off, rfl, hb, hc⟩ := hx h0
    obtain ⟨l, hl, hp⟩ := list_of (n := n) (p := fun i x => x < 256 ∧ W.cell? ⟨b, off + i, none⟩ = some (.int .u8 (x : Int))) (fun i hi => by
      obtain ⟨cs, hr, hcell⟩ := hc i hi
      obtain ⟨t, e0, w0⟩ := leaf_int hr 0 5 rfl (k := .u8) (by kernel_rfl)
      have hb0 := wf_u8 w0
      have := hcell 0 (by decide)
      rw [e0] at this
      refine ⟨t.toNat, by omega, ?_⟩
      rw [show ((t.toNat : Nat) : Int) = t by omega]
      simpa using this)
    refine ⟨l, some ⟨b, off, none⟩, cap, by rw [hl], by omega, hcap, (fun h => by cases h), fun i => ?_, fun _ => ⟨b, off, rfl, hb, fun i hi => (hp i (by omega)).2⟩⟩
    by_cases hi : i < n
    · exact (hp i hi).1
    · rw [List.getD_eq_getElem?_getD, List.getElem?_eq_none (by omega)]; decide
  · obtain rfl : n = 0 := by omega
    exact ⟨[], A, cap, rfl, by simp, hcap, hnil, fun i => by simp, fun h => by simp at h⟩

theorem open_record_of {H : Type} {enc : TypeId × Value → H} {W : World} {base : Nat} {v : Value} {d : DataW H} {ps : List MemPlace}
    (hval : Value.okWide Tryd.prog W .any base 46 v) (h : DataW.Trod enc Tryd.prog W 0 (fun _ => true) true 46 v d ps) :
    ∃ (a b : Int) (x : Value) (l : List Nat), v = .agg #[.int .i64 a, .int .i64 b, x] ∧ (-9223372036854775808 ≤ a ∧ a ≤ 9223372036854775807) ∧ (-9223372036854775808 ≤ b ∧ b ≤ 9223372036854775807) ∧ Bytes W x l := by
  obtain ⟨cs, rfl, hsz⟩ := okWide_struct Tryd.underlying46 hval
  obtain ⟨cs', e, hr⟩ := open_value (ts := [3, 3, 22]) ⟨cs, rfl, hsz⟩ 4 (by kernel_rfl) (by kernel_rfl) h
  simp only [Value.agg.injEq] at e
  subst e
  obtain ⟨a, ea, wa⟩ := leaf_int hr 0 3 rfl (k := .i64) (by kernel_rfl)
  obtain ⟨b, eb, wb⟩ := leaf_int hr 1 3 rfl (k := .i64) (by kernel_rfl)
  obtain ⟨A, n, cap, ex, hn, hcap, hx, hnil⟩ := leaf_slice hr 2 22 rfl (e := 5) (by kernel_rfl) 4 (us := [5]) (by kernel_rfl) (by kernel_rfl) (by decide)
  obtain ⟨l, hl⟩ := bytes_of_cells hn hcap hx hnil
  refine ⟨a, b, _, l, ?_, wf_i64 wa, wf_i64 wb, hl⟩
  have hlen := hr.1
  match cs', hlen, ea, eb, ex with
  | [x, y, z], _, ea, eb, ex =>
    simp at ea eb ex
    subst ea eb ex
    rfl
end Go.Proofs.YtobnbdoehobigaaDoor
