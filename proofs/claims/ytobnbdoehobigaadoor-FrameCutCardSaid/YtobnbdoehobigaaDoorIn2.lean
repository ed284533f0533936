import Derived.Test.YtobnbdoehobigaaDoorIn
import Derived.Test.YtobnbdoehobigaaDoorNums
set_option linter.unusedVariables false
set_option linter.unusedSimpArgs false
namespace Go.Proofs.YtobnbdoehobigaaDoor
open Go Go.ChangeShapes Go.WideShapes Go.ChangeAt Go.RowKit Go.Deep

theorem trod_cell_bytes {H : Type} {enc : TypeId × Value → H} {W : World} {n : Nat} {v : Value} {y : DataW H × List MemPlace} (h : DataW.trod enc Tryd.prog W 0 (fun _ => true) true n 22 [v] = some y) : ∃ A l c, v = .slice A l c ∧ ∃ L, Bytes W v L := by
  rcases open_slice (t := 22) (e := 5) (by kernel_rfl) h with ⟨hcs, _⟩ | ⟨a, len, cap, mm, nn, D, Pl, hcs, hb, hlen, hcap, hm, _, hx⟩
  · simp at hcs
    exact ⟨none, 0, 0, hcs, [], none, 0, by rw [hcs]; rfl, by simp, by simp, fun _ => rfl, fun i => by simp, fun h => by simp at h⟩
  · simp at hcs
    subst hcs
    refine ⟨_, _, _, rfl, ?_⟩
    have hmm : mm = cap := by simpa using hm
    have key : ∀ i, i < len → ∃ x : Nat, x < 256 ∧ W.cell? (a.add i) = some (.int .u8 (x : Int)) := by
      intro i hi
      obtain ⟨cs, h2, h3⟩ := hx i (by omega)
      obtain ⟨_, hl2, hc2⟩ := World.cells?_some h2
      rw [show Tryd.prog.cellsOf 5 = 1 by kernel_rfl] at hl2 hc2
      obtain ⟨x, e, _, wf⟩ := DataW.trod_int (k := .u8) (by kernel_rfl) h3
      subst e
      have hb0 := wf_u8 wf
      have := hc2 0 (by omega)
      refine ⟨x.toNat, by omega, ?_⟩
      rw [show ((x.toNat : Nat) : Int) = x by omega]
      simpa [Addr.add] using this
    by_cases h0 : 0 < len
    · obtain ⟨x0, _, hcell⟩ := key 0 h0
      obtain ⟨b, off, spot⟩ := a
      have hspot : spot = none := by simpa [Addr.add] using World.cell?_spot hcell
      subst hspot
      obtain ⟨l, hl, hp⟩ := list_of (n := len) (p := fun i x => x < 256 ∧ W.cell? ⟨b, off + i, none⟩ = some (.int .u8 (x : Int))) (fun i hi => by
        have := key i hi
        rwa [addr_add] at this)
      refine ⟨l, some ⟨b, off, none⟩, cap, by rw [hl], by omega, hcap, (fun h => by cases h), fun i => ?_, fun _ => ⟨b, off, rfl, by simpa [Addr.add] using block_lt_of_cell hcell, fun i hi => (hp i (by omega)).2⟩⟩
      by_cases hi : i < len
      · exact (hp i hi).1
      · rw [List.getD_eq_getElem?_getD, List.getElem?_eq_none (by omega)]; decide
    · obtain rfl : len = 0 := by omega
      exact ⟨[], some a, cap, rfl, by simp, hcap, (fun h => by cases h), fun i => by simp, fun h => by simp at h⟩

theorem list_of' {α : Type} (d : α) {n : Nat} {p : Nat → α → Prop} (h : ∀ i, i < n → ∃ x, p i x) : ∃ l : List α, l.length = n ∧ ∀ i, i < n → p i (l.getD i d) := by
  refine ⟨(List.range n).map (fun i => if hi : i < n then Classical.choose (h i hi) else d), by simp, fun i hi => ?_⟩
  rw [List.getD_eq_getElem?_getD, List.getElem?_map, List.getElem?_range hi]
  simp only [Option.map_some, Option.getD_some, dif_pos hi]
  exact Classical.choose_spec (h i hi)

theorem open_ints_of {H : Type} {enc : TypeId × Value → H} {W : World} {base : Nat} {v : Value} {d : DataW H} {ps : List MemPlace}
    (hval : Value.okWide Tryd.prog W .any base 28 v) (h : DataW.Trod enc Tryd.prog W 0 (fun _ => true) true 28 v d ps) : ∃ l, Ints W v l := by
  obtain ⟨A, n, cap, rfl, hn, hcap, hx, hnil⟩ := open_leafs (P := Tryd.prog) (t := 28) (e := 3) (ts := [3]) (by kernel_rfl) 4 (by kernel_rfl) (by kernel_rfl) (by decide) hval h
  by_cases h0 : 0 < n
  · obtain ⟨b, off, rfl, hb, hc⟩ := hx h0
    obtain ⟨l, hl, hp⟩ := list_of' (0 : Int) (n := n) (p := fun i x => (-9223372036854775808 ≤ x ∧ x ≤ 9223372036854775807) ∧ W.cell? ⟨b, off + i, none⟩ = some (.int .i64 x)) (fun i hi => by
      obtain ⟨cs, hr, hcell⟩ := hc i hi
      obtain ⟨t, e0, w0⟩ := leaf_int hr 0 3 rfl (k := .i64) (by kernel_rfl)
      have := hcell 0 (by decide)
      rw [e0] at this
      exact ⟨t, wf_i64 w0, by simpa using this⟩)
    refine ⟨l, some ⟨b, off, none⟩, cap, by rw [hl], by omega, hcap, fun i => ?_, fun _ => ⟨b, off, rfl, hb, fun i hi => (hp i (by omega)).2⟩⟩
    by_cases hi : i < n
    · exact (hp i hi).1
    · rw [List.getD_eq_getElem?_getD, List.getElem?_eq_none (by omega)]; decide
  · obtain rfl : n = 0 := by omega
    exact ⟨[], A, cap, rfl, by simp, hcap, fun i => by simp, fun h => by simp at h⟩

theorem open_texts_of {H : Type} {enc : TypeId × Value → H} {W : World} {base : Nat} {v : Value} {d : DataW H} {ps : List MemPlace}
    (hval : Value.okWide Tryd.prog W .any base 29 v) (h : DataW.Trod enc Tryd.prog W 0 (fun _ => true) true 29 v d ps) : ∃ l, Texts W v l := by
  obtain ⟨A, n, cap, rfl, hn, hcap, hx, hnil⟩ := open_leafs (P := Tryd.prog) (t := 29) (e := 22) (ts := [22]) (by kernel_rfl) 4 (by kernel_rfl) (by kernel_rfl) (by decide) hval h
  by_cases h0 : 0 < n
  · obtain ⟨b, off, rfl, hb, hc⟩ := hx h0
    obtain ⟨l, hl, hp⟩ := list_of' ([] : List Nat) (n := n) (p := fun i x => ∃ B m c, Bytes W (.slice B m c) x ∧ W.cell? ⟨b, off + i, none⟩ = some (.slice B m c)) (fun i hi => by
      obtain ⟨cs, hr, hcell⟩ := hc i hi
      obtain ⟨u, hu, k, y, hy⟩ := hr.2 0 22 rfl
      obtain ⟨B, m, c, rfl, L, hL⟩ := trod_cell_bytes hy
      have := hcell 0 (by decide)
      rw [hu] at this
      exact ⟨L, B, m, c, hL, by simpa using this⟩)
    exact ⟨l, some ⟨b, off, none⟩, cap, by rw [hl], by omega, hcap, fun _ => ⟨b, off, rfl, hb, fun i hi => hp i (by omega)⟩⟩
  · obtain rfl : n = 0 := by omega
    exact ⟨[], A, cap, rfl, by simp, hcap, fun h => by simp at h⟩

end Go.Proofs.YtobnbdoehobigaaDoor
