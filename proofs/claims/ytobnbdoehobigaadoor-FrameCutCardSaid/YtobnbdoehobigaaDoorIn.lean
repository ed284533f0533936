import Derived.Test.YtobnbdoehobigaaDoorLeaf
import Derived.Test.YtobnbdoehobigaaDoorSums
import Derived.Lib.LaidTab
set_option linter.unusedVariables false
set_option linter.unusedSimpArgs false
namespace Go.Proofs.YtobnbdoehobigaaDoor
open Go Go.ChangeShapes Go.WideShapes Go.ChangeAt Go.RowKit

theorem leaf_int {H : Type} {enc : TypeId × Value → H} {P : Program} {w : World} {base : Nat} {sp : Nat → Bool} {held : Bool} {ts : List TypeId} {cs : List Value} {k : IntKind}
    (h : LeafsRead enc P w base sp held ts cs) (j : Nat) (t : TypeId) (hj : ts[j]? = some t) (hu : P.underlying t = some (.int k)) : ∃ n : Int, cs[j]? = some (.int k n) ∧ (Lit.int k n).wf = true := by
  obtain ⟨v, hv, n, y, hy⟩ := h.2 j t hj
  obtain ⟨x, e, _, wf⟩ := DataW.trod_int hu hy
  simp at e
  subst e
  exact ⟨x, hv, wf⟩

theorem list_of {n : Nat} {p : Nat → Nat → Prop} (h : ∀ i, i < n → ∃ x, p i x) : ∃ l : List Nat, l.length = n ∧ ∀ i, i < n → p i (l.getD i 0) := by
  refine ⟨(List.range n).map (fun i => if hi : i < n then Classical.choose (h i hi) else 0), by simp, fun i hi => ?_⟩
  rw [List.getD_eq_getElem?_getD, List.getElem?_map, List.getElem?_range hi]
  simp only [Option.map_some, Option.getD_some, dif_pos hi]
  exact Classical.choose_spec (h i hi)

theorem open_bytes_of {H : Type} {enc : TypeId × Value → H} {W : World} {base : Nat} {v : Value} {d : DataW H} {ps : List MemPlace}
    (hval : Value.okWide Tryd.prog W .any base 22 v) (h : DataW.Trod enc Tryd.prog W 0 (fun _ => true) true 22 v d ps) : ∃ l, Bytes W v l := by
  obtain ⟨A, n, cap, rfl, hn, hcap, hx, hnil⟩ := open_leafs (P := Tryd.prog) (t := 22) (e := 5) (ts := [5]) (by kernel_rfl) 4 (by kernel_rfl) (by kernel_rfl) (by decide) hval h
  by_cases h0 : 0 < n
  · obtain ⟨b, off, rfl, hb, hc⟩ := hx h0
    obtain ⟨l, hl, hp⟩ := list_of (n := n) (p := fun i x => x < 256 ∧ W.cell? ⟨b, off + i, none⟩ = some (.int .u8 (x : Int))) (fun i hi => by
      obtain ⟨cs, hr, hcell⟩ := hc i hi
      obtain ⟨t, e0, w0⟩ := leaf_int hr 0 5 rfl (k := .u8) (by kernel_rfl)
      have hb0 := wf_u8 w0
      have := hcell 0 (by decide)
      rw [e0] at this
      refine ⟨t.toNat, by omega, ?_⟩
      rw [show ((t.toNat : Nat) : Int) = t by omega]
      simpa using this)
    refine ⟨l, some ⟨b, off, none⟩, cap, by rw [hl], by omega, hcap, (fun h => by cases h), fun i => ?_, fun _ => ⟨b, off, rfl, hb, fun i hi => (hp i (by omega)).2⟩⟩
    by_cases hi : i < n
    · exact (hp i hi).1
    · rw [List.getD_eq_getElem?_getD, List.getElem?_eq_none (by omega)]; decide
  · obtain rfl : n = 0 := by omega
    exact ⟨[], A, cap, rfl, by simp, hcap, hnil, fun i => by simp, fun h => by simp at h⟩

theorem gTab : Tryd.prog.globalNamed "limner/frame.half" = some 0 := by kernel_rfl
theorem gTabType : (Tryd.prog.globals[0]?).map (·.type) = some 61 := by kernel_rfl
theorem cells61 : Tryd.prog.cellsOf 61 = 16 := by kernel_rfl
theorem cells24 : Tryd.prog.cellsOf 24 = 1 := by kernel_rfl

theorem tab_of {W : World} (h : laidMetH Tryd.prog Rows.frameSumsRow.laid W) : Tab W := by
  have t : Lib.TabIs Tryd.prog W "limner/frame.half" .u32 [0, 0x1db71064, 0x3b6e20c8, 0x26d930ac, 0x76dc4190, 0x6b6b51f4, 0x4db26158, 0x5005713c, 0xedb88320, 0xf00f9344, 0xd6d6a3e8, 0xcb61b38c, 0x9b64c2b0, 0x86d3d2d4, 0xa00ae278, 0xbdbdf21c] :=
    Lib.tabIs_of_head (rest := []) gTab gTabType Tryd.underlying61 Tryd.underlying24 cells24 cells61 h
  have key : ∀ j, j < 16 → W.cell? ⟨0, j, none⟩ = some (.int .u32 ((halfs.getD j 0 : Nat) : Int)) := by
    intro j hj
    match j, hj with
    | 0, _ => exact t.cell gTab 0 (by decide)
    | 1, _ => exact t.cell gTab 1 (by decide)
    | 2, _ => exact t.cell gTab 2 (by decide)
    | 3, _ => exact t.cell gTab 3 (by decide)
    | 4, _ => exact t.cell gTab 4 (by decide)
    | 5, _ => exact t.cell gTab 5 (by decide)
    | 6, _ => exact t.cell gTab 6 (by decide)
    | 7, _ => exact t.cell gTab 7 (by decide)
    | 8, _ => exact t.cell gTab 8 (by decide)
    | 9, _ => exact t.cell gTab 9 (by decide)
    | 10, _ => exact t.cell gTab 10 (by decide)
    | 11, _ => exact t.cell gTab 11 (by decide)
    | 12, _ => exact t.cell gTab 12 (by decide)
    | 13, _ => exact t.cell gTab 13 (by decide)
    | 14, _ => exact t.cell gTab 14 (by decide)
    | 15, _ => exact t.cell gTab 15 (by decide)
    | n + 16, h => exact absurd h (by omega)
  exact ⟨World.block_lt_of_cell? W ⟨0, 0, none⟩ (key 0 (by decide)), key⟩
end Go.Proofs.YtobnbdoehobigaaDoor
