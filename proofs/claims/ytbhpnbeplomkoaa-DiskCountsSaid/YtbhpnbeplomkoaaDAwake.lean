import Derived.Test.YtbhpnbeplomkoaaDAbs
namespace Go.Proofs.Ytbhpnbeplomkoaa
open Go.RowKit
set_option linter.unusedVariables false
set_option linter.unusedSimpArgs false

theorem bools_lit (base : Nat) (w : World) (l : List Bool) (hl : l.length ≤ 1000) : Bools base (w.alloc (.cells (l.map Value.bool).toArray 4)) (.slice (some ⟨w.heap.size, 0, none⟩) l.length l.length) l := by
  have hh : (w.alloc (.cells (l.map Value.bool).toArray 4)).heap[w.heap.size]? = some (.cells (l.map Value.bool).toArray 4 (0, 0)) := heap_alloc_new w _
  refine ⟨_, _, rfl, Nat.le_refl _, fun h0 => ⟨w.heap.size, 0, rfl, by simp, ?_, fun i hi => ?_⟩⟩
  · rintro ⟨_, c, t, f, h2, h3⟩
    rw [hh] at h2
    simp only [Option.some.injEq, Obj.cells.injEq] at h2
    obtain ⟨_, rfl, _⟩ := h2
    revert h3; decide
  · rw [cell_of_row _ _ _ _ _ _ hh]
    simp [List.getElem?_eq_getElem hi, List.getD_eq_getElem?_getD]

theorem bools_nil (base : Nat) (w : World) : Bools base w (.slice none 0 0) [] := ⟨none, 0, rfl, by simp, fun h => by simp at h⟩

theorem Keep.toExt' {w0 w w' : World} (h0 : Ext w0 w) (h : Keep w w' (Tch w0.heap.size w)) : Ext w0 w' := Keep.toExt h0 h (fun k hk => hk.1)

def mA : DM := DM.new 2 16
def mB : DM := (mA.write 0 (List.replicate 16 1)).1
def mC : DM := (mB.write 0 (List.replicate 16 2)).1
def mD : DM := mC.crash [true] 1 3

set_option maxRecDepth 100000 in
set_option maxHeartbeats 6400000 in
theorem awake_any (w : World) : Calls Try.prog 11 #[] w fun e w' => e = .returned (.bool true) ∧ Ext w w' := by
  have OA : Hid (mA.Ok 0) := Lib.hid (DM.Ok.new 2 16 (by omega) (by omega))
  have OB : Hid (mB.Ok 2) := Lib.hid (DM.Ok.write OA.out 0 _ (by decide))
  have OC : Hid (mC.Ok 4) := Lib.hid (DM.Ok.write OB.out 0 _ (by decide))
  have OD : Hid (mD.Ok 4) := Lib.hid (DM.Ok.crash OC.out _ _ _)
  have NW := Lib.hid (new_d 2 16 w (by omega) (by omega))
  go_enter Try.func11, Try.ntmps11
  go_wp2_with fail
  refine NW.out.mono ?_
  rintro e w1 ⟨D, rfl, hD, hE⟩
  have D1 : Hid (DK w.heap.size w1 D mA) := Lib.hid hD
  have E1 := Lib.hid hE
  clear hD hE NW
  go_wp2_with fail
  refine (fill_any 16 1 w1 (by omega) (by omega)).mono ?_
  rintro e w2 ⟨g, rfl, hO, hE⟩
  have D2 := Lib.hid (D1.out.ext hE)
  have E2 := Lib.hid (E1.out.trans hE)
  have O2 := Lib.hid hO
  clear hO hE D1 E1
  go_wp2_with fail
  refine (write_d 0 _ (List.replicate 16 1) w2 D2.out OA.out (by omega) O2.out.bytes E2.out.size (by decide)).mono ?_
  rintro e w3 ⟨rfl, hD, hK⟩
  have D3 : Hid (DK w.heap.size w3 D mB) := Lib.hid hD
  have E3 := Lib.hid (Keep.toExt' E2.out hK)
  clear hD hK D2 E2 O2
  rw [show (mA.write 0 (List.replicate 16 1)).2 = 0 by decide]
  go_wp2_with fail
  refine (fill_any 16 2 w3 (by omega) (by omega)).mono ?_
  rintro e w4 ⟨g2, rfl, hO, hE⟩
  have D4 := Lib.hid (D3.out.ext hE)
  have E4 := Lib.hid (E3.out.trans hE)
  have O4 := Lib.hid hO
  clear hO hE D3 E3
  go_wp2_with fail
  refine (write_d 0 _ (List.replicate 16 2) w4 D4.out OB.out (by omega) O4.out.bytes E4.out.size (by decide)).mono ?_
  rintro e w5 ⟨rfl, hD, hK⟩
  have D5 : Hid (DK w.heap.size w5 D mC) := Lib.hid hD
  have E5 := Lib.hid (Keep.toExt' E4.out hK)
  clear hD hK D4 E4 O4
  rw [show (mB.write 0 (List.replicate 16 2)).2 = 0 by decide]
  go_wp2_with fail
  have D6 := Lib.hid (D5.out.ext ((Ext.refl w5).alloc (.cells #[.bool true] 4)))
  have E6 := Lib.hid (E5.out.alloc (.cells #[.bool true] 4))
  refine (crash_d _ [true] 1 3 _ D6.out OC.out (by omega) E6.out.size (bools_lit _ w5 [true] (by decide)) (by decide) (by omega) (by omega)).mono ?_
  rintro e w7 ⟨⟨v, rfl⟩, hD, hK⟩
  have D7 : Hid (DK w.heap.size w7 D mD) := Lib.hid hD
  have E7 := Lib.hid (Keep.toExt' E6.out hK)
  clear hD hK D6 E6 D5 E5
  go_wp2_with fail
  refine (read_d 0 w7 D7.out OD.out (by omega) (by decide)).mono ?_
  rintro e w8 ⟨A, cap, rfl, hO, hD, hK⟩
  have E8 := Lib.hid (Keep.toExt' E7.out hK)
  have hsz : mD.sz = 16 := by decide
  rw [hsz] at hO ⊢
  have hnow : mD.now 0 = [2, 2, 2, 1, 1, 1, 1, 1, 1, 1, 1, 1, 1, 1, 1, 1] := by decide
  rw [hnow] at hO
  obtain ⟨gb, rfl⟩ := own_some hO.2.1 (by decide)
  have c2 := hO.2.1.cellAt 2 (by decide)
  have c3 := hO.2.1.cellAt 3 (by decide)
  simp [byteV] at c2 c3
  clear hO hD hK D7 E7 hsz hnow
  go_wp2
  go_ret
  exact ⟨rfl, E8.out⟩

end Go.Proofs.Ytbhpnbeplomkoaa
