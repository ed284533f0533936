import Derived.Test.YtbhpnbeplomkoaaDAwake
namespace Go.Proofs.Ytbhpnbeplomkoaa
open Go.RowKit
set_option linter.unusedVariables false
set_option linter.unusedSimpArgs false

def tA : DM := DM.new 1 32
def tB (o : Nat) : DM := (tA.write 0 (List.replicate 32 o)).1
def tC (o : Nat) : DM := (tB o).sync.1
def tD (o y : Nat) : DM := ((tC o).write 0 (List.replicate 32 y)).1
def tE (o y : Nat) (cut : Int) : DM := (tD o y).crash [] 0 cut

set_option maxRecDepth 100000 in
set_option maxHeartbeats 6400000 in
theorem DiskTears_walk (a0 a1 a2 : Int) (w : World) (b0 : 0 ≤ a0 ∧ a0 ≤ 255) (b1 : 0 ≤ a1 ∧ a1 ≤ 255) (b2 : -9223372036854775808 ≤ a2 ∧ a2 ≤ 9223372036854775807) :
    Calls Try.prog 3 #[.int .u8 a0, .int .u8 a1, .int .i64 a2] w fun e w' => e = .returned (.bool true) ∧ Ext w w' := by
  obtain ⟨o, rfl⟩ : ∃ o : Nat, a0 = (o : Int) := ⟨a0.toNat, by omega⟩
  obtain ⟨y, rfl⟩ : ∃ y : Nat, a1 = (y : Int) := ⟨a1.toNat, by omega⟩
  have ho : o < 256 := by omega
  have hy : y < 256 := by omega
  clear b0 b1
  have OA : Hid (tA.Ok 0) := Lib.hid (DM.Ok.new 1 32 (by omega) (by omega))
  have OB : Hid ((tB o).Ok 2) := Lib.hid (DM.Ok.write OA.out 0 _ (by simp; rfl))
  have OC : Hid ((tC o).Ok 3) := Lib.hid (DM.Ok.sync OB.out)
  have OD : Hid ((tD o y).Ok 5) := Lib.hid (DM.Ok.write OC.out 0 _ (by simp; rfl))
  have OE : Hid ((tE o y a2).Ok 5) := Lib.hid (DM.Ok.crash OD.out _ _ _)
  have NW := Lib.hid (new_d 1 32 w (by omega) (by omega))
  go_enter Try.func3, Try.ntmps3
  go_wp2_with fail
  refine NW.out.mono ?_
  rintro e w1 ⟨D, rfl, hD, hE⟩
  have D1 : Hid (DK w.heap.size w1 D tA) := Lib.hid hD
  have E1 := Lib.hid hE
  clear hD hE NW
  go_wp2_with fail
  refine (fill_any 32 o w1 (by omega) ho).mono ?_
  rintro e w2 ⟨g, rfl, hO, hE⟩
  have D2 := Lib.hid (D1.out.ext hE)
  have E2 := Lib.hid (E1.out.trans hE)
  have O2 := Lib.hid hO
  clear hO hE D1 E1
  go_wp2_with fail
  refine (write_d 0 _ (List.replicate 32 o) w2 D2.out OA.out (by omega) O2.out.bytes E2.out.size (by simp; rfl)).mono ?_
  rintro e w3 ⟨rfl, hD, hK⟩
  have D3 : Hid (DK w.heap.size w3 D (tB o)) := Lib.hid hD
  have E3 := Lib.hid (Keep.toExt' E2.out hK)
  clear hD hK D2 E2 O2
  rw [show (tA.write 0 (List.replicate 32 o)).2 = 0 from rfl]
  go_wp2_with fail
  refine (sync_d w3 D3.out OB.out (by omega) E3.out.size).mono ?_
  rintro e w4 ⟨rfl, hD, hK⟩
  have D4 : Hid (DK w.heap.size w4 D (tC o)) := Lib.hid hD
  have E4 := Lib.hid (Keep.toExt' E3.out hK)
  clear hD hK D3 E3
  rw [show (tB o).sync.2 = 0 from rfl]
  go_wp2_with fail
  refine (fill_any 32 y w4 (by omega) hy).mono ?_
  rintro e w5 ⟨g2, rfl, hO, hE⟩
  have D5 := Lib.hid (D4.out.ext hE)
  have E5 := Lib.hid (E4.out.trans hE)
  have O5 := Lib.hid hO
  clear hO hE D4 E4
  go_wp2_with fail
  refine (write_d 0 _ (List.replicate 32 y) w5 D5.out OC.out (by omega) O5.out.bytes E5.out.size (by simp; rfl)).mono ?_
  rintro e w6 ⟨rfl, hD, hK⟩
  have D6 : Hid (DK w.heap.size w6 D (tD o y)) := Lib.hid hD
  have E6 := Lib.hid (Keep.toExt' E5.out hK)
  clear hD hK D5 E5 O5
  rw [show ((tC o).write 0 (List.replicate 32 y)).2 = 0 from rfl]
  go_wp2_with fail
  refine (crash_d _ [] 0 a2 w6 D6.out OD.out (by omega) E6.out.size (bools_nil _ w6) (by simp) (by omega) b2).mono ?_
  rintro e w7 ⟨⟨v, rfl⟩, hD, hK⟩
  have D7 : Hid (DK w.heap.size w7 D (tE o y a2)) := Lib.hid hD
  have E7 := Lib.hid (Keep.toExt' E6.out hK)
  clear hD hK D6 E6
  go_wp2_with fail
  refine (read_d 0 w7 D7.out OE.out (by omega) (by rfl)).mono ?_
  rintro e w8 ⟨A, cap, rfl, hO, hD, hK⟩
  have E8 := Lib.hid (Keep.toExt' E7.out hK)
  have hsz : (tE o y a2).sz = 32 := rfl
  rw [hsz] at hO ⊢
  have hnow : (tE o y a2).now 0 = (List.replicate 32 y).take (min (max a2 0) 32).toNat ++ (List.replicate 32 o).drop (min (max a2 0) 32).toNat := rfl
  rw [hnow] at hO
  obtain ⟨gb, rfl⟩ := own_some hO.2.1 (by decide)
  have O8 := Lib.hid hO
  clear hO hD hK D7 E7 hsz hnow
  have hat : ∀ i, i < 32 → ((List.replicate 32 y).take (min (max a2 0) 32).toNat ++ (List.replicate 32 o).drop (min (max a2 0) 32).toNat).getD i 0 = if (i : Int) < a2 then y else o := fun i hi => by
    rw [List.getD_eq_getElem?_getD, List.getElem?_append]
    simp only [List.length_take, List.length_replicate]
    split
    · rw [List.getElem?_take, if_pos (by omega), List.getElem?_replicate, if_pos hi, if_pos (by omega)]; rfl
    · rw [List.getElem?_drop, List.getElem?_replicate, if_pos (by omega), if_neg (by omega)]; rfl
  have HAT := Lib.hid hat
  have hgl := (O8.out.2.1.lt gb rfl).2
  clear hat
  have AW := Lib.hid (awake_any w8)
  go_wp2
  go_loopw [52] (fun t52 wr => ∃ i : Nat, i ≤ 32 ∧ t52 = .int .i64 (i : Int) ∧ Hid (wr = w8)) (fun t52 _ => 32 - (intOf t52).toNat)
  case atStart => exact ⟨0, by omega, rfl, Lib.hid rfl⟩
  case round =>
    obtain ⟨i, hi, rfl, ST⟩ := hrel
    obtain rfl := ST.out
    by_cases hlt : i < 32
    · have hlt' : (i : Int) < 32 := by omega
      have c0 := O8.out.2.1.cellAt i (by simpa using hlt)
      have hil : i < ((List.replicate 32 y).take (min (max a2 0) 32).toNat ++ (List.replicate 32 o).drop (min (max a2 0) 32).toNat).length := by have := O8.out.1; omega
      have hv := HAT.out i hlt
      rw [List.getD_eq_getElem?_getD, List.getElem?_eq_getElem hil, Option.getD_some] at hv
      rw [List.getElem?_map, List.getElem?_eq_getElem hil, hv] at c0
      simp only [Option.map_some, byteV] at c0
      clear hv hil
      by_cases hc : (i : Int) < a2
      · rw [if_pos hc] at c0
        go_wp2
        go_roundw
        case rel => exact ⟨i + 1, by omega, by go_num, Lib.hid trivial⟩
        case measure => simp [intOf]; omega
      · rw [if_neg hc] at c0
        have hc' : decide ((i : Int) < a2) = false := by simpa using hc
        go_wp2
        go_roundw
        case rel => exact ⟨i + 1, by omega, by go_num, Lib.hid trivial⟩
        case measure => simp [intOf]; omega
    · have hlt' : ¬ (i : Int) < 32 := by omega
      go_wp2_with fail
      refine AW.out.mono ?_
      rintro e w9 ⟨rfl, hE⟩
      have E9 := Lib.hid (E8.out.trans hE)
      clear hE
      go_wp2
      go_ret
      exact ⟨rfl, E9.out⟩

end Go.Proofs.Ytbhpnbeplomkoaa
