import Derived.Test.YtobnbdoehobigaaDoorFrLaw
namespace Go.Proofs.YtobnbdoehobigaaDoor
open Go.RowKit
set_option linter.unusedVariables false
set_option linter.unusedSimpArgs false

/-- the lowest bytes of a number, the highest of them first -/
def beR (n : Nat) : Nat → List Nat
  | 0 => []
  | i + 1 => n / 256 ^ i % 256 :: beR n i

theorem beR_len (n i : Nat) : (beR n i).length = i := by
  induction i with
  | zero => rfl
  | succ i ih => simp [beR, ih]

theorem beR_4 (n : Nat) : beR n 4 = be4 n := by simp [beR, be4]
theorem beR_8 (n : Nat) : beR n 8 = be8 n := by simp [beR, be8]

set_option maxRecDepth 100000 in
set_option maxHeartbeats 3200000 in
theorem refHigh_any (n size : Nat) (w : World) (hn : n ≤ 9223372036854775807) (hs : size ≤ 8) :
    Calls Tryd.prog 33 #[.int .i64 n, .int .i64 size] w fun e w' => ∃ A k cap, e = .returned (.slice A k cap) ∧ Own w.heap.size w' A k cap (beR n size) ∧ Ext w w' := by
  go_enter Tryd.func33, Tryd.ntmps33
  go_wp2
  go_loopw [0, 5, 6] (fun t0 t5 t6 wr => ∃ (i m : Nat) (A1 : Option Addr) (n1 cap1 : Nat), i ≤ size ∧ t0 = .int .i64 (m : Int) ∧ m = n / 256 ^ i ∧ m ≤ 9223372036854775807 ∧ t5 = .slice A1 n1 cap1 ∧ t6 = .int .i64 (i : Int) ∧ Own w.heap.size wr A1 n1 cap1 (beR n i) ∧ Ext w wr) (fun _ _ t6 _ => size - (intOf t6).toNat)
  case atStart => exact ⟨0, n, none, 0, 0, by omega, rfl, by simp, hn, rfl, rfl, Own.nil _ _, Ext.refl _⟩
  case round =>
    obtain ⟨i, m, A1, n1, cap1, hi, rfl, hm, hmb, rfl, rfl, hO, hE⟩ := hrel
    have O := Lib.hid hO
    have E := Lib.hid hE
    have HM := Lib.hid hm
    clear hO hE hm
    by_cases hlt : i < size
    · have hlt' : (i : Int) < (size : Int) := by omega
      have E0 : Hid (Ext w (wr.alloc (.cells #[.int .u8 ((m : Int) % 256)] 5))) := E.out.alloc _
      have O0 : Hid (Own w.heap.size (wr.alloc (.cells #[.int .u8 ((m : Int) % 256)] 5)) (some ⟨wr.heap.size, 0, none⟩) 1 1 [m % 256]) := by
        have h := Own.fresh E.out [m % 256] (lt_one (by omega)) (by simp)
        exact Lib.hid (by simpa [byteV] using h)
      have Y := Lib.hid (O.out.bytes.ext ((Ext.refl wr).alloc (.cells #[.int .u8 ((m : Int) % 256)] 5)))
      have Z : Hid ([m % 256].length + (beR n i).length ≤ 70368744177664) := Lib.hid (by rw [beR_len]; simp; omega)
      go_wp2_with (at_builtin; refine wpList_app rfl (.tmp 15) (.tmp 16) rfl rfl rfl O0.out Y.out Z.out E0.out.size ?_)
      intro D d cap w1 hO hgr
      have O1 := Lib.hid hO
      have E1 := Lib.hid (E0.out.grown hgr O0.out.row)
      clear hO hgr
      go_wp2
      go_roundw
      case rel =>
        refine ⟨i + 1, m / 256, D, d, cap, by omega, by go_num, ?_, by omega, rfl, by go_num, ?_, E1.out⟩
        · rw [HM.out, Nat.div_div_eq_div_mul, Nat.pow_succ]
        · have : beR n (i + 1) = [m % 256] ++ beR n i := by rw [HM.out]; rfl
          rw [this]; exact O1.out
      case measure => simp [intOf]; omega
    · have hlt' : ¬ (i : Int) < (size : Int) := by omega
      obtain rfl : i = size := by omega
      go_wp2
      go_ret
      exact ⟨A1, n1, cap1, rfl, O.out, E.out⟩

end Go.Proofs.YtobnbdoehobigaaDoor
