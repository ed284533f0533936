
import Derived.Test.YtobnbdoehobigaaDoorAwake
namespace Go.Proofs.YtobnbdoehobigaaDoor
open Go.RowKit
set_option linter.unusedVariables false
set_option linter.unusedSimpArgs false

/-- a sum's four bytes, the lowest first -/
def le4 (s : Nat) : List Nat := [s % 256, s / 256 % 256, s / 65536 % 256, s / 16777216 % 256]

theorem le4_lt (n : Nat) : ∀ i, (le4 n).getD i 0 < 256 := by
  intro i
  unfold le4
  match i with
  | 0 | 1 | 2 | 3 => simp <;> omega
  | n + 4 => simp

set_option maxRecDepth 100000 in
set_option maxHeartbeats 6400000 in
theorem FrameSums_walk (v : Value) (l : List Nat) (w : World) (hb : Bytes w v l) (hT : Tab w) : Calls Tryd.prog 3 #[v] w fun e w' => e = .returned (.bool true) ∧ Ext w w' := by
  have T := Lib.hid hT
  have B := Lib.hid hb
  clear hT
  obtain ⟨X, c, rfl, c2, c3, c4, c5, c6⟩ := hb
  have H5 := Lib.hid c5
  clear c4 c5 c6
  by_cases hlen : 3000 < l.length
  · have hl : (3000 : Int) < (l.length : Int) := by omega
    go_enter Tryd.func3, Tryd.ntmps3
    go_wp2_with fail
    refine (awake_any _ T.out).mono ?_
    rintro e w' ⟨rfl, g, rfl⟩
    go_wp2
    go_ret
    exact ⟨rfl, ⟨g, rfl⟩⟩
  · have hl : ¬ (3000 : Int) < (l.length : Int) := by omega
    have HC := Lib.hid (crc_lt 4294967295 l (by decide) (fun x hx => by
      obtain ⟨i, hi, rfl⟩ := List.getElem_of_mem hx
      have := H5.out i
      rwa [List.getD_eq_getElem?_getD, List.getElem?_eq_getElem hi] at this))
    have HW := Lib.hid (crc_own (crc 4294967295 l) HC.out)
    obtain ⟨S, hS⟩ : ∃ S, 4294967295 - crc 4294967295 l = S := ⟨_, rfl⟩
    have hS1 : S ≤ 4294967295 := by omega
    have hS2 : (S : Int) ≤ 4294967295 := by omega
    have C1 := Lib.hid (fun (w' : World) (h : Ext w w') => sum_any (.slice X l.length c) l w' (B.out.ext h) (T.out.ext h))
    have C2 := Lib.hid (fun (w' : World) (h : Ext w w') => refSum_any (.slice X l.length c) l w' (B.out.ext h))
    rw [hS] at HW C1 C2
    have HS := Lib.hid hS
    clear hS
    go_enter Tryd.func3, Tryd.ntmps3
    go_wp2_with fail
    refine (C1.out _ (Ext.refl w)).mono ?_
    rintro e w' ⟨rfl, g, rfl⟩
    have E0 : Hid (Ext w ((w.ext g).alloc (.cells #[] 5))) := ((Ext.refl w).ext g).alloc _
    have O : Hid (Own w.heap.size ((w.ext g).alloc (.cells #[] 5)) (some ⟨w.heap.size + g.blocks.size, 0, none⟩) 0 0 []) := by
      have := Own.fresh ((Ext.refl w).ext g) [] (fun i => by simp) (by simp)
      exact Lib.hid (by simpa using this)
    have Y := Lib.hid (B.out.ext E0.out)
    have Z : Hid (([] : List Nat).length + l.length ≤ 70368744177664) := by show _ ≤ _; simp; omega
    go_wp2_with (at_builtin; refine wpList_app rfl (.tmp 11) (.tmp 12) rfl rfl rfl O.out Y.out Z.out E0.out.size ?_)
    intro D d cap w1 hO hgr
    have O1 := Lib.hid hO
    have E1 := Lib.hid (E0.out.grown hgr O.out.row)
    clear hO hgr
    have E2 : Hid (Ext w (w1.alloc (.cells #[.int .u8 ((S : Int) % 256), .int .u8 ((S : Int) / 256 % 256), .int .u8 ((S : Int) / 65536 % 256), .int .u8 ((S : Int) / 16777216)] 5))) := E1.out.alloc _
    have O2 := Lib.hid (O1.out.ext ((Ext.refl w1).alloc (.cells #[.int .u8 ((S : Int) % 256), .int .u8 ((S : Int) / 256 % 256), .int .u8 ((S : Int) / 65536 % 256), .int .u8 ((S : Int) / 16777216)] 5)))
    have Y2 : Hid (Bytes (w1.alloc (.cells #[.int .u8 ((S : Int) % 256), .int .u8 ((S : Int) / 256 % 256), .int .u8 ((S : Int) / 65536 % 256), .int .u8 ((S : Int) / 16777216)] 5)) (.slice (some ⟨w1.heap.size, 0, none⟩) 4 4) (le4 S)) :=
      (show (S : Int) / 16777216 % 256 = (S : Int) / 16777216 by omega) ▸ bytes_lit w1 (le4 S) _ (0, 0) rfl (le4_lt S) (by simp [le4])
    have Z2 : Hid (l.length + (le4 S).length ≤ 70368744177664) := by show _ ≤ _; simp [le4]; omega
    go_wp2_with (at_builtin; refine wpList_app rfl (.tmp 13) (.tmp 25) rfl rfl rfl O2.out Y2.out Z2.out E2.out.size ?_)
    intro D2 d2 cap2 w2 hO hgr
    have O3 := Lib.hid hO
    have E3 := Lib.hid (E2.out.grown hgr O2.out.row)
    clear hO hgr
    go_wp2_with fail
    refine (C2.out _ E3.out).mono ?_
    rintro e w3 ⟨rfl, g3, rfl⟩
    go_wp2_with fail
    have HQ : 4294967295 - crc 4294967295 (l ++ le4 S) = 558161692 := by
      rw [crc_append, show crc (crc 4294967295 l) (le4 S) = 4294967295 - 558161692 from HW.out]
    have C3 := sum_any (.slice D2 d2 cap2) (l ++ le4 S) (w2.ext g3) (O3.out.bytes.ext ⟨g3, rfl⟩) (T.out.ext (E3.out.ext g3))
    rw [HQ] at C3
    refine C3.mono ?_
    clear HQ C3
    rintro e w4 ⟨rfl, g4, rfl⟩
    go_wp2_with fail
    refine (awake_any _ (T.out.ext ((E3.out.ext g3).ext g4))).mono ?_
    rintro e w5 ⟨rfl, g5, rfl⟩
    go_wp2
    go_ret
    exact ⟨rfl, ((E3.out.ext g3).ext g4).ext g5⟩

end Go.Proofs.YtobnbdoehobigaaDoor
