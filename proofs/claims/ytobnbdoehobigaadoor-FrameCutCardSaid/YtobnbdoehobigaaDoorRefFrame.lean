import Derived.Test.YtobnbdoehobigaaDoorRefHigh
namespace Go.Proofs.YtobnbdoehobigaaDoor
open Go.RowKit
set_option linter.unusedVariables false
set_option linter.unusedSimpArgs false

set_option maxRecDepth 100000 in
set_option maxHeartbeats 3200000 in
theorem refFrame_any (seq kind : Nat) (v : Value) (l : List Nat) (w : World) (hb : Bytes w v l) (hs : seq ≤ 9223372036854775807) (hk : kind ≤ 255) (hl : l.length ≤ 1048576) :
    Calls Tryd.prog 25 #[.int .i64 seq, .int .i64 kind, v] w fun e w' => ∃ A n cap, e = .returned (.slice A n cap) ∧ Own w.heap.size w' A n cap (frameL seq kind l) ∧ Ext w w' := by
  have B := Lib.hid hb
  have HL := Lib.hid hl
  have HS := Lib.hid hs
  have HK := Lib.hid hk
  obtain ⟨X, c, rfl, _, _, _, c5, _⟩ := hb
  have H5 := Lib.hid c5
  have hl' : (l.length : Int) ≤ 1048576 := by omega
  clear c5
  go_enter Tryd.func25, Tryd.ntmps25
  go_wp2_with fail
  refine (refHigh_any l.length 4 _ (by have := HL.out; omega) (by omega)).mono ?_
  rintro e w1 ⟨A1, n1, c1, rfl, hO, hE⟩
  rw [beR_4] at hO
  have O1 := Lib.hid hO
  have E1 := Lib.hid hE
  clear hO hE
  go_wp2_with fail
  refine (refHigh_any seq 8 _ HS.out (by omega)).mono ?_
  rintro e w2 ⟨A2, n2, c2, rfl, hO, hE⟩
  rw [beR_8] at hO
  have Y2 := Lib.hid hO.bytes
  have O2 := Lib.hid (O1.out.ext hE)
  have E2 := Lib.hid (E1.out.trans hE)
  have Z2 : Hid ((be4 l.length).length + (be8 seq).length ≤ 70368744177664) := Lib.hid (by simp [be4, be8])
  clear hO hE O1 E1
  go_wp2_with (at_builtin; refine wpList_app rfl (.tmp 11) (.tmp 13) rfl rfl rfl O2.out Y2.out Z2.out E2.out.size ?_)
  intro A3 n3 c3 w3 hO hgr
  have E3 := Lib.hid ((E2.out.grown hgr O2.out.row).alloc (.cells #[.int .u8 (kind : Int)] 5))
  have O3 := Lib.hid (hO.ext ((Ext.refl w3).alloc (.cells #[.int .u8 (kind : Int)] 5)))
  have Y3 : Hid (Bytes (w3.alloc (.cells #[.int .u8 (kind : Int)] 5)) (.slice (some ⟨w3.heap.size, 0, none⟩) 1 1) [kind]) := Lib.hid (bytes_lit w3 [kind] _ (0, 0) rfl (lt_one (by omega)) (by simp))
  have Z3 : Hid ((be4 l.length ++ be8 seq).length + [kind].length ≤ 70368744177664) := Lib.hid (by simp [be4, be8])
  clear hO hgr O2 E2
  go_wp2_with (at_builtin; refine wpList_app rfl (.tmp 15) (.tmp 18) rfl rfl rfl O3.out Y3.out Z3.out E3.out.size ?_)
  intro A4 n4 c4 w4 hO hgr
  have O4 := Lib.hid hO
  have E4 := Lib.hid (E3.out.grown hgr O3.out.row)
  have Y4 := Lib.hid (B.out.ext E4.out)
  have Z4 : Hid ((be4 l.length ++ (be8 seq ++ [kind])).length + l.length ≤ 70368744177664) := Lib.hid (by simp [be4, be8]; have := HL.out; omega)
  clear hO hgr O3 E3
  go_wp2_with (at_builtin; refine wpList_app rfl (.tmp 20) (.tmp 21) rfl rfl rfl O4.out Y4.out Z4.out E4.out.size ?_)
  intro A5 n5 c5 w5 hO hgr
  have hh : be4 l.length ++ (be8 seq ++ ([kind] ++ l)) = headL seq kind l := by simp [headL]
  have E5 := Lib.hid (E4.out.grown hgr O4.out.row)
  have O5 : Hid (Own w.heap.size w5 A5 n5 c5 (headL seq kind l)) := Lib.hid (by rw [← hh]; simpa using hO)
  have hcr := crc_head seq kind l (by have := HK.out; omega) H5.out
  have HC := Lib.hid (refSum_any (.slice A5 n5 c5) (headL seq kind l) w5 O5.out.bytes)
  have HF : Hid (frameL seq kind l = headL seq kind l ++ be4 (4294967295 - crc 4294967295 (headL seq kind l))) := rfl
  obtain ⟨S, hS⟩ : ∃ S, 4294967295 - crc 4294967295 (headL seq kind l) = S := ⟨_, rfl⟩
  rw [hS] at HC HF
  have hSl : S ≤ 4294967295 := by omega
  have hSl' : (S : Int) ≤ 4294967295 := by omega
  have HSL := Lib.hid hSl
  clear hO hgr O4 E4 hh hcr hS hSl
  go_wp2_with fail
  refine HC.out.mono ?_
  rintro e w6 ⟨rfl, hE6⟩
  have O6 := Lib.hid (O5.out.ext hE6)
  have E6 := Lib.hid (E5.out.trans hE6)
  clear hE6 O5 E5
  go_wp2_with fail
  refine (refHigh_any S 4 _ (by have := HSL.out; omega) (by omega)).mono ?_
  rintro e w7 ⟨A7, n7, c7, rfl, hO, hE⟩
  rw [beR_4] at hO
  have Y7 := Lib.hid hO.bytes
  have O7 := Lib.hid (O6.out.ext hE)
  have E7 := Lib.hid (E6.out.trans hE)
  have Z7 : Hid ((headL seq kind l).length + (be4 S).length ≤ 70368744177664) := Lib.hid (by simp [headL, be4, be8]; have := HL.out; omega)
  clear hO hE O6 E6
  go_wp2_with (at_builtin; refine wpList_app rfl (.tmp 23) (.tmp 27) rfl rfl rfl O7.out Y7.out Z7.out E7.out.size ?_)
  intro A8 n8 c8 w8 hO hgr
  have O8 := Lib.hid hO
  have E8 := Lib.hid (E7.out.grown hgr O7.out.row)
  clear hO hgr
  go_wp2
  go_ret
  exact ⟨A8, n8, c8, rfl, by rw [HF.out]; exact O8.out, E8.out⟩

end Go.Proofs.YtobnbdoehobigaaDoor
