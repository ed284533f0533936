import Derived.Test.YtbpdjekibcbaaaaSEnc
namespace Go.Proofs.Ytbpdjekibcbaaaa
open Go.RowKit
set_option linter.unusedVariables false
set_option linter.unusedSimpArgs false

theorem zero_lt : ∀ i, ([0] : List Nat).getD i 0 < 256 := lt_one (by omega)
/-- one byte of the call's own -/
theorem Own.one {w0 w : World} (h : Ext w0 w) (x : Nat) (hx : x < 256) : Own w0.heap.size (w.alloc (.cells #[.int .u8 (x : Int)] 5)) (some ⟨w.heap.size, 0, none⟩) 1 1 [x] := by
  have h := Own.fresh h [x] (lt_one hx) (by simp)
  simpa [byteV] using h

def lenOf : Value → Nat
  | .slice _ n _ => n
  | _ => 0

set_option maxRecDepth 100000 in
set_option maxHeartbeats 3200000 in
theorem refHeader_any (gen half snap log size : Nat) (w : World) (hs : 32 ≤ size ∧ size ≤ 600) (hg : gen ≤ 9223372036854775807) (hh : half ≤ 1) (hsn : snap ≤ 2147483648) (hl : log ≤ 2147483648) :
    Calls Try.prog 8 #[.int .i64 (gen : Int), .int .i64 (half : Int), .int .i64 (snap : Int), .int .i64 (log : Int), .int .i64 (size : Int)] w fun e w' => ∃ A cap, e = .returned (.slice A size cap) ∧ Own w.heap.size w' A size cap (hdrL gen half snap log size) ∧ Ext w w' := by
  go_enter Try.func8, Try.ntmps8
  go_wp2_with fail
  refine (refHigh_any gen 8 w hg (by omega)).mono ?_
  rintro e w1 ⟨A, k, cap, rfl, hO, hE⟩
  obtain rfl : k = 8 := hO.1.trans (beR_len _ _)
  have O1 := Lib.hid hO
  have E1 := Lib.hid hE
  clear hO hE
  have E2 : Hid (Ext w (w1.alloc (.cells #[.int .u8 (half : Int)] 5))) := Lib.hid (E1.out.alloc _)
  have Y : Hid (Bytes (w1.alloc (.cells #[.int .u8 (half : Int)] 5)) (.slice (some ⟨w1.heap.size, 0, none⟩) 1 1) [half]) := Lib.hid (Own.one E1.out half (by omega)).bytes
  have O2 := Lib.hid (O1.out.ext ((Ext.refl w1).alloc (.cells #[.int .u8 (half : Int)] 5)))
  have Z : Hid ((beR gen 8).length + [half].length ≤ 70368744177664) := Lib.hid (by rw [beR_len]; simp)
  clear O1
  go_wp2_with (at_builtin; refine wpList_app rfl (.tmp 14) (.tmp 17) rfl rfl rfl O2.out Y.out Z.out E2.out.size ?_)
  intro A k cap w2 hO hgr
  obtain rfl : k = 9 := hO.1.trans (by simp [beR_len])
  have O1 := Lib.hid hO
  have E1 := Lib.hid (E2.out.grown hgr O2.out.row)
  clear hO hgr O2 E2 Y Z
  go_wp2_with fail
  refine (refHigh_any snap 4 w2 (by omega) (by omega)).mono ?_
  rintro e w3 ⟨A9, k9, cap9, rfl, hO, hE⟩
  obtain rfl : k9 = 4 := hO.1.trans (beR_len _ _)
  have E2 := Lib.hid (E1.out.trans hE)
  have O2 := Lib.hid (O1.out.ext hE)
  have Y := Lib.hid hO.bytes
  have Z : Hid ((beR gen 8 ++ [half]).length + (beR snap 4).length ≤ 70368744177664) := Lib.hid (by simp [beR_len])
  clear hO hE O1 E1
  go_wp2_with (at_builtin; refine wpList_app rfl (.tmp 19) (.tmp 21) rfl rfl rfl O2.out Y.out Z.out E2.out.size ?_)
  intro A k cap w2 hO hgr
  obtain rfl : k = 13 := hO.1.trans (by simp [beR_len])
  have O1 := Lib.hid hO
  have E1 := Lib.hid (E2.out.grown hgr O2.out.row)
  clear hO hgr O2 E2 Y Z
  go_wp2_with fail
  refine (refHigh_any log 4 w2 (by omega) (by omega)).mono ?_
  rintro e w3 ⟨A9, k9, cap9, rfl, hO, hE⟩
  obtain rfl : k9 = 4 := hO.1.trans (beR_len _ _)
  have E2 := Lib.hid (E1.out.trans hE)
  have O2 := Lib.hid (O1.out.ext hE)
  have Y := Lib.hid hO.bytes
  have Z : Hid ((beR gen 8 ++ [half] ++ beR snap 4).length + (beR log 4).length ≤ 70368744177664) := Lib.hid (by simp [beR_len])
  clear hO hE O1 E1
  go_wp2_with (at_builtin; refine wpList_app rfl (.tmp 23) (.tmp 25) rfl rfl rfl O2.out Y.out Z.out E2.out.size ?_)
  intro A k cap w2 hO hgr
  obtain rfl : k = 17 := hO.1.trans (by simp [beR_len])
  have O1 := Lib.hid hO
  have E1 := Lib.hid (E2.out.grown hgr O2.out.row)
  clear hO hgr O2 E2 Y Z
  have LL : ∀ z, (beR gen 8 ++ (half :: (beR snap 4 ++ (beR log 4 ++ List.replicate z 0)))).length = 17 + z := by intro z; simp [beR_len]; omega
  go_wp2
  go_loopw [11] (fun t11 wr => ∃ (z : Nat) (A : Option Addr) (cap : Nat), 17 + z ≤ size - 8 ∧ t11 = .slice A (17 + z) cap ∧ Hid (Own w.heap.size wr A (17 + z) cap (beR gen 8 ++ (half :: (beR snap 4 ++ (beR log 4 ++ List.replicate z 0)))) ∧ Ext w wr)) (fun t11 _ => size - lenOf t11)
  case atStart => exact ⟨0, _, _, by omega, rfl, Lib.hid ⟨by simpa using O1.out, E1.out⟩⟩
  case round =>
    obtain ⟨z, A, cap, hz, rfl, ST⟩ := hrel
    obtain ⟨O9, E9⟩ := ST.out
    have O1 := Lib.hid O9
    have E1 := Lib.hid E9
    clear O9 E9 ST
    by_cases hlt : 17 + z < size - 8
    · have hlt' : 17 + (z : Int) < (size : Int) - 8 := by omega
      have E2 : Hid (Ext w (wr.alloc (.cells #[.int .u8 0] 5))) := Lib.hid (E1.out.alloc _)
      have Y : Hid (Bytes (wr.alloc (.cells #[.int .u8 0] 5)) (.slice (some ⟨wr.heap.size, 0, none⟩) 1 1) [0]) := Lib.hid (Own.one E1.out 0 (by omega)).bytes
      have O2 := Lib.hid (O1.out.ext ((Ext.refl wr).alloc (.cells #[.int .u8 0] 5)))
      have Z : Hid ((beR gen 8 ++ (half :: (beR snap 4 ++ (beR log 4 ++ List.replicate z 0)))).length + [0].length ≤ 70368744177664) := Lib.hid (by rw [LL]; simp; omega)
      go_wp2_with (at_builtin; refine wpList_app rfl (.tmp 32) (.tmp 33) rfl rfl rfl O2.out Y.out Z.out E2.out.size ?_)
      intro A k cap w2 hO hgr
      obtain rfl : k = 17 + (z + 1) := hO.1.trans (by simp [beR_len]; omega)
      have O3 := Lib.hid hO
      have E3 := Lib.hid (E2.out.grown hgr O2.out.row)
      clear hO hgr O2 E2 Y Z
      go_wp2
      go_roundw
      case rel =>
        refine ⟨z + 1, A, cap, by omega, rfl, Lib.hid ⟨?_, E3.out⟩⟩
        have h9 := O3.out
        rw [List.replicate_succ']
        simpa only [List.append_assoc, List.cons_append, List.nil_append] using h9
      case measure => simp [lenOf]; omega
    · have hlt' : ¬ 17 + (z : Int) < (size : Int) - 8 := by omega
      obtain ⟨m, hm⟩ : ∃ m, size - 25 = m := ⟨_, rfl⟩
      obtain rfl : z = m := by omega
      go_wp2_with fail
      refine (refHigh_any gen 8 wr hg (by omega)).mono ?_
      rintro e w3 ⟨A9, k9, cap9, rfl, hO, hE⟩
      obtain rfl : k9 = 8 := hO.1.trans (beR_len _ _)
      have E2 := Lib.hid (E1.out.trans hE)
      have O2 := Lib.hid (O1.out.ext hE)
      have Y := Lib.hid hO.bytes
      have Z : Hid ((beR gen 8 ++ (half :: (beR snap 4 ++ (beR log 4 ++ List.replicate z 0)))).length + (beR gen 8).length ≤ 70368744177664) := Lib.hid (by rw [LL, beR_len]; omega)
      clear hO hE O1 E1
      go_wp2_with (at_builtin; refine wpList_app rfl (.tmp 35) (.tmp 37) rfl rfl rfl O2.out Y.out Z.out E2.out.size ?_)
      intro A k cap w2 hO hgr
      have E1 := Lib.hid (E2.out.grown hgr O2.out.row)
      obtain rfl : k = size := hO.1.trans (by simp [beR_len]; omega)
      have O1 := Lib.hid hO
      clear hO hgr O2 E2 Y Z
      go_wp2
      go_ret
      have h9 := O1.out
      refine ⟨_, _, rfl, ?_, E1.out⟩
      unfold hdrL
      rw [hm]
      simpa only [List.append_assoc, List.cons_append, List.nil_append, List.singleton_append] using h9

end Go.Proofs.Ytbpdjekibcbaaaa
