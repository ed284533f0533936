
import Derived.Test.YtobnbdoehobigaaDoorAwake
namespace Go.Proofs.YtobnbdoehobigaaDoor
open Go.RowKit
set_option linter.unusedVariables false
set_option linter.unusedSimpArgs false

theorem lt_one {x : Nat} (h : x < 256) : ∀ i, [x].getD i 0 < 256 := by
  intro i
  match i with
  | 0 => simpa using h
  | i + 1 => simp

set_option maxHeartbeats 1600000 in
theorem refZig_any (z : Int) (w : World) (h1 : -9223372036854775808 ≤ z) (h2 : z ≤ 9223372036854775807) :
    Calls Tryd.prog 28 #[.int .i64 z] w fun e w' => e = .returned (.int .u64 ((zig z : Nat) : Int)) ∧ Ext w w' := by
  by_cases h : 0 ≤ z
  · have hz : ((zig z : Nat) : Int) = 2 * z := by unfold zig; rw [if_pos h]; omega
    rw [hz]
    clear hz
    go_enter Tryd.func28, Tryd.ntmps28
    go_wp2
    go_ret
    exact ⟨by rfl, Ext.refl _⟩
  · have hz : ((zig z : Nat) : Int) = 2 * -(z + 1) + 1 := by unfold zig; rw [if_neg h]; omega
    rw [hz]
    clear hz
    go_enter Tryd.func28, Tryd.ntmps28
    go_wp2
    go_ret
    exact ⟨ret_int (by simp only [IntKind.wrap_u64]), Ext.refl _⟩

set_option maxRecDepth 100000 in
set_option maxHeartbeats 6400000 in
/-- the document's bytes of a number -/
theorem refInt_any (z : Int) (w : World) (h1 : -9223372036854775808 ≤ z) (h2 : z ≤ 9223372036854775807) :
    Calls Tryd.prog 13 #[.int .i64 z] w fun e w' => ∃ A n cap, e = .returned (.slice A n cap) ∧ Own w.heap.size w' A n cap (intL z) ∧ Ext w w' := by
  have HZ := Lib.hid (zig_lt z h1 h2)
  go_enter Tryd.func13, Tryd.ntmps13
  go_wp2_with fail
  refine (refZig_any z _ h1 h2).mono ?_
  rintro e w' ⟨rfl, g, rfl⟩
  go_wp2_with fail
  go_loopw [3, 4] (fun t3 t4 wr => ∃ (zc f : Nat) (done : List Nat) (A1 : Option Addr) (n1 cap1 : Nat), t3 = .int .u64 zc ∧ t4 = .slice A1 n1 cap1 ∧ (1 ≤ f ∧ zc < 128 ^ f) ∧ zc < 18446744073709551616 ∧ intL z = done ++ uvarF f zc ∧ done.length + f ≤ 10 ∧
      Own w.heap.size wr A1 n1 cap1 done ∧ Ext w wr) (fun t3 _ _ => (intOf t3).toNat)
  case atStart =>
    exact ⟨zig z, 10, [], none, 0, 0, rfl, rfl, ⟨by omega, Nat.lt_of_lt_of_le HZ.out (by decide)⟩, HZ.out, rfl, by simp, Own.nil _ _, ⟨g, rfl⟩⟩
  case round =>
    obtain ⟨zc, f, done, A1, n1, cap1, rfl, rfl, hf, hzc, hd, hdl, hO, hE⟩ := hrel
    have H := Lib.hid (And.intro hf (And.intro hd hdl))
    have O := Lib.hid hO
    have E := Lib.hid hE
    clear hf hd hdl hO hE
    by_cases hz1 : 127 < zc
    · have hz1' : (127 : Int) < (zc : Int) := by omega
      go_wp2_with (at_builtin; refine wpList_app rfl (.tmp 9) (.tmp 14) rfl rfl rfl (O.out.ext ((Ext.refl wr).alloc _)) (bytes_lit wr [zc % 128 + 128] _ (0, 0) rfl ?q1 ?q2) ?q3 ?q4 ?_)
      case q1 => exact lt_one (by omega)
      case q2 => simp
      case q3 => have := H.out.2.2; simp; omega
      case q4 => have := E.out.size; simp; omega
      intro D d cap w1 hO hgr
      have O1 := Lib.hid hO
      have E1 := Lib.hid ((E.out.alloc _).grown hgr O.out.row)
      clear hO hgr
      have hzq : zc / 128 < 18446744073709551616 := by omega
      go_wp2
      go_roundw
      case rel =>
        obtain ⟨⟨q0, q1⟩, q2, q3⟩ := H.out
        obtain ⟨f', rfl⟩ : ∃ f', f = f' + 1 := ⟨f - 1, by omega⟩
        refine ⟨zc / 128, f', done ++ [zc % 128 + 128], D, d, cap, by go_num, rfl, ?_, by omega, ?_, ?_, O1.out, E1.out⟩
        · rw [Nat.pow_succ] at q1
          refine ⟨?_, Nat.div_lt_of_lt_mul (by rwa [Nat.mul_comm])⟩
          cases f' with
          | zero => simp at q1; omega
          | succ _ => omega
        · rw [q2, uvarF, if_neg (by omega)]; simp
        · simp; omega
      case measure => simp [intOf]; omega
    · have hz1' : ¬ (127 : Int) < (zc : Int) := by omega
      go_wp2_with (at_builtin; refine wpList_app rfl (.tmp 18) (.tmp 21) rfl rfl rfl (O.out.ext ((Ext.refl wr).alloc _)) (bytes_lit wr [zc] _ (0, 0) rfl ?q1 ?q2) ?q3 ?q4 ?_)
      case q1 => exact lt_one (by omega)
      case q3 => have := H.out.2.2; simp; omega
      case q4 => have := E.out.size; simp; omega
      intro D d cap w1 hO hgr
      have O1 := Lib.hid hO
      have E1 := Lib.hid ((E.out.alloc _).grown hgr O.out.row)
      clear hO hgr
      go_wp2
      go_ret
      obtain ⟨⟨q0, q1⟩, q2, q3⟩ := H.out
      have q2' : intL z = done ++ [zc] := by
        rw [q2]
        obtain ⟨f', rfl⟩ : ∃ f', f = f' + 1 := ⟨f - 1, by omega⟩
        rw [uvarF, if_pos (by omega)]
      exact ⟨D, d, cap, rfl, by rw [q2']; exact O1.out, E1.out⟩

theorem uvarL_len (z : Int) : (intL z).length ≤ 10 := uvarF_len 10 _

set_option maxRecDepth 100000 in
set_option maxHeartbeats 6400000 in
/-- a text is put: its length, and it -/
theorem outText_any (base gb : Nat) (A : Option Addr) (n cap : Nat) (l : List Nat) (v : Value) (t : List Nat) (w : World) (ho : OutAt base w gb A n cap l) (hbase : base ≤ w.heap.size) (hl : l.length ≤ 2147483648)
    (ht : t.length ≤ 2147483648) (hB : ∀ w', Keep w w' (fun k => k = gb ∨ Value.ownBlock (.slice A n cap) = some k) → Bytes w' v t) :
    Calls Tryd.prog 14 #[.pointer (some ⟨gb, 0, none⟩), v] w fun e w' => e = .returned (.pointer (some ⟨gb, 0, none⟩)) ∧ ∃ A' n' cap', OutAt base w' gb A' n' cap' (l ++ intL t.length ++ t) ∧
      Keep w w' (fun k => k = gb ∨ Value.ownBlock (.slice A n cap) = some k) ∧ (A' = A ∨ ∀ k, Value.ownBlock (.slice A' n' cap') = some k → w.heap.size ≤ k) := by
  have B := Lib.hid hB
  have HB := Lib.hid hbase
  obtain ⟨X, c, rfl, c2, c3, c4, c5, c6⟩ := hB w (Keep.refl _ _)
  have C := Lib.hid (outInt_any base gb A n cap l t.length w ho hbase (by omega) (by omega) (by omega))
  clear c2 c3 c4 c5 c6 hB ho hbase
  go_enter Tryd.func14, Tryd.ntmps14
  go_wp2_with fail
  refine C.out.mono ?_
  rintro e w1 ⟨rfl, A1, n1, cap1, hO, hK, hA⟩
  have hx := hO.cell
  have hxf := hO.froz
  have hgb := hO.hi
  have O := Lib.hid hO
  have K := Lib.hid hK
  have AA := Lib.hid hA
  have Y := Lib.hid (B.out w1 hK)
  clear hO hK hA
  go_wp2_with (at_builtin; refine wpList_app2 rfl (.tmp 13) (.tmp 14) rfl rfl rfl O.out.own Y.out ?q1 ?q2 ?_)
  case q1 => have := uvarL_len (t.length : Int); simp; omega
  case q2 => exact Nat.le_trans HB.out K.out.size
  intro D d cap2 w2 hO hgr hD
  obtain ⟨⟨hc, hfz⟩, hO2, hK2, hA2⟩ := out_step O.out (Ext.refl w1) (m := t) (by simpa using hO) hgr hD
  have R := Lib.hid (And.intro hO2 (And.intro hK2 hA2))
  clear hO hgr hD hO2 hK2 hA2 hx hxf
  go_wp2
  go_ret
  obtain ⟨r1, r2, r3⟩ := R.out
  refine ⟨rfl, D, d, cap2, by simpa using r1, ?_, ?_⟩
  · refine K.out.trans r2 fun k hk hs => ?_
    rcases hs with hs | hs
    · exact .inl hs
    · rcases AA.out with rfl | q5
      · exact .inr (by rw [ob _ _ _ n1 cap1]; exact hs)
      · have := q5 k hs; omega
  · rcases r3 with rfl | r3
    · rcases AA.out with rfl | q5
      · exact .inl rfl
      · exact .inr fun k hk => q5 k (by rw [ob _ _ _ d cap2]; exact hk)
    · exact .inr fun k hk => Nat.le_trans K.out.size (r3 k hk)

end Go.Proofs.YtobnbdoehobigaaDoor
