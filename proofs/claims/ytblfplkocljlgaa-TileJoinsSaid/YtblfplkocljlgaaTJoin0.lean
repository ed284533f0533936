import Derived.Test.YtblfplkocljlgaaTAt
import Derived.Laws.MakeOwn
namespace Go.Proofs.Ytblfplkocljlgaa
open Go.RowKit Go.ChangeMaps
set_option linter.unusedVariables false
set_option linter.unusedSimpArgs false

/-- a colour that hangs on a place -/
def redJ (s : Nat) (x : Int) : Nat := (x % 256).toNat ^^^ s
def colJ (s : Nat) (x y : Int) : Px := (redJ s x, (y % 256).toNat, 0, 255)

theorem redJ_le (s : Nat) (x : Int) (hs : s ≤ 255) : redJ s x ≤ 255 := by
  have := Nat.xor_lt_two_pow (x := (x % 256).toNat) (y := s) (n := 8) (by omega) (by omega)
  unfold redJ
  omega

theorem colJ_ok (s : Nat) (x y : Int) (hs : s ≤ 255) : okP (colJ s x y) := ⟨redJ_le s x hs, by simp only [colJ]; omega, by simp [colJ], by simp [colJ]⟩
theorem colJ_right (s : Nat) (x y : Int) (hs : s ≤ 255) : rightP (colJ s x y) = true := by
  have := redJ_le s x hs
  unfold rightP colJ
  simp
  omega

theorem xor8 (a b : Nat) (ha : a ≤ 255) (hb : b ≤ 255) : bits .xor .u8 (a : Int) (b : Int) = ((a ^^^ b : Nat) : Int) := by
  have hx : a ^^^ b < 2 ^ 8 := Nat.xor_lt_two_pow (by omega) (by omega)
  have e1 : (BitVec.ofInt 8 (a : Int)).toNat = a := by rw [BitVec.ofInt_natCast, BitVec.toNat_ofNat]; omega
  have e2 : (BitVec.ofInt 8 (b : Int)).toNat = b := by rw [BitVec.ofInt_natCast, BitVec.toNat_ofNat]; omega
  have e3 : (BitVec.ofInt 8 (a : Int) ^^^ BitVec.ofInt 8 (b : Int)).toNat = a ^^^ b := by rw [BitVec.toNat_xor, e1, e2]
  show IntKind.u8.wrap (((BitVec.ofInt 8 (a : Int) ^^^ BitVec.ofInt 8 (b : Int)).toNat : Nat) : Int) = _
  rw [e3]
  unfold IntKind.wrap
  simp [IntKind.signed, IntKind.bits]
  omega

theorem joins1_any (s g : Nat) (x y : Int) (w : World) (hs : s ≤ 255) (k0 : w.cell? ⟨g, 0, none⟩ = some (.int .u8 (s : Int))) (hg : g < w.heap.size) (hx : -1000000000 ≤ x ∧ x ≤ 1000000000) (hy : -1000000000 ≤ y ∧ y ≤ 1000000000) :
    Calls Try.prog 29 #[.int .i64 x, .int .i64 y, .pointer (some ⟨g, 0, none⟩)] w fun e w' => e = .returned (valP .u8 (colJ s x y)) ∧ Ext w w' := by
  have e1 : bits .xor .u8 (x % 256) (s : Int) = (redJ s x : Int) := by
    have := xor8 (x % 256).toNat s (by omega) (by omega)
    rw [show (((x % 256).toNat : Nat) : Int) = x % 256 by omega] at this
    exact this
  have e2 : valP .u8 (colJ s x y) = .agg #[.int .u8 (redJ s x : Int), .int .u8 (y % 256), .int .u8 0, .int .u8 255] := by
    unfold valP colJ
    rw [show ((((y % 256).toNat : Nat)) : Int) = y % 256 by omega]
    rfl
  rw [e2]
  clear e2
  go_enter Try.func29, Try.ntmps29
  go_wp2
  exact bodyPost_ret (v := .agg #[.int .u8 (redJ s x : Int), .int .u8 (y % 256), .int .u8 0, .int .u8 255]) (by simp [results, Try.results29, go_sem, e1]) rfl ⟨rfl, by ((repeat (first | exact Ext.refl _ | apply Ext.alloc)))⟩

theorem zeros_row (n : Nat) : (madeCells #[Value.int .u8 0, .int .u8 0, .int .u8 0, .int .u8 0] (n * 4)).toList = (List.replicate n noP).flatMap (cellsP .u8) := by
  apply List.ext_getElem?
  intro i
  by_cases hi : i < n * 4
  · have := flat4 .u8 (List.replicate n noP) (i / 4) (i % 4) (by simp; omega) (by omega)
    rw [show i / 4 * 4 + i % 4 = i by omega] at this
    rw [this, List.getD_eq_getElem?_getD, List.getElem?_replicate, if_pos (by omega)]
    rw [Array.getElem?_toList]
    unfold madeCells
    rw [Array.getElem?_map, Array.getElem?_range]
    rw [if_pos hi]
    rcases (show i % 4 = 0 ∨ i % 4 = 1 ∨ i % 4 = 2 ∨ i % 4 = 3 by omega) with e | e | e | e <;> simp [e, cellsP, noP]
  · rw [List.getElem?_eq_none (by rw [Array.length_toList, size_madeCells]; omega), List.getElem?_eq_none (by rw [flat_len]; simp; omega)]

theorem zeros_own (n : Nat) (w : World) (hn : n ≤ 65536) : OwnP .u8 68 w.heap.size (w.alloc (.cells (madeCells #[.int .u8 0, .int .u8 0, .int .u8 0, .int .u8 0] (n * 4)) 68)) (.slice (some ⟨w.heap.size, 0, none⟩) n n) (List.replicate n noP) := by
  refine ⟨?_, fun i => ?_⟩
  · have h := World.ownsRow_lit (e := 68) (size := 4) w (madeCells #[.int .u8 0, .int .u8 0, .int .u8 0, .int .u8 0] (n * 4)) n (Nat.le_refl _) (by unfold maxLen; omega) (by rw [size_madeCells])
    rw [zeros_row] at h
    rw [List.length_replicate]
    exact h
  · rw [List.getD_eq_getElem?_getD, List.getElem?_replicate]
    split <;> simp [okP, noP]

set_option maxRecDepth 100000 in
set_option maxHeartbeats 3200000 in
theorem new_img (W H : Nat) (w : World) (hW : 1 ≤ W ∧ W ≤ 256) (hH : 1 ≤ H ∧ H ≤ 256) :
    Calls Try.prog 44 #[.int .i64 (W : Int), .int .i64 (H : Int)] w fun e w' => ∃ g, e = .returned (.tuple #[.agg #[.int .i64 (W : Int), .int .i64 (H : Int), .slice (some ⟨g, 0, none⟩) (W * H) (W * H)], .int .i64 0]) ∧ OwnP .u8 68 w.heap.size w' (.slice (some ⟨g, 0, none⟩) (W * H) (W * H)) (List.replicate (W * H) noP) ∧ Ext w w' := by
  have SW := Lib.hid (fun wx => side_any (W : Int) wx (by omega) (by omega))
  have SH := Lib.hid (fun wx => side_any (H : Int) wx (by omega) (by omega))
  rw [show sideB (W : Int) = true by unfold sideB; simp; omega] at SW
  rw [show sideB (H : Int) = true by unfold sideB; simp; omega] at SH
  obtain ⟨n, hn⟩ : ∃ n, W * H = n := ⟨_, rfl⟩
  have hn2 : n ≤ 65536 := by rw [← hn]; exact Nat.mul_le_mul hW.2 hH.2
  have hmul : (W : Int) * (H : Int) = (n : Int) := by rw [← hn, Int.natCast_mul]
  have MK : ∀ wx : World, (Instr.makeSlice 45 (.int .i64 (n : Int)) (.int .i64 (n : Int))).run Try.prog wx = .ok (.slice (some ⟨wx.heap.size, 0, none⟩) n n) (wx.alloc (.cells (madeCells #[.int .u8 0, .int .u8 0, .int .u8 0, .int .u8 0] (n * 4)) 68)) := fun wx => by
    obtain ⟨i0, hi, hz0, hz1, hz2⟩ := info_parts infoC
    have := run_makeSlice (P := Try.prog) wx 45 68 i0 _ Try.underlying45 hi hz0 .i64 .i64 (n : Int) (n : Int) (by omega) (by omega) (by simp [hz1]; omega) (by rw [hz2]; omega) (by omega)
    rw [hz1] at this
    exact this
  rw [hn]
  clear hn
  go_enter Try.func44, Try.ntmps44
  go_wp2_with fail
  refine (SW.out _).mono ?_
  rintro e w1 ⟨rfl, rfl⟩
  go_wp2_with fail
  refine (SH.out _).mono ?_
  rintro e w1 ⟨rfl, rfl⟩
  go_wp2
  refine bodyPost_ret (v := .tuple #[.agg #[.int .i64 (W : Int), .int .i64 (H : Int), .slice (some ⟨w.heap.size + 1, 0, none⟩) n n], .int .i64 0]) (by simp [results, Try.results44, go_sem]) rfl ⟨w.heap.size + 1, rfl, ?_, by ((repeat (first | exact Ext.refl _ | apply Ext.alloc)))⟩
  have h1 := zeros_own n (w.alloc (.cells #[.int .i64 (W : Int), .int .i64 (H : Int), .slice (some ⟨w.heap.size + 1, 0, none⟩) n n] 47)) hn2
  simp only [World.size_alloc] at h1
  exact h1.mono (by omega)

end Go.Proofs.Ytblfplkocljlgaa
