import Derived.Test.YtobnbdoehobigaaDoorRd
namespace Go.Proofs.YtobnbdoehobigaaDoor
open Go.RowKit
set_option linter.unusedVariables false
set_option linter.unusedSimpArgs false

/-- the number of bytes, the highest first -/
def beV (l : List Nat) : Nat := l.foldl (fun n x => n * 256 + x) 0

theorem beV_take (l : List Nat) (i : Nat) (hi : i < l.length) : beV (l.take (i + 1)) = beV (l.take i) * 256 + l.getD i 0 := by
  rw [take_succ_getD l i 0 hi]; simp [beV]

theorem beV_lt (l : List Nat) (hb : ∀ i, l.getD i 0 < 256) : ∀ i, i ≤ l.length → beV (l.take i) < 256 ^ i := by
  intro i
  induction i with
  | zero => intro _; simp [beV]
  | succ i ih =>
    intro hi
    have h1 := ih (by omega)
    have h2 := hb i
    rw [beV_take l i (by omega), Nat.pow_succ]
    omega

theorem or_byte (n x : Nat) (hn : n < 72057594037927936) (hx : x < 256) : Go.bits .or .u64 ((n : Int) * 256) (x : Int) = ((n * 256 + x : Nat) : Int) := by
  have h1 := or_u64 (n * 256) x (by omega) (by omega)
  rw [show (((n * 256 : Nat)) : Int) = (n : Int) * 256 by omega] at h1
  rw [h1]
  have := Nat.two_pow_add_eq_or_of_lt (i := 8) (b := x) hx n
  rw [show (2 : Nat) ^ 8 = 256 by rfl, Nat.mul_comm 256 n] at this
  rw [← this]

set_option maxRecDepth 100000 in
set_option maxHeartbeats 3200000 in
theorem low_any (v : Value) (l : List Nat) (w : World) (hb : Bytes w v l) (hl : l.length ≤ 8) :
    Calls Tryd.prog 37 #[v] w fun e w' => e = .returned (.int .u64 ((beV l : Nat) : Int)) ∧ w' = w := by
  have B := Lib.hid hb
  obtain ⟨X, c, rfl, c2, c3, c4, c5, c6⟩ := hb
  have H5 := Lib.hid c5
  have C6 := Lib.hid c6
  clear c4 c5 c6
  obtain ⟨N, hN⟩ : ∃ N, l.length = N := ⟨_, rfl⟩
  rw [hN] at hl c2
  rw [hN]
  have HN := Lib.hid hN
  clear hN
  go_enter Tryd.func37, Tryd.ntmps37
  go_wp2
  go_loopw [3, 8] (fun t3 t8 wr => ∃ (i n : Nat), i ≤ N ∧ t3 = .int .u64 (n : Int) ∧ t8 = .int .i64 (i : Int) ∧ n = beV (l.take i) ∧ wr = w) (fun _ t8 _ => N - (intOf t8).toNat)
  case atStart => exact ⟨0, 0, by omega, rfl, rfl, rfl, rfl⟩
  case round =>
    obtain ⟨i, n, hi, rfl, rfl, hn, rfl⟩ := hrel
    have HI := Lib.hid hn
    clear hn
    by_cases hlt : i < N
    · have hlt' : (i : Int) < (N : Int) := by omega
      obtain ⟨b, off, rfl, hbs, hcells⟩ := C6.out (by have := HN.out; omega)
      have hcell := hcells i (by have := HN.out; omega)
      have hxb := H5.out i
      obtain ⟨x, hx⟩ : ∃ x, l.getD i 0 = x := ⟨_, rfl⟩
      rw [hx] at hcell hxb
      have HX := Lib.hid hx
      have hn56 : n < 72057594037927936 := by
        have h1 := beV_lt l H5.out i (by have := HN.out; omega)
        rw [← HI.out] at h1
        have h2 : 256 ^ i ≤ 256 ^ 7 := Nat.pow_le_pow_right (by omega) (by omega)
        exact Nat.lt_of_lt_of_le h1 h2
      have hor := or_byte n x hn56 hxb
      have hx255 : (x : Int) ≤ 255 := by omega
      have hw : IntKind.u64.wrap ((n : Int) * 256) = (n : Int) * 256 := by rw [IntKind.wrap_u64]; omega
      have HX2 := Lib.hid (show (n * 256 + x : Nat) = beV (l.take (i + 1)) by rw [beV_take l i (by have := HN.out; omega), HX.out, HI.out])
      obtain ⟨m, hm⟩ : ∃ m, n * 256 + x = m := ⟨_, rfl⟩
      rw [hm] at hor HX2
      clear hx hcells hbs hxb hm
      go_wp2
      go_roundw
      case rel => exact ⟨i + 1, m, by omega, rfl, by go_num, HX2.out, trivial⟩
      case measure => simp [intOf]; omega
    · have hlt' : ¬ (i : Int) < (N : Int) := by omega
      go_wp2
      go_ret
      refine ⟨?_, rfl⟩
      rw [HI.out, List.take_of_length_le (by have := HN.out; omega)]
      rfl

/-- size of a frame -/
theorem size_any (n : Int) (w : World) (h0 : 0 ≤ n) (h1 : n ≤ 4294967296) : Calls Tryd.prog 26 #[.int .i64 n] w fun e w' => e = .returned (.int .i64 (n + 17)) ∧ w' = w := by
  go_enter Tryd.func26, Tryd.ntmps26
  go_wp2
  go_ret
  exact ⟨ret_int (by omega), rfl⟩

theorem size_neg (w : World) : Calls Tryd.prog 26 #[.int .i64 (-1)] w fun e w' => e = .returned (.int .i64 0) ∧ w' = w := by
  go_enter Tryd.func26, Tryd.ntmps26
  go_wp2
  go_ret
  exact ⟨rfl, rfl⟩

theorem low_ext (v : Value) (l : List Nat) (w : World) (hb : Bytes w v l) (hl : l.length ≤ 8) :
    Calls Tryd.prog 37 #[v] w fun e w' => e = .returned (.int .u64 ((beV l : Nat) : Int)) ∧ Ext w w' := (low_any v l w hb hl).mono fun e w' ⟨h1, h2⟩ => ⟨h1, h2 ▸ Ext.refl _⟩
theorem size_ext (n : Int) (w : World) (h0 : 0 ≤ n) (h1 : n ≤ 4294967296) : Calls Tryd.prog 26 #[.int .i64 n] w fun e w' => e = .returned (.int .i64 (n + 17)) ∧ Ext w w' :=
  (size_any n w h0 h1).mono fun e w' ⟨h1, h2⟩ => ⟨h1, h2 ▸ Ext.refl _⟩

end Go.Proofs.YtobnbdoehobigaaDoor
