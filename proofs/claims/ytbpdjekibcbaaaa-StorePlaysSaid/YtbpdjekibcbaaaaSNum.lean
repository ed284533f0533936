import Derived.Test.YtbpdjekibcbaaaaSAbs
namespace Go.Proofs.Ytbpdjekibcbaaaa
open Go.RowKit
set_option linter.unusedVariables false
set_option linter.unusedSimpArgs false

/-- the number of bytes, the highest first -/
def beV (l : List Nat) : Nat := l.foldl (fun n c => n * 256 + c) 0
theorem take_snoc (l : List Nat) {i : Nat} (hi : i < l.length) : l.take (i + 1) = l.take i ++ [l.getD i 0] := by
  rw [List.take_add_one, List.getElem?_eq_getElem hi, List.getD_eq_getElem?_getD, List.getElem?_eq_getElem hi]; rfl
theorem beV_snoc (l : List Nat) {i : Nat} (hi : i < l.length) : beV (l.take (i + 1)) = beV (l.take i) * 256 + l.getD i 0 := by
  rw [take_snoc l hi]; unfold beV; rw [List.foldl_append]; rfl
theorem beV_le (l : List Nat) (i : Nat) : ∀ d, i + d ≤ l.length → beV (l.take i) ≤ beV (l.take (i + d)) := by
  intro d
  induction d with
  | zero => intro _; exact Nat.le_refl _
  | succ d ih =>
    intro h
    have h1 := ih (by omega)
    rw [← Nat.add_assoc, beV_snoc l (by omega)]
    omega
theorem beV_great (l : List Nat) {i : Nat} (hi : i < l.length) : beV (l.take i) * 256 ≤ beV l := by
  have h1 := beV_snoc l hi
  have h2 := beV_le l (i + 1) (l.length - (i + 1)) (by omega)
  rw [show i + 1 + (l.length - (i + 1)) = l.length by omega, List.take_length] at h2
  omega
theorem beV_lt (l : List Nat) (hb : ∀ i, l.getD i 0 < 256) : ∀ i, i ≤ l.length → beV (l.take i) < 256 ^ i := by
  intro i
  induction i with
  | zero => intro _; simp [beV]
  | succ i ih =>
    intro h
    have h1 := ih (by omega)
    rw [beV_snoc l (by omega), Nat.pow_succ]
    have := hb i
    omega

/-- the document's number of bytes -/
def numI (l : List Nat) : Int := if beV l ≤ 9223372036854775807 then (beV l : Int) else -1

set_option maxRecDepth 100000 in
set_option maxHeartbeats 1600000 in
theorem refNumber_any (v : Value) (l : List Nat) (w : World) (hb : Bytes w v l) (hl : l.length ≤ 600) :
    Calls Try.prog 28 #[v] w fun e w' => e = .returned (.int .i64 (numI l)) ∧ Ext w w' := by
  have BB := Lib.hid hb
  obtain ⟨A, cap, rfl, h1, h2, h3, h4, h5⟩ := hb
  obtain ⟨N, hN⟩ : ∃ N, l.length = N := ⟨_, rfl⟩
  rw [hN] at BB h1 hl ⊢
  have HN := Lib.hid hN
  obtain ⟨R, hR⟩ : ∃ R, numI l = R := ⟨_, rfl⟩
  rw [hR]
  have HR := Lib.hid hR
  rw [hN] at h5
  have C : Hid (0 < N → ∃ b off, A = some ⟨b, off, none⟩ ∧ b < w.heap.size ∧ ∀ i, i < N → w.cell? ⟨b, off + i, none⟩ = some (.int .u8 ((l.getD i 0 : Nat) : Int))) := Lib.hid h5
  have HB := Lib.hid h4
  clear hN hR h3 h4 h5
  go_enter Try.func28, Try.ntmps28
  go_wp2
  go_loopw [3, 4] (fun t3 t4 wr => ∃ (i n : Nat), i ≤ N ∧ n ≤ 9223372036854775807 ∧ t3 = .int .i64 (n : Int) ∧ t4 = .int .i64 (i : Int) ∧ Hid (n = beV (l.take i) ∧ Ext w wr)) (fun _ t4 _ => N - (intOf t4).toNat)
  case atStart => exact ⟨0, 0, by omega, by omega, rfl, rfl, Lib.hid ⟨by simp [beV], Ext.refl _⟩⟩
  case round =>
    obtain ⟨i, n, hi, hn, rfl, rfl, ST⟩ := hrel
    by_cases hlt : i < N
    · have hlt' : (i : Int) < (N : Int) := by omega
      have hil : i < l.length := by rw [HN.out]; exact hlt
      by_cases hg : 36028797018963967 < n
      · have hg' : (36028797018963967 : Int) < (n : Int) := by omega
        obtain rfl : R = -1 := by
          rw [← HR.out]; unfold numI
          have := beV_great l hil
          have := ST.out.1
          rw [if_neg (by omega)]
        go_wp2
        go_ret
        exact ⟨rfl, ST.out.2⟩
      · have hg' : ¬ (36028797018963967 : Int) < (n : Int) := by omega
        obtain ⟨b, off, rfl, hbl, hc⟩ := C.out (by omega)
        have c0 := (ST.out.2.cell hbl (i := off + i)).trans (hc i hlt)
        obtain ⟨x, hx⟩ : ∃ x, l.getD i 0 = x := ⟨_, rfl⟩
        have hx256 : x < 256 := by rw [← hx]; exact HB.out i
        rw [hx] at c0
        have SN : Hid (n * 256 + x = beV (l.take (i + 1))) := Lib.hid (by rw [beV_snoc l hil, ← ST.out.1, hx])
        clear hx hc
        go_wp2
        go_roundw
        case rel => exact ⟨i + 1, n * 256 + x, by omega, by omega, by go_num, by go_num, Lib.hid ⟨SN.out, ST.out.2⟩⟩
        case measure => simp [intOf]; omega
    · have hlt' : ¬ (i : Int) < (N : Int) := by omega
      obtain rfl : i = N := by omega
      obtain rfl : R = (n : Int) := by
        rw [← HR.out]; unfold numI
        have h9 := ST.out.1
        rw [← HN.out, List.take_length] at h9
        rw [if_pos (by omega), h9]
      go_wp2
      go_ret
      exact ⟨rfl, ST.out.2⟩

theorem or_i64 (V c : Nat) (hc : c < 256) : bits .or .i64 (IntKind.i64.wrap ((V : Int) * 256)) (c : Int) = IntKind.i64.wrap ((V : Int) * 256 + (c : Int)) := by
  have h1 : (BitVec.ofInt 64 (IntKind.i64.wrap ((V : Int) * 256))).toNat = (V * 256) % 18446744073709551616 := by
    rw [BitVec.toNat_ofInt, IntKind.wrap_i64]
    omega
  have h2 : (BitVec.ofInt 64 (c : Int)).toNat = c := by
    rw [BitVec.ofInt_natCast, BitVec.toNat_ofNat]; exact Nat.mod_eq_of_lt (by omega)
  show IntKind.i64.wrap ((BitVec.ofInt 64 (IntKind.i64.wrap ((V : Int) * 256)) ||| BitVec.ofInt 64 (c : Int)).toNat : Int) = _
  rw [BitVec.toNat_or, h1, h2]
  have h3 : (V * 256) % 18446744073709551616 = 2 ^ 8 * (V % 72057594037927936) := by omega
  rw [h3, ← Nat.two_pow_add_eq_or_of_lt (show c < 2 ^ 8 by omega), ← h3, IntKind.wrap_i64, IntKind.wrap_i64]
  omega

theorem wrap_mul (V : Nat) : IntKind.i64.wrap (IntKind.i64.wrap (V : Int) * 256) = IntKind.i64.wrap ((V : Int) * 256) := by
  rw [IntKind.wrap_i64, IntKind.wrap_i64, IntKind.wrap_i64]; omega

set_option maxRecDepth 100000 in
set_option maxHeartbeats 1600000 in
theorem read_any (v : Value) (l : List Nat) (w : World) (hb : Bytes w v l) (hl : l.length ≤ 600) :
    Calls Try.prog 26 #[v] w fun e w' => e = .returned (.int .i64 (IntKind.i64.wrap (beV l : Int))) ∧ Ext w w' := by
  have BB := Lib.hid hb
  obtain ⟨A, cap, rfl, h1, h2, h3, h4, h5⟩ := hb
  obtain ⟨N, hN⟩ : ∃ N, l.length = N := ⟨_, rfl⟩
  rw [hN] at BB h1 hl ⊢
  have HN := Lib.hid hN
  obtain ⟨R, hR⟩ : ∃ R, IntKind.i64.wrap (beV l : Int) = R := ⟨_, rfl⟩
  rw [hR]
  have HR := Lib.hid hR
  rw [hN] at h5
  have C : Hid (0 < N → ∃ b off, A = some ⟨b, off, none⟩ ∧ b < w.heap.size ∧ ∀ i, i < N → w.cell? ⟨b, off + i, none⟩ = some (.int .u8 ((l.getD i 0 : Nat) : Int))) := Lib.hid h5
  have HB := Lib.hid h4
  clear hN hR h3 h4 h5
  go_enter Try.func26, Try.ntmps26
  go_wp2
  go_loopw [3, 8] (fun t3 t8 wr => ∃ (i : Nat) (n : Int), i ≤ N ∧ t3 = .int .i64 n ∧ t8 = .int .i64 (i : Int) ∧ Hid (n = IntKind.i64.wrap (beV (l.take i) : Int) ∧ Ext w wr)) (fun _ t8 _ => N - (intOf t8).toNat)
  case atStart => exact ⟨0, 0, by omega, rfl, rfl, Lib.hid ⟨by simp [beV]; rfl, Ext.refl _⟩⟩
  case round =>
    obtain ⟨i, n, hi, rfl, rfl, ST⟩ := hrel
    by_cases hlt : i < N
    · have hlt' : (i : Int) < (N : Int) := by omega
      have hil : i < l.length := by rw [HN.out]; exact hlt
      obtain ⟨b, off, rfl, hbl, hc⟩ := C.out (by omega)
      have c0 := (ST.out.2.cell hbl (i := off + i)).trans (hc i hlt)
      obtain ⟨x, hx⟩ : ∃ x, l.getD i 0 = x := ⟨_, rfl⟩
      have hx256 : x < 256 := by rw [← hx]; exact HB.out i
      rw [hx] at c0
      have SN : Hid (bits .or .i64 (wrap64 (n * 256)) (x : Int) = IntKind.i64.wrap (beV (l.take (i + 1)) : Int)) := Lib.hid (by
        rw [show wrap64 (n * 256) = IntKind.i64.wrap (n * 256) by rw [IntKind.wrap_i64]; unfold wrap64; omega]
        rw [ST.out.1, wrap_mul, or_i64 _ _ hx256, beV_snoc l hil, hx]; simp)
      clear hx hc
      go_wp2
      go_roundw
      case rel => exact ⟨i + 1, _, by omega, rfl, by go_num, Lib.hid ⟨SN.out, ST.out.2⟩⟩
      case measure => simp [intOf]; omega
    · have hlt' : ¬ (i : Int) < (N : Int) := by omega
      obtain rfl : i = N := by omega
      obtain rfl : R = n := by
        rw [← HR.out]
        have h9 := ST.out.1
        rw [← HN.out, List.take_length] at h9
        exact h9.symm
      go_wp2
      go_ret
      exact ⟨rfl, ST.out.2⟩

end Go.Proofs.Ytbpdjekibcbaaaa
