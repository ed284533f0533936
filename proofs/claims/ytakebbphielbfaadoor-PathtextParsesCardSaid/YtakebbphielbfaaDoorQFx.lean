import Derived.Test.YtakebbphielbfaaDoorQRw
import Derived.Laws.Bits128
namespace Go.Proofs.YtakebbphielbfaaDoor
open Go.RowKit
set_option linter.unusedVariables false
set_option linter.unusedSimpArgs false
/-- one byte, made a text: the byte lies in a block of its own that was made just now -/
theorem conv1 (w : World) (n : Nat) (t : TypeId) (v : Nat) (hv : v < 256) (hn : n = w.heap.size) : (convert 66 9 (.slice (some ⟨n, 0, none⟩) 1 1)).run Tryd.prog (w.alloc (.cells #[.int .u8 (v : Int)] t)) = .ok (.string ⟨#[UInt8.ofNat v]⟩) (w.alloc (.cells #[.int .u8 (v : Int)] t)) := by
  subst hn
  refine run_convert_bytes_back _ 66 9 5 _ 1 [UInt8.ofNat v] (by kernel_rfl) (by kernel_rfl) (by kernel_rfl) (fun j hj => ?_)
  obtain rfl : j = 0 := by simpa using hj
  have : v % 256 = v := Nat.mod_eq_of_lt hv
  simp [go_sem, this]

set_option maxHeartbeats 1600000 in
theorem in_yes (a : Int) (w : World) (h : -2147483648 ≤ a ∧ a ≤ 2147483648) : Calls Tryd.prog 31 #[.int .i64 a] w fun e w' => e = .returned (.bool true) ∧ Ext w w' := by
  obtain ⟨h1, h2⟩ := h
  go_enter Tryd.func31, Tryd.ntmps31
  go_wp2
  go_ret
  exact ⟨by simp [go_sem, h1, h2], by repeat (first | exact Ext.refl _ | apply Ext.alloc | apply Ext.ext)⟩

set_option maxHeartbeats 1600000 in
theorem in_no (a : Int) (w : World) (h : ¬(-2147483648 ≤ a ∧ a ≤ 2147483648)) : Calls Tryd.prog 31 #[.int .i64 a] w fun e w' => e = .returned (.bool false) ∧ Ext w w' := by
  go_enter Tryd.func31, Tryd.ntmps31
  by_cases h1 : -2147483648 ≤ a
  · have h2 : ¬ a ≤ 2147483648 := fun x => h ⟨h1, x⟩
    go_wp2
    go_ret
    exact ⟨by simp [go_sem, h1, h2], by repeat (first | exact Ext.refl _ | apply Ext.alloc | apply Ext.ext)⟩
  · go_wp2
    go_ret
    exact ⟨by simp [go_sem, h1], by repeat (first | exact Ext.refl _ | apply Ext.alloc | apply Ext.ext)⟩

theorem bodyPost_ii {P : Program} {fn : Func} {a : Act} {w0 w : World} {x y x' y' : Int} (hr : (results fn a.tmps).run P w = .ok (.tuple #[.int .i64 x, .int .i64 y]) w)
    (hd : a.defers = []) (h0 : x = x') (h1 : y = y') (he : Ext w0 w) :
    bodyPost P fn (fun e w' => e = .returned (.tuple #[.int .i64 x', .int .i64 y']) ∧ Ext w0 w') .ret a w :=
  bodyPost_ret hr hd ⟨by rw [h0, h1], he⟩

set_option maxHeartbeats 1600000 in
theorem room_yes (a : Int) (w : World) (h : -2147483648 ≤ a ∧ a ≤ 2147483648) : Calls Tryd.prog 73 #[.int .i64 a] w fun e w' => e = .returned (.tuple #[.int .i64 a, .int .i64 0]) ∧ Ext w w' := by
  go_enter Tryd.func73, Tryd.ntmps73
  go_wp2_with (first | (go_at_call 31; refine (in_yes _ _ h).mono ?_; rintro e w' ⟨rfl, g, rfl⟩) | go_in)
  exact bodyPost_ii (by simp [results, Tryd.results73, go_sem]) rfl rfl rfl (by repeat (first | exact Ext.refl _ | apply Ext.alloc | apply Ext.ext))

set_option maxHeartbeats 1600000 in
theorem room_no (a : Int) (w : World) (h : ¬(-2147483648 ≤ a ∧ a ≤ 2147483648)) : Calls Tryd.prog 73 #[.int .i64 a] w fun e w' => e = .returned (.tuple #[.int .i64 0, .int .i64 10]) ∧ Ext w w' := by
  go_enter Tryd.func73, Tryd.ntmps73
  go_wp2_with (first | (go_at_call 31; refine (in_no _ _ h).mono ?_; rintro e w' ⟨rfl, g, rfl⟩) | go_in)
  exact bodyPost_ii (by simp [results, Tryd.results73, go_sem]) rfl rfl rfl (by repeat (first | exact Ext.refl _ | apply Ext.alloc | apply Ext.ext))


theorem i64_and255 (n : Int) : bits .and .i64 n 255 = n % 256 := by
  show IntKind.wrap .i64 (((BitVec.ofInt 64 n &&& BitVec.ofInt 64 255).toNat : Nat) : Int) = n % 256
  have h : (BitVec.ofInt 64 n &&& BitVec.ofInt 64 255).toNat = (n % 256).toNat := by
    rw [BitVec.toNat_and, BitVec.toNat_ofInt, show (BitVec.ofInt 64 255).toNat = 2 ^ 8 - 1 from by decide, Nat.and_two_pow_sub_one_eq_mod]
    omega
  rw [h, IntKind.wrap_i64]; omega


set_option maxHeartbeats 1600000 in
theorem add_yes (a b : Int) (w : World) (ha : -2147483648 ≤ a ∧ a ≤ 2147483648) (hb : -2147483648 ≤ b ∧ b ≤ 2147483648) (hs : -2147483648 ≤ a + b ∧ a + b ≤ 2147483648) :
    Calls Tryd.prog 56 #[.int .i64 a, .int .i64 b] w fun e w' => e = .returned (.tuple #[.int .i64 (a + b), .int .i64 0]) ∧ Ext w w' := by
  go_enter Tryd.func56, Tryd.ntmps56
  go_wp2_with (first | (((go_at_call 31; first | refine (in_yes _ _ (by omega)).mono ?_ | refine (in_no _ _ (by omega)).mono ?_)); rintro e w' ⟨rfl, g, rfl⟩) | (((go_at_call 73; first | refine (room_yes _ _ (by omega)).mono ?_ | refine (room_no _ _ (by omega)).mono ?_)); rintro e w' ⟨rfl, g, rfl⟩))
  exact bodyPost_ii (by simp [results, Tryd.results56, go_sem]) rfl rfl rfl (by ((repeat (first | exact Ext.refl _ | apply Ext.alloc | apply Ext.ext))))

set_option maxHeartbeats 1600000 in
theorem add_no (a b : Int) (w : World) (h : ¬((-2147483648 ≤ a ∧ a ≤ 2147483648) ∧ (-2147483648 ≤ b ∧ b ≤ 2147483648) ∧ (-2147483648 ≤ a + b ∧ a + b ≤ 2147483648))) :
    Calls Tryd.prog 56 #[.int .i64 a, .int .i64 b] w fun e w' => e = .returned (.tuple #[.int .i64 0, .int .i64 10]) ∧ Ext w w' := by
  by_cases ha : -2147483648 ≤ a ∧ a ≤ 2147483648
  · by_cases hb : -2147483648 ≤ b ∧ b ≤ 2147483648
    · have hs : ¬ (-2147483648 ≤ a + b ∧ a + b ≤ 2147483648) := fun hs => h ⟨ha, hb, hs⟩
      clear h
      go_enter Tryd.func56, Tryd.ntmps56
      go_wp2_with (first | (((go_at_call 31; first | refine (in_yes _ _ (by omega)).mono ?_ | refine (in_no _ _ (by omega)).mono ?_)); rintro e w' ⟨rfl, g, rfl⟩) | (((go_at_call 73; first | refine (room_yes _ _ (by omega)).mono ?_ | refine (room_no _ _ (by omega)).mono ?_)); rintro e w' ⟨rfl, g, rfl⟩))
      exact bodyPost_ii (by simp [results, Tryd.results56, go_sem]) rfl rfl rfl (by ((repeat (first | exact Ext.refl _ | apply Ext.alloc | apply Ext.ext))))
    · clear h
      go_enter Tryd.func56, Tryd.ntmps56
      go_wp2_with (first | (((go_at_call 31; first | refine (in_yes _ _ (by omega)).mono ?_ | refine (in_no _ _ (by omega)).mono ?_)); rintro e w' ⟨rfl, g, rfl⟩) | (((go_at_call 73; first | refine (room_yes _ _ (by omega)).mono ?_ | refine (room_no _ _ (by omega)).mono ?_)); rintro e w' ⟨rfl, g, rfl⟩))
      exact bodyPost_ii (by simp [results, Tryd.results56, go_sem]) rfl rfl rfl (by ((repeat (first | exact Ext.refl _ | apply Ext.alloc | apply Ext.ext))))
  · clear h
    go_enter Tryd.func56, Tryd.ntmps56
    go_wp2_with (first | (((go_at_call 31; first | refine (in_yes _ _ (by omega)).mono ?_ | refine (in_no _ _ (by omega)).mono ?_)); rintro e w' ⟨rfl, g, rfl⟩) | (((go_at_call 73; first | refine (room_yes _ _ (by omega)).mono ?_ | refine (room_no _ _ (by omega)).mono ?_)); rintro e w' ⟨rfl, g, rfl⟩))
    exact bodyPost_ii (by simp [results, Tryd.results56, go_sem]) rfl rfl rfl (by ((repeat (first | exact Ext.refl _ | apply Ext.alloc | apply Ext.ext))))

set_option maxHeartbeats 1600000 in
theorem refIn_yes (a : Int) (w : World) (h : -2147483648 ≤ a ∧ a ≤ 2147483648) : Calls Tryd.prog 20 #[.int .i64 a] w fun e w' => e = .returned (.bool true) ∧ Ext w w' := by
  obtain ⟨h1, h2⟩ := h
  go_enter Tryd.func20, Tryd.ntmps20
  go_wp2
  go_ret
  exact ⟨by simp [go_sem, h1, h2], by ((repeat (first | exact Ext.refl _ | apply Ext.alloc | apply Ext.ext)))⟩

set_option maxHeartbeats 1600000 in
theorem refIn_no (a : Int) (w : World) (h : ¬(-2147483648 ≤ a ∧ a ≤ 2147483648)) : Calls Tryd.prog 20 #[.int .i64 a] w fun e w' => e = .returned (.bool false) ∧ Ext w w' := by
  go_enter Tryd.func20, Tryd.ntmps20
  by_cases h1 : -2147483648 ≤ a
  · have h2 : ¬ a ≤ 2147483648 := fun x => h ⟨h1, x⟩
    go_wp2
    go_ret
    exact ⟨by simp [go_sem, h1, h2], by ((repeat (first | exact Ext.refl _ | apply Ext.alloc | apply Ext.ext)))⟩
  · go_wp2
    go_ret
    exact ⟨by simp [go_sem, h1], by ((repeat (first | exact Ext.refl _ | apply Ext.alloc | apply Ext.ext)))⟩

theorem tdiv_floor (n d : Int) (hd : 0 < d) : (n.tmod d < 0 → n / d = n.tdiv d - 1) ∧ (¬ n.tmod d < 0 → n / d = n.tdiv d) := by
  have h := Int.mul_tdiv_add_tmod n d
  have hu := Int.tmod_lt_of_pos n hd
  have hl := Int.lt_tmod_of_pos n hd
  refine ⟨fun hn => ?_, fun hn => ?_⟩
  · exact ((Int.ediv_emod_unique (r := n.tmod d + d) hd).2 ⟨by rw [Int.mul_sub, Int.mul_one]; omega, by omega, by omega⟩).1
  · exact ((Int.ediv_emod_unique (r := n.tmod d) hd).2 ⟨by omega, by omega, by omega⟩).1

theorem ediv_bound (n d : Int) (hd : 0 < d) : (0 ≤ n → 0 ≤ n / d ∧ n / d ≤ n) ∧ (n < 0 → n ≤ n / d ∧ n / d < 0) := by
  refine ⟨fun h => ⟨Int.ediv_nonneg h (by omega), Int.ediv_le_self d h⟩, fun h => ⟨?_, Int.ediv_neg_of_neg_of_pos h hd⟩⟩
  refine Int.le_ediv_of_mul_le hd ?_
  have : n * d ≤ n * 1 := Int.mul_le_mul_of_nonpos_left (by omega) (by omega)
  omega

theorem tdiv_bound (n d : Int) (hd : 0 < d) : (0 ≤ n → 0 ≤ n.tdiv d ∧ n.tdiv d ≤ n) ∧ (n < 0 → n ≤ n.tdiv d ∧ n.tdiv d ≤ 0) := by
  have h1 := tdiv_floor n d hd
  have h2 := ediv_bound n d hd
  have hn : 0 ≤ n → ¬ n.tmod d < 0 := fun h => by have := Int.tmod_nonneg d h; omega
  refine ⟨fun h => ?_, fun h => ?_⟩
  · have := h1.2 (hn h); have := h2.1 h; omega
  · by_cases ht : n.tmod d < 0
    · have := h1.1 ht; have := h2.2 h; omega
    · have := h1.2 ht; have := h2.2 h; omega


end Go.Proofs.YtakebbphielbfaaDoor
