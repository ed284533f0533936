import Derived.Test.YtikbofbgfoafkaaDoorRows
import Derived.Test.YtikbofbgfoafkaaDoorExt
import Derived.Laws.IdiomStrings
import Derived.Laws.Bits128
namespace Go.Proofs.YtikbofbgfoafkaaDoor
open Go.RowKit

set_option linter.unusedVariables false
set_option linter.unusedSimpArgs false

set_option maxRecDepth 100000 in
set_option maxHeartbeats 1600000 in
theorem itoa_1 (w : World) : Calls Tryd.prog 26 #[.int .i64 1] w fun e w' => e = .returned (.string ⟨#[49]⟩) ∧ Ext w w' := by
  go_enter Tryd.func26, Tryd.ntmps26
  go_wp2
  go_ret
  exact ⟨by rfl, Ext.refl _⟩

/-- one byte, made a text: the byte lies in a block of its own that was made just now -/
theorem conv1 (w : World) (n : Nat) (t : TypeId) (v : Nat) (hv : v < 256) (hn : n = w.heap.size) : (convert 36 9 (.slice (some ⟨n, 0, none⟩) 1 1)).run Tryd.prog (w.alloc (.cells #[.int .u8 (v : Int)] t)) = .ok (.string ⟨#[UInt8.ofNat v]⟩) (w.alloc (.cells #[.int .u8 (v : Int)] t)) := by
  subst hn
  refine run_convert_bytes_back _ 36 9 5 _ 1 [UInt8.ofNat v] (by kernel_rfl) (by kernel_rfl) (by kernel_rfl) (fun j hj => ?_)
  obtain rfl : j = 0 := by simpa using hj
  have : v % 256 = v := Nat.mod_eq_of_lt hv
  simp [go_sem, this]

set_option maxRecDepth 100000 in
set_option maxHeartbeats 1600000 in
theorem text_384 (w : World) : Calls Tryd.prog 22 #[.int .i64 (-384)] w fun e w' => e = .returned (.string ⟨#[45, 49, 46, 53]⟩) ∧ Ext w w' := by
  have b1 : bits BinOp.and IntKind.i64 384 255 = 128 := by decide
  have cv : ∀ (w : World) g, (convert 36 9 (.slice (some ⟨w.heap.size + g.blocks.size, 0, none⟩) 1 1)).run Tryd.prog ((w.ext g).alloc (.cells #[.int .u8 53] 5)) = .ok (.string ⟨#[53]⟩) ((w.ext g).alloc (.cells #[.int .u8 53] 5)) := fun w g => conv1 (w.ext g) _ 5 53 (by omega) (by simp [go_sem])
  have b2 : bits BinOp.and IntKind.i64 1280 255 = 0 := by decide
  go_enter Tryd.func22, Tryd.ntmps22
  go_wp2_with (first | (go_at_call 26; refine (itoa_1 _).mono ?_; rintro e w' ⟨rfl, g, rfl⟩) | go_in)
  refine wp_loop_rounds 2 ?_
  rw [rounds_succ]
  go_wp2
  rw [rounds_succ]
  go_wp2
  go_ret
  exact ⟨by rfl, by repeat (first | exact Ext.refl _ | apply Ext.alloc | apply Ext.ext)⟩

set_option maxHeartbeats 1600000 in
theorem near_128 (w : World) : Calls Tryd.prog 11 #[.int .i64 (-128)] w fun e w' => e = .returned (.int .i64 0) ∧ Ext w w' := by
  have b1 : bits BinOp.and IntKind.i64 (-128) 255 = 128 := by decide
  go_enter Tryd.func11, Tryd.ntmps11
  go_wp2
  go_ret
  exact ⟨by rfl, by repeat (first | exact Ext.refl _ | apply Ext.alloc | apply Ext.ext)⟩

set_option maxHeartbeats 1600000 in
theorem in_yes (a : Int) (w : World) (h : -2147483648 ≤ a ∧ a ≤ 2147483648) : Calls Tryd.prog 18 #[.int .i64 a] w fun e w' => e = .returned (.bool true) ∧ Ext w w' := by
  obtain ⟨h1, h2⟩ := h
  go_enter Tryd.func18, Tryd.ntmps18
  go_wp2
  go_ret
  exact ⟨by simp [go_sem, h1, h2], by repeat (first | exact Ext.refl _ | apply Ext.alloc | apply Ext.ext)⟩

set_option maxHeartbeats 1600000 in
theorem in_no (a : Int) (w : World) (h : ¬(-2147483648 ≤ a ∧ a ≤ 2147483648)) : Calls Tryd.prog 18 #[.int .i64 a] w fun e w' => e = .returned (.bool false) ∧ Ext w w' := by
  go_enter Tryd.func18, Tryd.ntmps18
  by_cases h1 : -2147483648 ≤ a
  · have h2 : ¬ a ≤ 2147483648 := fun x => h ⟨h1, x⟩
    go_wp2
    go_ret
    exact ⟨by simp [go_sem, h1, h2], by repeat (first | exact Ext.refl _ | apply Ext.alloc | apply Ext.ext)⟩
  · go_wp2
    go_ret
    exact ⟨by simp [go_sem, h1], by repeat (first | exact Ext.refl _ | apply Ext.alloc | apply Ext.ext)⟩

theorem bodyPost_ii {P : Program} {fn : Func} {a : Act} {w0 w : World} {x y x' y' : Int} (hr : (results fn a.tmps).run P w = .ok (.tuple #[.int .i64 x, .int .i64 y]) w)
    (hd : a.defers = []) (h0 : x = x') (h1 : y = y') (he : Ext w0 w) :
    bodyPost P fn (fun e w' => e = .returned (.tuple #[.int .i64 x', .int .i64 y']) ∧ Ext w0 w') .ret a w :=
  bodyPost_ret hr hd ⟨by rw [h0, h1], he⟩

set_option maxHeartbeats 1600000 in
theorem room_yes (a : Int) (w : World) (h : -2147483648 ≤ a ∧ a ≤ 2147483648) : Calls Tryd.prog 25 #[.int .i64 a] w fun e w' => e = .returned (.tuple #[.int .i64 a, .int .i64 0]) ∧ Ext w w' := by
  go_enter Tryd.func25, Tryd.ntmps25
  go_wp2_with (first | (go_at_call 18; refine (in_yes _ _ h).mono ?_; rintro e w' ⟨rfl, g, rfl⟩) | go_in)
  exact bodyPost_ii (by simp [results, Tryd.results25, go_sem]) rfl rfl rfl (by repeat (first | exact Ext.refl _ | apply Ext.alloc | apply Ext.ext))

set_option maxHeartbeats 1600000 in
theorem room_no (a : Int) (w : World) (h : ¬(-2147483648 ≤ a ∧ a ≤ 2147483648)) : Calls Tryd.prog 25 #[.int .i64 a] w fun e w' => e = .returned (.tuple #[.int .i64 0, .int .i64 10]) ∧ Ext w w' := by
  go_enter Tryd.func25, Tryd.ntmps25
  go_wp2_with (first | (go_at_call 18; refine (in_no _ _ h).mono ?_; rintro e w' ⟨rfl, g, rfl⟩) | go_in)
  exact bodyPost_ii (by simp [results, Tryd.results25, go_sem]) rfl rfl rfl (by repeat (first | exact Ext.refl _ | apply Ext.alloc | apply Ext.ext))


theorem i64_and255 (n : Int) : bits .and .i64 n 255 = n % 256 := by
  show IntKind.wrap .i64 (((BitVec.ofInt 64 n &&& BitVec.ofInt 64 255).toNat : Nat) : Int) = n % 256
  have h : (BitVec.ofInt 64 n &&& BitVec.ofInt 64 255).toNat = (n % 256).toNat := by
    rw [BitVec.toNat_and, BitVec.toNat_ofInt, show (BitVec.ofInt 64 255).toNat = 2 ^ 8 - 1 from by decide, Nat.and_two_pow_sub_one_eq_mod]
    omega
  rw [h, IntKind.wrap_i64]; omega


set_option maxHeartbeats 1600000 in
theorem add_yes (a b : Int) (w : World) (ha : -2147483648 ≤ a ∧ a ≤ 2147483648) (hb : -2147483648 ≤ b ∧ b ≤ 2147483648) (hs : -2147483648 ≤ a + b ∧ a + b ≤ 2147483648) :
    Calls Tryd.prog 15 #[.int .i64 a, .int .i64 b] w fun e w' => e = .returned (.tuple #[.int .i64 (a + b), .int .i64 0]) ∧ Ext w w' := by
  go_enter Tryd.func15, Tryd.ntmps15
  go_wp2_with (first | (((go_at_call 18; first | refine (in_yes _ _ (by omega)).mono ?_ | refine (in_no _ _ (by omega)).mono ?_)); rintro e w' ⟨rfl, g, rfl⟩) | (((go_at_call 25; first | refine (room_yes _ _ (by omega)).mono ?_ | refine (room_no _ _ (by omega)).mono ?_)); rintro e w' ⟨rfl, g, rfl⟩))
  exact bodyPost_ii (by simp [results, Tryd.results15, go_sem]) rfl rfl rfl (by ((repeat (first | exact Ext.refl _ | apply Ext.alloc | apply Ext.ext))))

set_option maxHeartbeats 1600000 in
theorem add_no (a b : Int) (w : World) (h : ¬((-2147483648 ≤ a ∧ a ≤ 2147483648) ∧ (-2147483648 ≤ b ∧ b ≤ 2147483648) ∧ (-2147483648 ≤ a + b ∧ a + b ≤ 2147483648))) :
    Calls Tryd.prog 15 #[.int .i64 a, .int .i64 b] w fun e w' => e = .returned (.tuple #[.int .i64 0, .int .i64 10]) ∧ Ext w w' := by
  by_cases ha : -2147483648 ≤ a ∧ a ≤ 2147483648
  · by_cases hb : -2147483648 ≤ b ∧ b ≤ 2147483648
    · have hs : ¬ (-2147483648 ≤ a + b ∧ a + b ≤ 2147483648) := fun hs => h ⟨ha, hb, hs⟩
      clear h
      go_enter Tryd.func15, Tryd.ntmps15
      go_wp2_with (first | (((go_at_call 18; first | refine (in_yes _ _ (by omega)).mono ?_ | refine (in_no _ _ (by omega)).mono ?_)); rintro e w' ⟨rfl, g, rfl⟩) | (((go_at_call 25; first | refine (room_yes _ _ (by omega)).mono ?_ | refine (room_no _ _ (by omega)).mono ?_)); rintro e w' ⟨rfl, g, rfl⟩))
      exact bodyPost_ii (by simp [results, Tryd.results15, go_sem]) rfl rfl rfl (by ((repeat (first | exact Ext.refl _ | apply Ext.alloc | apply Ext.ext))))
    · clear h
      go_enter Tryd.func15, Tryd.ntmps15
      go_wp2_with (first | (((go_at_call 18; first | refine (in_yes _ _ (by omega)).mono ?_ | refine (in_no _ _ (by omega)).mono ?_)); rintro e w' ⟨rfl, g, rfl⟩) | (((go_at_call 25; first | refine (room_yes _ _ (by omega)).mono ?_ | refine (room_no _ _ (by omega)).mono ?_)); rintro e w' ⟨rfl, g, rfl⟩))
      exact bodyPost_ii (by simp [results, Tryd.results15, go_sem]) rfl rfl rfl (by ((repeat (first | exact Ext.refl _ | apply Ext.alloc | apply Ext.ext))))
  · clear h
    go_enter Tryd.func15, Tryd.ntmps15
    go_wp2_with (first | (((go_at_call 18; first | refine (in_yes _ _ (by omega)).mono ?_ | refine (in_no _ _ (by omega)).mono ?_)); rintro e w' ⟨rfl, g, rfl⟩) | (((go_at_call 25; first | refine (room_yes _ _ (by omega)).mono ?_ | refine (room_no _ _ (by omega)).mono ?_)); rintro e w' ⟨rfl, g, rfl⟩))
    exact bodyPost_ii (by simp [results, Tryd.results15, go_sem]) rfl rfl rfl (by ((repeat (first | exact Ext.refl _ | apply Ext.alloc | apply Ext.ext))))

set_option maxHeartbeats 1600000 in
theorem sub_yes (a b : Int) (w : World) (ha : -2147483648 ≤ a ∧ a ≤ 2147483648) (hb : -2147483648 ≤ b ∧ b ≤ 2147483648) (hs : -2147483648 ≤ a - b ∧ a - b ≤ 2147483648) :
    Calls Tryd.prog 16 #[.int .i64 a, .int .i64 b] w fun e w' => e = .returned (.tuple #[.int .i64 (a - b), .int .i64 0]) ∧ Ext w w' := by
  go_enter Tryd.func16, Tryd.ntmps16
  go_wp2_with (first | (((go_at_call 18; first | refine (in_yes _ _ (by omega)).mono ?_ | refine (in_no _ _ (by omega)).mono ?_)); rintro e w' ⟨rfl, g, rfl⟩) | (((go_at_call 25; first | refine (room_yes _ _ (by omega)).mono ?_ | refine (room_no _ _ (by omega)).mono ?_)); rintro e w' ⟨rfl, g, rfl⟩))
  exact bodyPost_ii (by simp [results, Tryd.results16, go_sem]) rfl rfl rfl (by ((repeat (first | exact Ext.refl _ | apply Ext.alloc | apply Ext.ext))))

set_option maxHeartbeats 1600000 in
theorem sub_no (a b : Int) (w : World) (h : ¬((-2147483648 ≤ a ∧ a ≤ 2147483648) ∧ (-2147483648 ≤ b ∧ b ≤ 2147483648) ∧ (-2147483648 ≤ a - b ∧ a - b ≤ 2147483648))) :
    Calls Tryd.prog 16 #[.int .i64 a, .int .i64 b] w fun e w' => e = .returned (.tuple #[.int .i64 0, .int .i64 10]) ∧ Ext w w' := by
  by_cases ha : -2147483648 ≤ a ∧ a ≤ 2147483648
  · by_cases hb : -2147483648 ≤ b ∧ b ≤ 2147483648
    · have hs : ¬ (-2147483648 ≤ a - b ∧ a - b ≤ 2147483648) := fun hs => h ⟨ha, hb, hs⟩
      clear h
      go_enter Tryd.func16, Tryd.ntmps16
      go_wp2_with (first | (((go_at_call 18; first | refine (in_yes _ _ (by omega)).mono ?_ | refine (in_no _ _ (by omega)).mono ?_)); rintro e w' ⟨rfl, g, rfl⟩) | (((go_at_call 25; first | refine (room_yes _ _ (by omega)).mono ?_ | refine (room_no _ _ (by omega)).mono ?_)); rintro e w' ⟨rfl, g, rfl⟩))
      exact bodyPost_ii (by simp [results, Tryd.results16, go_sem]) rfl rfl rfl (by ((repeat (first | exact Ext.refl _ | apply Ext.alloc | apply Ext.ext))))
    · clear h
      go_enter Tryd.func16, Tryd.ntmps16
      go_wp2_with (first | (((go_at_call 18; first | refine (in_yes _ _ (by omega)).mono ?_ | refine (in_no _ _ (by omega)).mono ?_)); rintro e w' ⟨rfl, g, rfl⟩) | (((go_at_call 25; first | refine (room_yes _ _ (by omega)).mono ?_ | refine (room_no _ _ (by omega)).mono ?_)); rintro e w' ⟨rfl, g, rfl⟩))
      exact bodyPost_ii (by simp [results, Tryd.results16, go_sem]) rfl rfl rfl (by ((repeat (first | exact Ext.refl _ | apply Ext.alloc | apply Ext.ext))))
  · clear h
    go_enter Tryd.func16, Tryd.ntmps16
    go_wp2_with (first | (((go_at_call 18; first | refine (in_yes _ _ (by omega)).mono ?_ | refine (in_no _ _ (by omega)).mono ?_)); rintro e w' ⟨rfl, g, rfl⟩) | (((go_at_call 25; first | refine (room_yes _ _ (by omega)).mono ?_ | refine (room_no _ _ (by omega)).mono ?_)); rintro e w' ⟨rfl, g, rfl⟩))
    exact bodyPost_ii (by simp [results, Tryd.results16, go_sem]) rfl rfl rfl (by ((repeat (first | exact Ext.refl _ | apply Ext.alloc | apply Ext.ext))))

theorem mul_room {a b : Int} (ha : -2147483648 ≤ a ∧ a ≤ 2147483648) (hb : -2147483648 ≤ b ∧ b ≤ 2147483648) : -4611686018427387904 ≤ a * b ∧ a * b ≤ 4611686018427387904 := by
  have h1 : 0 ≤ (2147483648 - a) * (2147483648 - b) := Int.mul_nonneg (by omega) (by omega)
  have h2 : 0 ≤ (2147483648 + a) * (2147483648 + b) := Int.mul_nonneg (by omega) (by omega)
  have h3 : 0 ≤ (2147483648 - a) * (2147483648 + b) := Int.mul_nonneg (by omega) (by omega)
  have h4 : 0 ≤ (2147483648 + a) * (2147483648 - b) := Int.mul_nonneg (by omega) (by omega)
  simp only [Int.mul_sub, Int.mul_add, Int.sub_mul, Int.add_mul] at h1 h2 h3 h4
  constructor <;> omega

set_option maxHeartbeats 1600000 in
theorem mul_yes (a b : Int) (w : World) (ha : -2147483648 ≤ a ∧ a ≤ 2147483648) (hb : -2147483648 ≤ b ∧ b ≤ 2147483648) (hs : -2147483648 ≤ ((a * b + 128) / 256) ∧ ((a * b + 128) / 256) ≤ 2147483648) :
    Calls Tryd.prog 20 #[.int .i64 a, .int .i64 b] w fun e w' => e = .returned (.tuple #[.int .i64 (((a * b + 128) / 256)), .int .i64 0]) ∧ Ext w w' := by
  obtain ⟨hp1, hp2⟩ := mul_room ha hb
  go_enter Tryd.func20, Tryd.ntmps20
  go_wp2_with (first | (((go_at_call 18; first | refine (in_yes _ _ (by omega)).mono ?_ | refine (in_no _ _ (by omega)).mono ?_)); rintro e w' ⟨rfl, g, rfl⟩) | (((go_at_call 25; first | refine (room_yes _ _ (by omega)).mono ?_ | refine (room_no _ _ (by omega)).mono ?_)); rintro e w' ⟨rfl, g, rfl⟩))
  exact bodyPost_ii (by simp [results, Tryd.results20, go_sem]) rfl rfl rfl (by ((repeat (first | exact Ext.refl _ | apply Ext.alloc | apply Ext.ext))))

set_option maxHeartbeats 1600000 in
theorem mul_no (a b : Int) (w : World) (h : ¬((-2147483648 ≤ a ∧ a ≤ 2147483648) ∧ (-2147483648 ≤ b ∧ b ≤ 2147483648) ∧ (-2147483648 ≤ ((a * b + 128) / 256) ∧ ((a * b + 128) / 256) ≤ 2147483648))) :
    Calls Tryd.prog 20 #[.int .i64 a, .int .i64 b] w fun e w' => e = .returned (.tuple #[.int .i64 0, .int .i64 10]) ∧ Ext w w' := by
  by_cases ha : -2147483648 ≤ a ∧ a ≤ 2147483648
  · by_cases hb : -2147483648 ≤ b ∧ b ≤ 2147483648
    · have hs : ¬ (-2147483648 ≤ ((a * b + 128) / 256) ∧ ((a * b + 128) / 256) ≤ 2147483648) := fun hs => h ⟨ha, hb, hs⟩
      clear h
      obtain ⟨hp1, hp2⟩ := mul_room ha hb
      go_enter Tryd.func20, Tryd.ntmps20
      go_wp2_with (first | (((go_at_call 18; first | refine (in_yes _ _ (by omega)).mono ?_ | refine (in_no _ _ (by omega)).mono ?_)); rintro e w' ⟨rfl, g, rfl⟩) | (((go_at_call 25; first | refine (room_yes _ _ (by omega)).mono ?_ | refine (room_no _ _ (by omega)).mono ?_)); rintro e w' ⟨rfl, g, rfl⟩))
      exact bodyPost_ii (by simp [results, Tryd.results20, go_sem]) rfl rfl rfl (by ((repeat (first | exact Ext.refl _ | apply Ext.alloc | apply Ext.ext))))
    · clear h
      go_enter Tryd.func20, Tryd.ntmps20
      go_wp2_with (first | (((go_at_call 18; first | refine (in_yes _ _ (by omega)).mono ?_ | refine (in_no _ _ (by omega)).mono ?_)); rintro e w' ⟨rfl, g, rfl⟩) | (((go_at_call 25; first | refine (room_yes _ _ (by omega)).mono ?_ | refine (room_no _ _ (by omega)).mono ?_)); rintro e w' ⟨rfl, g, rfl⟩))
      exact bodyPost_ii (by simp [results, Tryd.results20, go_sem]) rfl rfl rfl (by ((repeat (first | exact Ext.refl _ | apply Ext.alloc | apply Ext.ext))))
  · clear h
    go_enter Tryd.func20, Tryd.ntmps20
    go_wp2_with (first | (((go_at_call 18; first | refine (in_yes _ _ (by omega)).mono ?_ | refine (in_no _ _ (by omega)).mono ?_)); rintro e w' ⟨rfl, g, rfl⟩) | (((go_at_call 25; first | refine (room_yes _ _ (by omega)).mono ?_ | refine (room_no _ _ (by omega)).mono ?_)); rintro e w' ⟨rfl, g, rfl⟩))
    exact bodyPost_ii (by simp [results, Tryd.results20, go_sem]) rfl rfl rfl (by ((repeat (first | exact Ext.refl _ | apply Ext.alloc | apply Ext.ext))))


set_option maxHeartbeats 1600000 in
theorem refIn_yes (a : Int) (w : World) (h : -2147483648 ≤ a ∧ a ≤ 2147483648) : Calls Tryd.prog 17 #[.int .i64 a] w fun e w' => e = .returned (.bool true) ∧ Ext w w' := by
  obtain ⟨h1, h2⟩ := h
  go_enter Tryd.func17, Tryd.ntmps17
  go_wp2
  go_ret
  exact ⟨by simp [go_sem, h1, h2], by ((repeat (first | exact Ext.refl _ | apply Ext.alloc | apply Ext.ext)))⟩

set_option maxHeartbeats 1600000 in
theorem refIn_no (a : Int) (w : World) (h : ¬(-2147483648 ≤ a ∧ a ≤ 2147483648)) : Calls Tryd.prog 17 #[.int .i64 a] w fun e w' => e = .returned (.bool false) ∧ Ext w w' := by
  go_enter Tryd.func17, Tryd.ntmps17
  by_cases h1 : -2147483648 ≤ a
  · have h2 : ¬ a ≤ 2147483648 := fun x => h ⟨h1, x⟩
    go_wp2
    go_ret
    exact ⟨by simp [go_sem, h1, h2], by ((repeat (first | exact Ext.refl _ | apply Ext.alloc | apply Ext.ext)))⟩
  · go_wp2
    go_ret
    exact ⟨by simp [go_sem, h1], by ((repeat (first | exact Ext.refl _ | apply Ext.alloc | apply Ext.ext)))⟩

/-- what comes out, if it is in room -/
def outN (n : Int) : Int := if -2147483648 ≤ n ∧ n ≤ 2147483648 then n else 0
def outE (n : Int) : Int := if -2147483648 ≤ n ∧ n ≤ 2147483648 then 0 else 10

set_option maxHeartbeats 1600000 in
theorem is_yes (n : Int) (w : World) : Calls Tryd.prog 19 #[.int .i64 (outN n), .int .i64 (outE n), .int .i64 n] w fun e w' => e = .returned (.bool true) ∧ Ext w w' := by
  by_cases h : -2147483648 ≤ n ∧ n ≤ 2147483648
  · have e1 : outN n = n := by simp [outN, h]
    have e2 : outE n = 0 := by simp [outE, h]
    rw [e1, e2]
    clear e1 e2
    go_enter Tryd.func19, Tryd.ntmps19
    go_wp2_with (first | (go_at_call 17; refine (refIn_yes _ _ h).mono ?_; rintro e w' ⟨rfl, g, rfl⟩))
    go_ret
    exact ⟨by rfl, by ((repeat (first | exact Ext.refl _ | apply Ext.alloc | apply Ext.ext)))⟩
  · have e1 : outN n = 0 := by simp [outN, h]
    have e2 : outE n = 10 := by simp [outE, h]
    rw [e1, e2]
    clear e1 e2
    go_enter Tryd.func19, Tryd.ntmps19
    go_wp2_with (first | (go_at_call 17; refine (refIn_no _ _ h).mono ?_; rintro e w' ⟨rfl, g, rfl⟩))
    go_ret
    exact ⟨by rfl, by ((repeat (first | exact Ext.refl _ | apply Ext.alloc | apply Ext.ext)))⟩

set_option maxHeartbeats 1600000 in
theorem floor_any (a : Int) (w : World) (h1 : -9223372036854775808 ≤ a) (h2 : a ≤ 9223372036854775807) : Calls Tryd.prog 9 #[.int .i64 a] w fun e w' => e = .returned (.int .i64 (a / 256)) ∧ Ext w w' := by
  go_enter Tryd.func9, Tryd.ntmps9
  go_wp2
  go_ret
  exact ⟨by rfl, by ((repeat (first | exact Ext.refl _ | apply Ext.alloc | apply Ext.ext)))⟩

set_option maxHeartbeats 1600000 in
theorem ceil_any (a : Int) (w : World) (h1 : -9223372036854775808 ≤ a) (h2 : a ≤ 9223372036854775807) : Calls Tryd.prog 10 #[.int .i64 a] w fun e w' => e = .returned (.int .i64 ((a + 255) / 256)) ∧ Ext w w' := by
  have b1 := i64_and255 a
  go_enter Tryd.func10, Tryd.ntmps10
  by_cases h : a % 256 = 0
  · go_wp2
    go_ret
    exact ⟨ret_int (by omega), by ((repeat (first | exact Ext.refl _ | apply Ext.alloc | apply Ext.ext)))⟩
  · go_wp2
    go_ret
    exact ⟨ret_int (by omega), by ((repeat (first | exact Ext.refl _ | apply Ext.alloc | apply Ext.ext)))⟩

set_option maxHeartbeats 1600000 in
theorem near_any (a : Int) (w : World) (h1 : -9223372036854775808 ≤ a) (h2 : a ≤ 9223372036854775807) : Calls Tryd.prog 11 #[.int .i64 a] w fun e w' => e = .returned (.int .i64 ((a + 128) / 256)) ∧ Ext w w' := by
  have b1 := i64_and255 a
  go_enter Tryd.func11, Tryd.ntmps11
  by_cases h : 128 ≤ a % 256
  · go_wp2
    go_ret
    exact ⟨ret_int (by omega), by ((repeat (first | exact Ext.refl _ | apply Ext.alloc | apply Ext.ext)))⟩
  · go_wp2
    go_ret
    exact ⟨ret_int (by omega), by ((repeat (first | exact Ext.refl _ | apply Ext.alloc | apply Ext.ext)))⟩

theorem tdiv_floor (n d : Int) (hd : 0 < d) : (n.tmod d < 0 → n / d = n.tdiv d - 1) ∧ (¬ n.tmod d < 0 → n / d = n.tdiv d) := by
  have h := Int.mul_tdiv_add_tmod n d
  have hu := Int.tmod_lt_of_pos n hd
  have hl := Int.lt_tmod_of_pos n hd
  refine ⟨fun hn => ?_, fun hn => ?_⟩
  · exact ((Int.ediv_emod_unique (r := n.tmod d + d) hd).2 ⟨by rw [Int.mul_sub, Int.mul_one]; omega, by omega, by omega⟩).1
  · exact ((Int.ediv_emod_unique (r := n.tmod d) hd).2 ⟨by omega, by omega, by omega⟩).1

theorem ediv_bound (n d : Int) (hd : 0 < d) : (0 ≤ n → 0 ≤ n / d ∧ n / d ≤ n) ∧ (n < 0 → n ≤ n / d ∧ n / d < 0) := by
  refine ⟨fun h => ⟨Int.ediv_nonneg h (by omega), Int.ediv_le_self d h⟩, fun h => ⟨?_, Int.ediv_neg_of_neg_of_pos h hd⟩⟩
  refine Int.le_ediv_of_mul_le hd ?_
  have : n * d ≤ n * 1 := Int.mul_le_mul_of_nonpos_left (by omega) (by omega)
  omega

theorem tdiv_bound (n d : Int) (hd : 0 < d) : (0 ≤ n → 0 ≤ n.tdiv d ∧ n.tdiv d ≤ n) ∧ (n < 0 → n ≤ n.tdiv d ∧ n.tdiv d ≤ 0) := by
  have h1 := tdiv_floor n d hd
  have h2 := ediv_bound n d hd
  have hn : 0 ≤ n → ¬ n.tmod d < 0 := fun h => by have := Int.tmod_nonneg d h; omega
  refine ⟨fun h => ?_, fun h => ?_⟩
  · have := h1.2 (hn h); have := h2.1 h; omega
  · by_cases ht : n.tmod d < 0
    · have := h1.1 ht; have := h2.2 h; omega
    · have := h1.2 ht; have := h2.2 h; omega

/-- the greatest whole number not above n over d -/
theorem below_any (n d : Int) (w : World) (h1 : -9223372036854775808 ≤ n) (h2 : n ≤ 9223372036854775807) (hd : 0 < d) (hd2 : d ≤ 4294967296) : Calls Tryd.prog 12 #[.int .i64 n, .int .i64 d] w fun e w' => e = .returned (.int .i64 (n / d)) ∧ Ext w w' := by
  have hz : ¬ d = 0 := by omega
  have hm1 : ¬ d = -1 := by omega
  have hb := tdiv_bound n d hd
  have hf := tdiv_floor n d hd
  have hq1 : -9223372036854775808 ≤ n.tdiv d := by omega
  have hq2 : n.tdiv d ≤ 9223372036854775807 := by omega
  have hmod := Int.mul_tdiv_add_tmod n d
  rw [Int.mul_comm] at hmod
  have hp : -9223372036854775808 ≤ n.tdiv d * d ∧ n.tdiv d * d ≤ 9223372036854775807 := by
    by_cases hn : 0 ≤ n
    · have h3 := Int.mul_nonneg (hb.1 hn).1 (by omega : 0 ≤ d)
      have h4 := Int.tmod_nonneg d hn
      omega
    · have h3 := Int.mul_nonneg (a := - n.tdiv d) (by omega) (by omega : 0 ≤ d)
      have h4 := Int.tmod_nonneg d (a := -n) (by omega)
      rw [Int.neg_tmod] at h4
      rw [Int.neg_mul] at h3
      omega
  obtain ⟨hp1, hp2⟩ := hp
  have hg : n / d = if n < n.tdiv d * d then n.tdiv d - 1 else n.tdiv d := by
    split
    · exact hf.1 (by omega)
    · exact hf.2 (by omega)
  have hq3 := (ediv_bound n d hd)
  have hq4 : n < n.tdiv d * d → -9223372036854775808 ≤ n.tdiv d - 1 := by omega
  by_cases hc : n < n.tdiv d * d
  · have hq5 := hq4 hc
    clear hb hf hmod hq4 hq3
    rw [if_pos hc] at hg
    have HG := Lib.hid hg
    clear hg
    go_enter Tryd.func12, Tryd.ntmps12
    go_wp2
    go_ret
    exact ⟨ret_int HG.out.symm, by ((repeat (first | exact Ext.refl _ | apply Ext.alloc | apply Ext.ext)))⟩
  · clear hb hf hmod hq4 hq3
    rw [if_neg hc] at hg
    have HG := Lib.hid hg
    clear hg
    go_enter Tryd.func12, Tryd.ntmps12
    go_wp2
    go_ret
    exact ⟨ret_int HG.out.symm, by ((repeat (first | exact Ext.refl _ | apply Ext.alloc | apply Ext.ext)))⟩

theorem round_is (n d : Int) (hd : 0 < d) : (2 * n + d) / (2 * d) = if d - n % d ≤ n % d then n / d + 1 else n / d := by
  have h := Int.mul_ediv_add_emod n d
  have h0 := Int.emod_nonneg n (by omega : d ≠ 0)
  have h1 := Int.emod_lt_of_pos n hd
  split
  · refine ((Int.ediv_emod_unique (r := 2 * (n % d) - d) (by omega)).2 ⟨?_, by omega, by omega⟩).1
    rw [Int.mul_add, Int.mul_assoc]; omega
  · refine ((Int.ediv_emod_unique (r := 2 * (n % d) + d) (by omega)).2 ⟨?_, by omega, by omega⟩).1
    rw [Int.mul_assoc]; omega

/-- n over d, to the nearest -/
theorem round_any (n d : Int) (w : World) (h1 : -9223372036854775808 ≤ n) (h2 : n ≤ 9223372036854775807) (hd : 0 < d) (hd2 : d ≤ 4294967296) (hq : -9223372036854775808 ≤ n / d * d) : Calls Tryd.prog 13 #[.int .i64 n, .int .i64 d] w fun e w' => e = .returned (.int .i64 ((2 * n + d) / (2 * d))) ∧ Ext w w' := by
  have h := Int.mul_ediv_add_emod n d
  rw [Int.mul_comm] at h
  have h0 := Int.emod_nonneg n (by omega : d ≠ 0)
  have h3 := Int.emod_lt_of_pos n hd
  have hr := round_is n d hd
  have hq2 : n / d * d ≤ 9223372036854775807 := by omega
  have hm : n - n / d * d = n % d := by omega
  have hb := ediv_bound n d hd
  have hq5 : -9223372036854775808 ≤ n / d := by omega
  have hq6 : n / d ≤ 9223372036854775807 := by omega
  have hq7 : d - n % d ≤ n % d → n / d + 1 ≤ 9223372036854775807 := by
    intro hc
    by_cases hn : 0 ≤ n
    · have h4 : n / d * 2 ≤ n / d * d := Int.mul_le_mul_of_nonneg_left (by omega) (hb.1 hn).1
      omega
    · have := hb.2 (by omega); omega
  by_cases hc : d - n % d ≤ n % d
  · have hq8 := hq7 hc
    rw [if_pos hc] at hr
    have HR := Lib.hid hr
    clear hr h hb hq7
    go_enter Tryd.func13, Tryd.ntmps13
    go_wp2_with (first | (go_at_call 12; refine (below_any n d _ h1 h2 hd hd2).mono ?_; rintro e w' ⟨rfl, g, rfl⟩))
    go_ret
    exact ⟨ret_int HR.out.symm, by ((repeat (first | exact Ext.refl _ | apply Ext.alloc | apply Ext.ext)))⟩
  · rw [if_neg hc] at hr
    have HR := Lib.hid hr
    clear hr h hb hq7
    go_enter Tryd.func13, Tryd.ntmps13
    go_wp2_with (first | (go_at_call 12; refine (below_any n d _ h1 h2 hd hd2).mono ?_; rintro e w' ⟨rfl, g, rfl⟩))
    go_ret
    exact ⟨ret_int HR.out.symm, by ((repeat (first | exact Ext.refl _ | apply Ext.alloc | apply Ext.ext)))⟩

set_option maxHeartbeats 1600000 in
theorem awake_any (w : World) : Calls Tryd.prog 14 #[] w fun e w' => e = .returned (.bool true) ∧ Ext w w' := by
  go_enter Tryd.func14, Tryd.ntmps14
  go_wp2_with (first | (go_at_call 20; refine (mul_yes 384 128 _ (by omega) (by omega) (by omega)).mono ?_; rintro e w' ⟨rfl, g, rfl⟩) | (go_at_call 11; refine (near_128 _).mono ?_; rintro e w' ⟨rfl, g, rfl⟩) | (go_at_call 22; refine (text_384 _).mono ?_; rintro e w' ⟨rfl, g, rfl⟩))
  go_ret
  exact ⟨by rfl, by ((repeat (first | exact Ext.refl _ | apply Ext.alloc | apply Ext.ext)))⟩
end Go.Proofs.YtikbofbgfoafkaaDoor
