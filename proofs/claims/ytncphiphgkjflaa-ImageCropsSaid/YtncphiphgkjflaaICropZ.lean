import Derived.Test.YtncphiphgkjflaaICropW1
import Derived.Test.YtncphiphgkjflaaICropW2
import Derived.Test.YtncphiphgkjflaaICropX0
import Derived.Test.YtncphiphgkjflaaICropX2
import Derived.Test.YtncphiphgkjflaaICropX3
import Derived.Test.YtncphiphgkjflaaICropX4
import Derived.Test.YtncphiphgkjflaaICropY0
import Derived.Test.YtncphiphgkjflaaICropY1
import Derived.Test.YtncphiphgkjflaaICropY2
import Derived.Test.YtncphiphgkjflaaICropY3
import Derived.Test.YtncphiphgkjflaaICropY4
namespace Go.Proofs.Ytncphiphgkjflaa
open Go.RowKit Go.Shelf
set_option linter.unusedVariables false
set_option linter.unusedSimpArgs false

set_option maxRecDepth 100000 in
set_option maxHeartbeats 3200000 in
theorem crops_big (W H : Int) (v : Value) (l : List Px) (a0 b0 a1 b1 px py : Int) (w : World) (hW : -9223372036854775808 ≤ W ∧ W ≤ 9223372036854775807) (hH : -9223372036854775808 ≤ H ∧ H ≤ 9223372036854775807) (hl : Pix .u8 w v l) (hn : ¬ l.length ≤ 400) :
    Calls Try.prog 3 #[.agg #[.int .i64 W, .int .i64 H, v], .agg #[.int .i64 a0, .int .i64 b0, .int .i64 a1, .int .i64 b1], .agg #[.int .i64 px, .int .i64 py]] w fun e w' => e = .returned (.bool true) ∧ Ext w w' := by
  obtain ⟨X, c, rfl, hc1, hc2, _⟩ := hl
  obtain ⟨N, hN⟩ : ∃ N, l.length = N := ⟨_, rfl⟩
  rw [hN] at hn
  rw [hN]
  have SM := Lib.hid (fun wx => small_any W H X N c wx)
  rw [show decide ((N : Int) ≤ 400) = false by simp; omega] at SM
  go_enter Try.func3, Try.ntmps3
  go_wp2_with fail
  refine (SM.out _).mono ?_
  rintro e w1 ⟨rfl, g1, rfl⟩
  go_wp2_with fail
  refine (awake_any _).mono ?_
  rintro e w2 ⟨rfl, g2, rfl⟩
  go_wp2
  go_ret
  exact ⟨rfl, (by (repeat (first | exact Ext.refl _ | apply Ext.alloc | apply Ext.ext)))⟩

theorem pt_cases (W H px py : Int) : (¬ 0 ≤ px) ∨ (0 ≤ px ∧ ¬ px < W) ∨ (0 ≤ px ∧ px < W ∧ ¬ 0 ≤ py) ∨ (0 ≤ px ∧ px < W ∧ 0 ≤ py ∧ ¬ py < H) ∨ (0 ≤ px ∧ px < W ∧ 0 ≤ py ∧ py < H) := by
  by_cases h1 : 0 ≤ px
  · by_cases h2 : px < W
    · by_cases h3 : 0 ≤ py
      · by_cases h4 : py < H
        · exact .inr (.inr (.inr (.inr ⟨h1, h2, h3, h4⟩)))
        · exact .inr (.inr (.inr (.inl ⟨h1, h2, h3, h4⟩)))
      · exact .inr (.inr (.inl ⟨h1, h2, h3⟩))
    · exact .inr (.inl ⟨h1, h2⟩)
  · exact .inl h1

theorem box_cases (W H a0 b0 a1 b1 : Int) : (a0 < 0 ∨ (¬ a0 < 0 ∧ b0 < 0) ∨ (¬ a0 < 0 ∧ ¬ b0 < 0 ∧ W < a1) ∨ (¬ a0 < 0 ∧ ¬ b0 < 0 ∧ ¬ W < a1 ∧ H < b1) ∨ (¬ a0 < 0 ∧ ¬ b0 < 0 ∧ ¬ W < a1 ∧ ¬ H < b1 ∧ a1 ≤ a0) ∨ (¬ a0 < 0 ∧ ¬ b0 < 0 ∧ ¬ W < a1 ∧ ¬ H < b1 ∧ ¬ a1 ≤ a0 ∧ b1 ≤ b0)) ∨ (0 ≤ a0 ∧ 0 ≤ b0 ∧ a1 ≤ W ∧ b1 ≤ H ∧ a0 < a1 ∧ b0 < b1) := by
  by_cases h1 : a0 < 0
  · exact .inl (.inl h1)
  · by_cases h2 : b0 < 0
    · exact .inl (.inr (.inl ⟨h1, h2⟩))
    · by_cases h3 : W < a1
      · exact .inl (.inr (.inr (.inl ⟨h1, h2, h3⟩)))
      · by_cases h4 : H < b1
        · exact .inl (.inr (.inr (.inr (.inl ⟨h1, h2, h3, h4⟩))))
        · by_cases h5 : a1 ≤ a0
          · exact .inl (.inr (.inr (.inr (.inr (.inl ⟨h1, h2, h3, h4, h5⟩)))))
          · by_cases h6 : b1 ≤ b0
            · exact .inl (.inr (.inr (.inr (.inr (.inr ⟨h1, h2, h3, h4, h5, h6⟩)))))
            · exact .inr ⟨by omega, by omega, by omega, by omega, by omega, by omega⟩

theorem ImageCrops_walk (W H : Int) (v : Value) (l : List Px) (a0 b0 a1 b1 px py : Int) (w : World) (hW : -9223372036854775808 ≤ W ∧ W ≤ 9223372036854775807) (hH : -9223372036854775808 ≤ H ∧ H ≤ 9223372036854775807) (hl : Pix .u8 w v l)
    (hb1 : -9223372036854775808 ≤ a0 ∧ a0 ≤ 9223372036854775807) (hb2 : -9223372036854775808 ≤ b0 ∧ b0 ≤ 9223372036854775807) (hb3 : -9223372036854775808 ≤ a1 ∧ a1 ≤ 9223372036854775807) (hb4 : -9223372036854775808 ≤ b1 ∧ b1 ≤ 9223372036854775807) (hpx : -9223372036854775808 ≤ px ∧ px ≤ 9223372036854775807) (hpy : -9223372036854775808 ≤ py ∧ py ≤ 9223372036854775807) :
    Calls Try.prog 3 #[.agg #[.int .i64 W, .int .i64 H, v], .agg #[.int .i64 a0, .int .i64 b0, .int .i64 a1, .int .i64 b1], .agg #[.int .i64 px, .int .i64 py]] w fun e w' => e = .returned (.bool true) ∧ Ext w w' := by
  by_cases hn : l.length ≤ 400
  · cases h1 : rightI W H l with
    | false => exact crops_wrong W H v l a0 b0 a1 b1 px py w hW hH hl hn h1
    | true =>
      have hside : sideB W = true ∧ sideB H = true := by
        have a := h1
        unfold rightI at a
        simp only [Bool.and_eq_true] at a
        exact ⟨a.1.1.1, a.1.1.2⟩
      have hWb : 1 ≤ W ∧ W ≤ 256 := by have := hside.1; simp [sideB] at this; omega
      have hHb : 1 ≤ H ∧ H ≤ 256 := by have := hside.2; simp [sideB] at this; omega
      clear hside
      obtain ⟨Wn, rfl⟩ : ∃ n : Nat, W = (n : Int) := ⟨W.toNat, by omega⟩
      obtain ⟨Hn, rfl⟩ : ∃ n : Nat, H = (n : Int) := ⟨H.toNat, by omega⟩
      rcases box_cases (Wn : Int) (Hn : Int) a0 b0 a1 b1 with hbad | ⟨g1, g2, g3, g4, g5, g6⟩
      · rcases pt_cases (Wn : Int) (Hn : Int) px py with p1 | ⟨p1, p2⟩ | ⟨p1, p2, p3⟩ | ⟨p1, p2, p3, p4⟩ | ⟨p1, p2, p3, p4⟩
        · exact crops_1_bad Wn Hn v l a0 b0 a1 b1 px py w hl hn h1 hpx hpy p1 hb1 hb2 hb3 hb4 hbad
        · exact crops_2_bad Wn Hn v l a0 b0 a1 b1 px py w hl hn h1 hpx hpy p1 p2 hb1 hb2 hb3 hb4 hbad
        · exact crops_3_bad Wn Hn v l a0 b0 a1 b1 px py w hl hn h1 hpx hpy p1 p2 p3 hb1 hb2 hb3 hb4 hbad
        · exact crops_4_bad Wn Hn v l a0 b0 a1 b1 px py w hl hn h1 hpx hpy p1 p2 p3 p4 hb1 hb2 hb3 hb4 hbad
        · obtain ⟨x, rfl⟩ : ∃ n : Nat, px = (n : Int) := ⟨px.toNat, by omega⟩
          obtain ⟨y, rfl⟩ : ∃ n : Nat, py = (n : Int) := ⟨py.toNat, by omega⟩
          exact crops_0_bad Wn Hn v l a0 b0 a1 b1 x y w hl hn h1 (by omega) (by omega) hb1 hb2 hb3 hb4 hbad
      · obtain ⟨x0, rfl⟩ : ∃ n : Nat, a0 = (n : Int) := ⟨a0.toNat, by omega⟩
        obtain ⟨y0, rfl⟩ : ∃ n : Nat, b0 = (n : Int) := ⟨b0.toNat, by omega⟩
        obtain ⟨x1, rfl⟩ : ∃ n : Nat, a1 = (n : Int) := ⟨a1.toNat, by omega⟩
        obtain ⟨y1, rfl⟩ : ∃ n : Nat, b1 = (n : Int) := ⟨b1.toNat, by omega⟩
        rcases pt_cases (Wn : Int) (Hn : Int) px py with p1 | ⟨p1, p2⟩ | ⟨p1, p2, p3⟩ | ⟨p1, p2, p3, p4⟩ | ⟨p1, p2, p3, p4⟩
        · exact crops_1_good Wn Hn v l x0 y0 x1 y1 (x1 - x0) (y1 - y0) px py w hl hn h1 hpx hpy p1 (by omega) (by omega) (by omega) (by omega) (by omega) (by omega)
        · exact crops_2_good Wn Hn v l x0 y0 x1 y1 (x1 - x0) (y1 - y0) px py w hl hn h1 hpx hpy p1 p2 (by omega) (by omega) (by omega) (by omega) (by omega) (by omega)
        · exact crops_3_good Wn Hn v l x0 y0 x1 y1 (x1 - x0) (y1 - y0) px py w hl hn h1 hpx hpy p1 p2 p3 (by omega) (by omega) (by omega) (by omega) (by omega) (by omega)
        · exact crops_4_good Wn Hn v l x0 y0 x1 y1 (x1 - x0) (y1 - y0) px py w hl hn h1 hpx hpy p1 p2 p3 p4 (by omega) (by omega) (by omega) (by omega) (by omega) (by omega)
        · obtain ⟨x, rfl⟩ : ∃ n : Nat, px = (n : Int) := ⟨px.toNat, by omega⟩
          obtain ⟨y, rfl⟩ : ∃ n : Nat, py = (n : Int) := ⟨py.toNat, by omega⟩
          exact crops_0_good Wn Hn v l x0 y0 x1 y1 (x1 - x0) (y1 - y0) x y w hl hn h1 (by omega) (by omega) (by omega) (by omega) (by omega) (by omega) (by omega) (by omega)
  · exact crops_big W H v l a0 b0 a1 b1 px py w hW hH hl hn

end Go.Proofs.Ytncphiphgkjflaa
