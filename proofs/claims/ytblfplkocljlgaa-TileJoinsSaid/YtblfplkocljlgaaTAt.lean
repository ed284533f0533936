import Derived.Test.YtblfplkocljlgaaTSto
namespace Go.Proofs.Ytblfplkocljlgaa
open Go.RowKit
set_option linter.unusedVariables false
set_option linter.unusedSimpArgs false

set_option maxRecDepth 100000 in
set_option maxHeartbeats 1600000 in
theorem at_in (W H : Nat) (v : Value) (l : List Px) (x y : Nat) (w : World) (hl : Pix .u8 w v l) (hlen : l.length = W * H) (hW : W ≤ 256) (hH : H ≤ 256) (hx : x < W) (hy : y < H) :
    Calls Try.prog 45 #[.agg #[.int .i64 (W : Int), .int .i64 (H : Int), v], .int .i64 (x : Int), .int .i64 (y : Int)] w fun e w' => e = .returned (.tuple #[valP .u8 (l.getD (y * W + x) noP), .bool true]) ∧ Ext w w' := by
  have P := Lib.hid hl
  obtain ⟨X, c, rfl, hc1, hc2, _⟩ := hl
  have hend : y * W + x < l.length := by
    have := row_end (W := W) (H := H) (x0 := x) (d := 1) (y := y) hy (by omega)
    rw [hlen]; omega
  have hb : l.length ≤ 65536 := by rw [hlen]; exact Nat.mul_le_mul hW hH
  obtain ⟨N, hN⟩ : ∃ N, l.length = N := ⟨_, rfl⟩
  rw [hN] at P hc1 hend hb
  rw [hN]
  have HN := Lib.hid hN
  clear hN hlen
  obtain ⟨t, ht⟩ : ∃ t, y * W = t := ⟨_, rfl⟩
  have ht' : (y : Int) * (W : Int) = (t : Int) := by rw [← ht]; simp
  rw [ht] at hend ⊢
  obtain ⟨b, off, r, g, u, a, rfl, hbs, hp, hpb, c0, c1, c2, c3⟩ := P.out.at hend
  have HS := Lib.hid (fun wx => has_any 0 0 (W : Int) (H : Int) (x : Int) (y : Int) wx)
  rw [show hasB (0, 0, (W : Int), (H : Int)) (x : Int) (y : Int) = true by unfold hasB; simp; omega] at HS
  rw [hp]
  have he : (t : Int) + (x : Int) < (N : Int) := by omega
  have HX : Hid (∀ wx, Ext w wx → wx.cell? ⟨b, off + (t + x) * 4, none⟩ = some (.int .u8 (r : Int)) ∧ wx.cell? ⟨b, off + ((t + x) * 4 + 1), none⟩ = some (.int .u8 (g : Int)) ∧ wx.cell? ⟨b, off + ((t + x) * 4 + 2), none⟩ = some (.int .u8 (u : Int)) ∧ wx.cell? ⟨b, off + ((t + x) * 4 + 3), none⟩ = some (.int .u8 (a : Int))) := Lib.hid (fun wx h => ⟨(h.cell hbs).trans c0, (h.cell hbs).trans c1, (h.cell hbs).trans c2, (h.cell hbs).trans c3⟩)
  have HT := Lib.hid ht
  clear c0 c1 c2 c3 ht hp
  go_enter Try.func45, Try.ntmps45
  go_wp2_with fail
  refine (box_any (W : Int) (H : Int) _ _).mono ?_
  rintro e w1 ⟨rfl, g1, rfl⟩
  go_wp2_with fail
  refine (HS.out _).mono ?_
  rintro e w2 ⟨rfl, g2, rfl⟩
  obtain ⟨wz, hwz⟩ : ∃ wz, (((w.alloc (.cells #[.int .i64 (W : Int), .int .i64 (H : Int), .slice (some ⟨b, off, none⟩) N c] 47)).alloc (.cells #[.int .u8 0, .int .u8 0, .int .u8 0, .int .u8 0] 68)).ext g1).ext g2 = wz := ⟨_, rfl⟩
  have EZ : Hid (Ext w wz) := Lib.hid (by rw [← hwz]; (repeat (first | exact Ext.refl _ | apply Ext.alloc | apply Ext.ext)))
  have i2 : wz.cell? ⟨w.heap.size, 2, none⟩ = some (.slice (some ⟨b, off, none⟩) N c) := by rw [← hwz]; simp [go_sem]
  have r0 : wz.cell? ⟨w.heap.size + 1, 0, none⟩ = some (.int .u8 0) := by rw [← hwz]; simp [go_sem]
  have r1 : wz.cell? ⟨w.heap.size + 1, 1, none⟩ = some (.int .u8 0) := by rw [← hwz]; simp [go_sem]
  have r2 : wz.cell? ⟨w.heap.size + 1, 2, none⟩ = some (.int .u8 0) := by rw [← hwz]; simp [go_sem]
  have r3 : wz.cell? ⟨w.heap.size + 1, 3, none⟩ = some (.int .u8 0) := by rw [← hwz]; simp [go_sem]
  have rf : ∀ j, wz.frozen? ⟨w.heap.size + 1, j, none⟩ = false := fun j => by rw [← hwz]; simp [go_sem]
  rw [hwz]
  clear hwz
  obtain ⟨d0, d1, d2, d3⟩ := HX.out wz EZ.out
  go_wp2
  refine bodyPost_ret (v := .tuple #[.agg #[.int .u8 (r : Int), .int .u8 (g : Int), .int .u8 (u : Int), .int .u8 (a : Int)], .bool true]) (by simp [results, Try.results45, go_sem, r0, r1, r2, r3, rf]) rfl ⟨rfl, ?_⟩
  exact ((((EZ.out.setCell (by simp) _).setCell (by simp) _).setCell (by simp) _).setCell (by simp) _)
end Go.Proofs.Ytblfplkocljlgaa
