import Derived.Test.YtncphiphgkjflaaILayW
import Derived.Test.YtncphiphgkjflaaIOpen
set_option linter.unusedVariables false
set_option linter.unusedSimpArgs false
namespace Go.Proofs.Ytncphiphgkjflaa
open Go Go.ChangeShapes Go.WideShapes Go.ChangeAt Go.RowKit Go.Deep

set_option maxRecDepth 100000 in
theorem open_laid_of {H : Type} {enc : TypeId × Value → H} {Wd : World} {base : Nat} {v : Value} {d : DataW H} {ps : List MemPlace}
    (hval : Value.okWide Try.prog Wd .any base 64 v) (h : DataW.Trod enc Try.prog Wd 0 (fun _ => true) true 64 v d ps) :
    ∃ (a b : Int) (x : Value) (l : List Px) (a2 b2 : Int) (x2 : Value) (l2 : List Px) (y0 y1 t m : Int), v = .agg #[.int .i64 a, .int .i64 b, x, .int .i64 a2, .int .i64 b2, x2, .int .i64 y0, .int .i64 y1, .int .u8 t, .int .i64 m] ∧ (-9223372036854775808 ≤ a ∧ a ≤ 9223372036854775807) ∧ (-9223372036854775808 ≤ b ∧ b ≤ 9223372036854775807) ∧ Pix .u8 Wd x l ∧ (-9223372036854775808 ≤ a2 ∧ a2 ≤ 9223372036854775807) ∧ (-9223372036854775808 ≤ b2 ∧ b2 ≤ 9223372036854775807) ∧ Pix .u8 Wd x2 l2 ∧ (-9223372036854775808 ≤ y0 ∧ y0 ≤ 9223372036854775807) ∧ (-9223372036854775808 ≤ y1 ∧ y1 ≤ 9223372036854775807) ∧ (0 ≤ t ∧ t ≤ 255) ∧ (-9223372036854775808 ≤ m ∧ m ≤ 9223372036854775807) := by
  obtain ⟨cs, rfl, hsz⟩ := okWide_struct Try.underlying64 hval
  obtain ⟨cs', e, hr⟩ := open_value (ts := [3, 3, 22, 3, 3, 22, 3, 3, 5, 3]) ⟨cs, rfl, hsz⟩ 6 (by kernel_rfl) (by kernel_rfl) h
  simp only [Value.agg.injEq] at e
  subst e
  obtain ⟨a, ea, wa⟩ := leaf_int hr 0 3 rfl (k := .i64) (by kernel_rfl)
  obtain ⟨b, eb, wb⟩ := leaf_int hr 1 3 rfl (k := .i64) (by kernel_rfl)
  obtain ⟨A, n, cap, ex, hn, hcap, hx, hnil⟩ := leaf_slice hr 2 22 rfl (e := 40) (by kernel_rfl) 4 (us := [5, 5, 5, 5]) (by kernel_rfl) (by kernel_rfl) (by decide)
  obtain ⟨l, hl⟩ := pix_of_cells hn hcap hx hnil
  obtain ⟨a2, ea2, wa2⟩ := leaf_int hr 3 3 rfl (k := .i64) (by kernel_rfl)
  obtain ⟨b2, eb2, wb2⟩ := leaf_int hr 4 3 rfl (k := .i64) (by kernel_rfl)
  obtain ⟨A2, n2, cap2, ex2, hn2, hcap2, hx2, hnil2⟩ := leaf_slice hr 5 22 rfl (e := 40) (by kernel_rfl) 4 (us := [5, 5, 5, 5]) (by kernel_rfl) (by kernel_rfl) (by decide)
  obtain ⟨l2, hl2⟩ := pix_of_cells hn2 hcap2 hx2 hnil2
  obtain ⟨y0, e6, w6⟩ := leaf_int hr 6 3 rfl (k := .i64) (by kernel_rfl)
  obtain ⟨y1, e7, w7⟩ := leaf_int hr 7 3 rfl (k := .i64) (by kernel_rfl)
  obtain ⟨t, e8, w8⟩ := leaf_int hr 8 5 rfl (k := .u8) (by kernel_rfl)
  obtain ⟨m, e9, w9⟩ := leaf_int hr 9 3 rfl (k := .i64) (by kernel_rfl)
  have b8 := wf_u8 w8
  refine ⟨a, b, _, l, a2, b2, _, l2, y0, y1, t, m, ?_, wf_i64 wa, wf_i64 wb, hl, wf_i64 wa2, wf_i64 wb2, hl2, wf_i64 w6, wf_i64 w7, by omega, wf_i64 w9⟩
  have hlen := hr.1
  match cs', hlen, ea, eb, ex, ea2, eb2, ex2, e6, e7, e8, e9 with
  | [x, y, z, x2, y2, z2, q6, q7, q8, q9], _, ea, eb, ex, ea2, eb2, ex2, e6, e7, e8, e9 =>
    simp at ea eb ex ea2 eb2 ex2 e6 e7 e8 e9
    subst ea eb ex ea2 eb2 ex2 e6 e7 e8 e9
    rfl

set_option maxRecDepth 100000 in
set_option maxHeartbeats 3200000 in
theorem ImageLays_walk (W H : Int) (v : Value) (l : List Px) (W2 H2 : Int) (v2 : Value) (l2 : List Px) (x y t m : Int) (w : World) (hW : (-9223372036854775808 ≤ W ∧ W ≤ 9223372036854775807)) (hH : (-9223372036854775808 ≤ H ∧ H ≤ 9223372036854775807)) (hl : Pix .u8 w v l) (hW2 : (-9223372036854775808 ≤ W2 ∧ W2 ≤ 9223372036854775807)) (hH2 : (-9223372036854775808 ≤ H2 ∧ H2 ≤ 9223372036854775807)) (hl2 : Pix .u8 w v2 l2) (hx : (-9223372036854775808 ≤ x ∧ x ≤ 9223372036854775807)) (hy : (-9223372036854775808 ≤ y ∧ y ≤ 9223372036854775807)) (ht : 0 ≤ t ∧ t ≤ 255) (hm : (-9223372036854775808 ≤ m ∧ m ≤ 9223372036854775807)) :
    Calls Try.prog 7 #[.agg #[.int .i64 W, .int .i64 H, v, .int .i64 W2, .int .i64 H2, v2, .int .i64 x, .int .i64 y, .int .u8 t, .int .i64 m]] w fun e w' => e = .returned (.bool true) ∧ Ext w w' := by
  by_cases hn : l.length ≤ 400
  · by_cases hn2 : l2.length ≤ 400
    · have h := lays_any W H W2 H2 x y m t.toNat v v2 l l2 w hl hl2 hn hn2 hW hH hW2 hH2 hx hy (by omega) hm
      rwa [show ((t.toNat : Nat) : Int) = t by omega] at h
    · obtain ⟨X, c, rfl, hc1, hc2, _⟩ := hl
      obtain ⟨X2, d, rfl, hd1, hd2, _⟩ := hl2
      obtain ⟨N, hN⟩ : ∃ N, l.length = N := ⟨_, rfl⟩
      obtain ⟨N2, hN2⟩ : ∃ N, l2.length = N := ⟨_, rfl⟩
      rw [hN] at hn
      rw [hN2] at hn2
      rw [hN, hN2]
      have SM := Lib.hid (fun wx => small_any W H X N c wx)
      have SO := Lib.hid (fun wx => small_any W2 H2 X2 N2 d wx)
      rw [show decide ((N : Int) ≤ 400) = true by simp; omega] at SM
      rw [show decide ((N2 : Int) ≤ 400) = false by simp; omega] at SO
      go_enter Try.func7, Try.ntmps7
      go_wp2_with fail
      refine (SM.out _).mono ?_
      rintro e w1 ⟨rfl, g1, rfl⟩
      go_wp2_with fail
      refine (SO.out _).mono ?_
      rintro e w2 ⟨rfl, g2, rfl⟩
      go_wp2_with fail
      refine (awake_any _).mono ?_
      rintro e w3 ⟨rfl, g3, rfl⟩
      go_wp2
      go_ret
      exact ⟨rfl, (by (repeat (first | exact Ext.refl _ | apply Ext.alloc | apply Ext.ext)))⟩
  · obtain ⟨X, c, rfl, hc1, hc2, _⟩ := hl
    obtain ⟨X2, d, rfl, hd1, hd2, _⟩ := hl2
    obtain ⟨N, hN⟩ : ∃ N, l.length = N := ⟨_, rfl⟩
    rw [hN] at hn
    rw [hN]
    have SM := Lib.hid (fun wx => small_any W H X N c wx)
    rw [show decide ((N : Int) ≤ 400) = false by simp; omega] at SM
    go_enter Try.func7, Try.ntmps7
    go_wp2_with fail
    refine (SM.out _).mono ?_
    rintro e w1 ⟨rfl, g1, rfl⟩
    go_wp2_with fail
    refine (awake_any _).mono ?_
    rintro e w3 ⟨rfl, g3, rfl⟩
    go_wp2
    go_ret
    exact ⟨rfl, (by (repeat (first | exact Ext.refl _ | apply Ext.alloc | apply Ext.ext)))⟩

end Go.Proofs.Ytncphiphgkjflaa
