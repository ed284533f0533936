import Derived.Test.YtncphiphgkjflaaIRefW
import Derived.Test.YtncphiphgkjflaaIEq
namespace Go.Proofs.Ytncphiphgkjflaa
open Go.RowKit Go.Shelf
set_option linter.unusedVariables false
set_option linter.unusedSimpArgs false

theorem eqI_self (W H : Int) (l : List Px) : eqI W H W H l l = true := by simp [eqI]

set_option maxRecDepth 100000 in
set_option maxHeartbeats 12800000 in
theorem ibytes_no (W H : Int) (v : Value) (l : List Px) (w : World) (hW : -9223372036854775808 ≤ W ∧ W ≤ 9223372036854775807) (hH : -9223372036854775808 ≤ H ∧ H ≤ 9223372036854775807) (hl : Pix .u8 w v l) (hn : l.length ≤ 400) (hr : rightI W H l = false) :
    Calls Try.prog 8 #[.agg #[.int .i64 W, .int .i64 H, v]] w fun e w' => e = .returned (.bool true) ∧ Ext w w' := by
  have P := Lib.hid hl
  obtain ⟨X, c, rfl, hc1, hc2, _⟩ := hl
  obtain ⟨N, hN⟩ : ∃ N, l.length = N := ⟨_, rfl⟩
  rw [hN] at P hc1
  rw [hN]
  have HN := Lib.hid hN
  clear hN
  have hn' : N ≤ 400 := by rw [← HN.out]; exact hn
  have SM := Lib.hid (fun wx => small_any W H X N c wx)
  rw [show decide ((N : Int) ≤ 400) = true by simp; omega] at SM
  have RF := Lib.hid (fun wx (hx : Ext w wx) => ref_any W H (.slice X N c) l wx (P.out.ext hx) hn)
  have BN := Lib.hid (fun wx (hx : Ext w wx) => bytes_no W H (.slice X N c) l wx (P.out.ext hx) hW hH hr)
  go_enter Try.func8, Try.ntmps8
  go_wp2_with fail
  refine (SM.out _).mono ?_
  rintro e w1 ⟨rfl, g1, rfl⟩
  go_wp2_with fail
  refine (BN.out _ (by (repeat (first | exact Ext.refl _ | apply Ext.alloc | apply Ext.ext)))).mono ?_
  rintro e w2 ⟨rfl, g2, rfl⟩
  go_wp2_with fail
  refine (RF.out _ (by (repeat (first | exact Ext.refl _ | apply Ext.alloc | apply Ext.ext)))).mono ?_
  rintro e w3 ⟨v2, rfl, hO2, g3, rfl⟩
  have P2 := Lib.hid hO2.pix
  obtain ⟨A2, c2, rfl⟩ := own_slice hO2.1
  clear hO2
  rw [HN.out] at P2 ⊢
  have RI := refRightImg_any W H (.slice A2 N c2) l _ hW hH P2.out
  rw [hr] at RI
  have RI := Lib.hid RI
  go_wp2_with fail
  refine RI.out.mono ?_
  rintro e w4 ⟨rfl, g4, rfl⟩
  go_wp2_with fail
  refine (awake_any _).mono ?_
  rintro e w9 ⟨rfl, g9, rfl⟩
  go_wp2
  go_ret
  exact ⟨rfl, (by (repeat (first | exact Ext.refl _ | apply Ext.alloc | apply Ext.ext)))⟩

set_option maxRecDepth 100000 in
set_option maxHeartbeats 12800000 in
theorem ibytes_yes (a b : Nat) (v : Value) (l : List Px) (w : World) (hl : Pix .u8 w v l) (hn : l.length ≤ 400) (hr : rightI ((a + 1 : Nat) : Int) ((b + 1 : Nat) : Int) l = true) :
    Calls Try.prog 8 #[.agg #[.int .i64 ((a + 1 : Nat) : Int), .int .i64 ((b + 1 : Nat) : Int), v]] w fun e w' => e = .returned (.bool true) ∧ Ext w w' := by
  have P := Lib.hid hl
  have PB := parse_back a b l hr
  have hbt : ∀ i, (bytesL ((a + 1 : Nat) : Int) ((b + 1 : Nat) : Int) l).getD i 0 < 256 := bytesL_ok (okP_all hl)
  have hbl9 : (bytesL ((a + 1 : Nat) : Int) ((b + 1 : Nat) : Int) l).length ≤ 2002 := by
    have := runsOf_len l
    unfold bytesL
    unfold runsOf at this
    simp only [List.length_append, List.length_cons, List.length_nil]
    omega
  obtain ⟨X, c, rfl, hc1, hc2, _⟩ := hl
  obtain ⟨N, hN⟩ : ∃ N, l.length = N := ⟨_, rfl⟩
  rw [hN] at P hc1
  rw [hN]
  have HN := Lib.hid hN
  clear hN
  have hn' : N ≤ 400 := by rw [← HN.out]; exact hn
  obtain ⟨W, hWa⟩ : ∃ W, a + 1 = W := ⟨_, rfl⟩
  obtain ⟨H, hHa⟩ : ∃ H, b + 1 = H := ⟨_, rfl⟩
  rw [hWa, hHa] at hr PB hbt hbl9
  rw [hWa, hHa]
  have hside : sideB (W : Int) = true ∧ sideB (H : Int) = true := by
    have a := hr
    unfold rightI at a
    simp only [Bool.and_eq_true] at a
    exact ⟨a.1.1.1, a.1.1.2⟩
  have hWb : 1 ≤ W ∧ W ≤ 256 := by have := hside.1; simp [sideB] at this; omega
  have hHb : 1 ≤ H ∧ H ≤ 256 := by have := hside.2; simp [sideB] at this; omega
  clear hside hWa hHa
  obtain ⟨BL, hBL⟩ : ∃ BL, bytesL (W : Int) (H : Int) l = BL := ⟨_, rfl⟩
  rw [hBL] at PB hbt hbl9
  have HBL := Lib.hid hBL
  have HPB := Lib.hid PB
  have HR := Lib.hid hr
  have HBL9 := Lib.hid hbl9
  clear PB hBL
  have SM := Lib.hid (fun wx => small_any (W : Int) (H : Int) X N c wx)
  rw [show decide ((N : Int) ≤ 400) = true by simp; omega] at SM
  have RF := Lib.hid (fun wx (hx : Ext w wx) => ref_any (W : Int) (H : Int) (.slice X N c) l wx (P.out.ext hx) hn)
  have BY := Lib.hid (fun wx (hx : Ext w wx) => bytes_yes (W : Int) (H : Int) (.slice X N c) l wx (P.out.ext hx) (by omega) hr)
  obtain ⟨S, hS⟩ : ∃ S, strOf BL = S := ⟨_, rfl⟩
  have hS9 : (S.toList == S.toList) = true := by simp
  have HS := Lib.hid hS
  clear hS hr hbl9
  go_enter Try.func8, Try.ntmps8
  go_wp2_with fail
  refine (SM.out _).mono ?_
  rintro e w1 ⟨rfl, g1, rfl⟩
  go_wp2_with fail
  refine (BY.out _ (by (repeat (first | exact Ext.refl _ | apply Ext.alloc | apply Ext.ext)))).mono ?_
  rintro e w2 ⟨A2, n2, c2, rfl, hO2, hE2⟩
  have BB2 := Lib.hid hO2.bytes
  rw [HBL.out] at BB2
  obtain ⟨g2, rfl⟩ := hE2
  go_wp2_with fail
  refine (RF.out _ (by (repeat (first | exact Ext.refl _ | apply Ext.alloc | apply Ext.ext)))).mono ?_
  rintro e w3 ⟨v3, rfl, hO3, g3, rfl⟩
  have P3 := Lib.hid hO3.pix
  obtain ⟨A3, c3, rfl⟩ := own_slice hO3.1
  clear hO2 hO3
  rw [HN.out] at P3 ⊢
  have RI := refRightImg_any (W : Int) (H : Int) (.slice A3 N c3) l _ (by omega) (by omega) P3.out
  rw [HR.out] at RI
  have RI := Lib.hid RI
  go_wp2_with fail
  refine RI.out.mono ?_
  rintro e w4 ⟨rfl, g4, rfl⟩
  go_wp2
  obtain ⟨wz, hwz⟩ : ∃ wz, ((((w.alloc (.cells #[.int .i64 (W : Int), .int .i64 (H : Int), .slice X N c] 24)).ext g1).ext g2).ext g3).ext g4 = wz := ⟨_, rfl⟩
  obtain ⟨q, hq⟩ : ∃ q, w.heap.size = q := ⟨_, rfl⟩
  have EZ : Hid (Ext w wz) := Lib.hid (by rw [← hwz]; (repeat (first | exact Ext.refl _ | apply Ext.alloc | apply Ext.ext)))
  have BZ : Hid (∀ wx, Ext wz wx → Bytes wx (.slice A2 n2 c2) BL) := Lib.hid (fun wx hx => by
    refine BB2.out.ext (Ext.trans ?_ hx)
    rw [← hwz]
    exact ((Ext.refl _).ext g3).ext g4)
  have i0 : wz.cell? ⟨q, 0, none⟩ = some (.int .i64 (W : Int)) := by rw [← hwz, ← hq]; simp [go_sem]
  have i1 : wz.cell? ⟨q, 1, none⟩ = some (.int .i64 (H : Int)) := by rw [← hwz, ← hq]; simp [go_sem]
  have i2 : wz.cell? ⟨q, 2, none⟩ = some (.slice X N c) := by rw [← hwz, ← hq]; simp [go_sem]
  have hz : q < wz.heap.size := by rw [← hwz, ← hq]; simp only [World.size_alloc, ext_size]; omega
  have k0 : ∀ g, (wz.ext g).cell? ⟨q, 0, none⟩ = some (.int .i64 (W : Int)) := fun g => ((show Ext wz (wz.ext g) from ⟨g, rfl⟩).cell hz).trans i0
  have k1 : ∀ g, (wz.ext g).cell? ⟨q, 1, none⟩ = some (.int .i64 (H : Int)) := fun g => ((show Ext wz (wz.ext g) from ⟨g, rfl⟩).cell hz).trans i1
  have k2 : ∀ g, (wz.ext g).cell? ⟨q, 2, none⟩ = some (.slice X N c) := fun g => ((show Ext wz (wz.ext g) from ⟨g, rfl⟩).cell hz).trans i2
  have k3 : ∀ g, (convert 59 9 (.slice A2 n2 c2)).run Try.prog (wz.ext g) = .ok (.string S) (wz.ext g) := fun g => by
    rw [← HS.out]
    exact conv_bytes (BZ.out _ ⟨g, rfl⟩)
  have FC : Hid (∀ wr, Ext wz wr → wr.cell? ⟨q, 0, none⟩ = some (.int .i64 (W : Int)) ∧ wr.cell? ⟨q, 1, none⟩ = some (.int .i64 (H : Int)) ∧ wr.cell? ⟨q, 2, none⟩ = some (.slice X N c)) := Lib.hid (fun wr hk => ⟨(hk.cell hz).trans i0, (hk.cell hz).trans i1, (hk.cell hz).trans i2⟩)
  have HZ := Lib.hid hz
  rw [hwz, hq]
  clear hwz hq i0 i1 i2
  refine region_flow 11 [36, 37] (fun t v => match t with | 36 => ∃ A c, v = .agg #[.int .i64 (W : Int), .int .i64 (H : Int), .slice A N c] | 37 => ∃ A n c, v = .slice A n c | _ => False) (fun t v w' => match t with | 36 => ∃ A c, v = .agg #[.int .i64 (W : Int), .int .i64 (H : Int), .slice A N c] ∧ Pix .i64 w' (.slice A N c) l | 37 => Bytes w' v BL | _ => True) (by kernel_rfl) (by kernel_rfl) ?hq ?hu ?hR ?h
  case hq => intro t v h; split at h <;> simp_all
  case hu => intro t h; split at h <;> simp_all [undef]
  case hR => intro t v w w' h1 h2 h3; split at h1 <;> first | exact (by obtain ⟨A, c, e, h⟩ := h2; exact ⟨A, c, e, h.ext h3⟩) | exact Bytes.ext h2 h3 | trivial
  case h =>
    dsimp only [List.take, List.drop]
    repeat (first | (refine Flow.skip rfl ?_; simp only [Act.put, List.setIfInBounds_toArray, List.set_cons_zero, List.set_cons_succ]) | (refine Flow.plain rfl rfl ?_; go_big_quiet_step (fail); refine wpQuiet_nil ?_))
    refine Flow.call Try.call12 [.agg #[.int .i64 (W : Int), .int .i64 (H : Int), .slice X N c]] rfl rfl rfl ?_ (fun wx hx hf => (RF.out wx (EZ.out.trans hx)).mono ?_) ?_
    · exact ⟨_, none, 0, rfl⟩
    · rintro e w' ⟨v', he, hO, hE⟩
      have hP := hO.pix
      obtain ⟨A', c', rfl⟩ := own_slice hO.1
      rw [HN.out] at he hP
      exact ⟨_, he, hE, ⟨_, _, rfl⟩, ⟨_, _, rfl, hP⟩⟩
    rintro v ⟨A5, c5, rfl⟩
    simp only [Act.put, List.setIfInBounds_toArray, List.set_cons_zero, List.set_cons_succ]
    refine Flow.call Try.call28 [.agg #[.int .i64 (W : Int), .int .i64 (H : Int), .slice A5 N c5]] rfl rfl rfl ?_ (fun wx hx hf => ?_) ?_
    · exact ⟨_, none, 0, 0, rfl⟩
    · obtain ⟨A9, c9, e9, h26⟩ := hf.at 36 (by kernel_rfl) ⟨A5, c5, rfl⟩
      have e10 : (Value.agg #[.int .i64 (W : Int), .int .i64 (H : Int), .slice A5 N c5]) = .agg #[.int .i64 (W : Int), .int .i64 (H : Int), .slice A9 N c9] := e9
      simp only [Value.agg.injEq, Array.mk.injEq, List.cons.injEq, Value.slice.injEq, and_true, true_and] at e10
      obtain ⟨rfl, rfl⟩ := e10
      refine (refBytes_any (W : Int) (H : Int) (.slice A5 N c5) l wx h26 (by rw [HN.out]; omega) (by omega) (by omega)).mono ?_
      rintro e w' ⟨A, n, c, he, hO, hE⟩
      rw [HBL.out] at hO
      exact ⟨_, he, hE, ⟨_, _, _, rfl⟩, hO.bytes⟩
    rintro v ⟨A6, n6, c6, rfl⟩
    simp only [Act.put, List.setIfInBounds_toArray, List.set_cons_zero, List.set_cons_succ]
    refine Flow.use (.string S) rfl rfl (fun wx hx hf => run_conv 59 9 (.tmp 37) rfl ?_) ?_
    · have h31 := hf.at 37 (by kernel_rfl) ⟨_, _, _, rfl⟩
      rw [← HS.out]; exact conv_bytes h31
    simp only [Act.put, List.setIfInBounds_toArray, List.set_cons_zero, List.set_cons_succ]
    repeat (first | (refine Flow.skip rfl ?_; simp only [Act.put, List.setIfInBounds_toArray, List.set_cons_zero, List.set_cons_succ]) | (refine Flow.plain rfl rfl ?_; go_big_quiet_step (fail); refine wpQuiet_nil ?_))
    refine Flow.nil fun w5 hx5 hf => ?_
    have E5 := Lib.hid (EZ.out.trans hx5)
    have HX5 := Lib.hid hx5
    have PA := Lib.hid (parse_any (.slice A2 n2 c2) BL w5 (BZ.out _ hx5) HBL9.out)
    clear hf hx5 k0 k1 k2 k3
    dsimp only [wpList, Exit.then]
    go_wp2_with fail
    refine PA.out.mono ?_
    rintro e w6 ⟨hE6, hP6⟩
    rw [HPB.out] at hP6
    obtain ⟨v6, rfl, hX6⟩ := hP6
    simp only at hX6
    have P6 := Lib.hid hX6
    obtain ⟨A7, c7, rfl, _⟩ := hX6
    have HX6 := Lib.hid (HX5.out.trans hE6)
    have E6 := Lib.hid (E5.out.trans hE6)
    obtain ⟨i0, i1, i2⟩ := FC.out _ HX6.out
    have hz6 : q < w6.heap.size := Nat.lt_of_lt_of_le HZ.out HX6.out.size
    have EQ := Lib.hid (fun wx (hx : Ext w6 wx) => equal_any (W : Int) (H : Int) (W : Int) (H : Int) (.slice A7 l.length c7) (.slice X N c) l l wx (P6.out.ext hx) (P.out.ext (E6.out.trans hx)))
    rw [eqI_self] at EQ
    rw [HN.out] at EQ P6 ⊢
    clear hE6
    go_wp2_with fail
    refine (EQ.out _ ((Ext.refl w6).alloc _)).mono ?_
    rintro e w7 ⟨rfl, g7, rfl⟩
    go_wp2_with fail
    refine (awake_any _).mono ?_
    rintro e w9 ⟨rfl, g9, rfl⟩
    go_wp2
    go_ret
    exact ⟨rfl, ((E6.out.alloc _).ext g7).ext g9⟩

theorem ImageBytes_walk (W H : Int) (v : Value) (l : List Px) (w : World) (hW : -9223372036854775808 ≤ W ∧ W ≤ 9223372036854775807) (hH : -9223372036854775808 ≤ H ∧ H ≤ 9223372036854775807) (hl : Pix .u8 w v l) :
    Calls Try.prog 8 #[.agg #[.int .i64 W, .int .i64 H, v]] w fun e w' => e = .returned (.bool true) ∧ Ext w w' := by
  by_cases hn : l.length ≤ 400
  · cases hr : rightI W H l with
    | false => exact ibytes_no W H v l w hW hH hl hn hr
    | true =>
      have hside : sideB W = true ∧ sideB H = true := by
        have a := hr
        unfold rightI at a
        simp only [Bool.and_eq_true] at a
        exact ⟨a.1.1.1, a.1.1.2⟩
      have hWb : 1 ≤ W ∧ W ≤ 256 := by have := hside.1; simp [sideB] at this; omega
      have hHb : 1 ≤ H ∧ H ≤ 256 := by have := hside.2; simp [sideB] at this; omega
      obtain ⟨a, rfl⟩ : ∃ a : Nat, W = ((a + 1 : Nat) : Int) := ⟨(W - 1).toNat, by omega⟩
      obtain ⟨b, rfl⟩ : ∃ b : Nat, H = ((b + 1 : Nat) : Int) := ⟨(H - 1).toNat, by omega⟩
      exact ibytes_yes a b v l w hl hn hr
  · obtain ⟨X, c, rfl, hc1, hc2, _⟩ := hl
    obtain ⟨N, hN⟩ : ∃ N, l.length = N := ⟨_, rfl⟩
    rw [hN] at hn
    rw [hN]
    have SM := Lib.hid (fun wx => small_any W H X N c wx)
    rw [show decide ((N : Int) ≤ 400) = false by simp; omega] at SM
    go_enter Try.func8, Try.ntmps8
    go_wp2_with fail
    refine (SM.out _).mono ?_
    rintro e w1 ⟨rfl, g1, rfl⟩
    go_wp2_with fail
    refine (awake_any _).mono ?_
    rintro e w2 ⟨rfl, g2, rfl⟩
    go_wp2
    go_ret
    exact ⟨rfl, (by (repeat (first | exact Ext.refl _ | apply Ext.alloc | apply Ext.ext)))⟩

end Go.Proofs.Ytncphiphgkjflaa
