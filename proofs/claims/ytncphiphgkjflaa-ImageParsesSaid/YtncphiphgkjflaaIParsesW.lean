import Derived.Test.YtncphiphgkjflaaIRefW
namespace Go.Proofs.Ytncphiphgkjflaa
open Go.RowKit Go.Shelf
set_option linter.unusedVariables false
set_option linter.unusedSimpArgs false

set_option maxRecDepth 100000 in
set_option maxHeartbeats 12800000 in
theorem parses_some (v : Value) (b : List Nat) (W H : Nat) (l : List Px) (w : World) (hb : Bytes w v b) (hn : b.length ≤ 2000) (hp : parseF b = some (W, H, l)) :
    Calls Try.prog 6 #[v] w fun e w' => e = .returned (.bool true) ∧ Ext w w' := by
  have BB := Lib.hid hb
  have PA := Lib.hid (parse_any v b w hb (by omega))
  obtain ⟨hr, hbl⟩ := parse_some b _ hp
  simp only at hr hbl
  have hside : sideB (W : Int) = true ∧ sideB (H : Int) = true ∧ l.length = W * H := by
    have a := hr
    unfold rightI at a
    simp only [Bool.and_eq_true, decide_eq_true_eq] at a
    exact ⟨a.1.1.1, a.1.1.2, by have := a.1.2; exact_mod_cast this⟩
  have hWb : 1 ≤ W ∧ W ≤ 256 := by have := hside.1; simp [sideB] at this; omega
  have hHb : 1 ≤ H ∧ H ≤ 256 := by have := hside.2.1; simp [sideB] at this; omega
  have hl9 : l.length ≤ 65536 := by rw [hside.2.2]; exact Nat.mul_le_mul hWb.2 hHb.2
  have HR := Lib.hid hr
  have HBL := Lib.hid hbl
  clear hside hr hbl
  have hbt : ∀ i, b.getD i 0 < 256 := by obtain ⟨_, _, _, _, _, _, h, _⟩ := hb; exact h
  have SE := Lib.hid (str_eq b b hbt hbt)
  obtain ⟨X, c, rfl, h2, h3, _⟩ := hb
  obtain ⟨n, hbn⟩ : ∃ n, b.length = n := ⟨_, rfl⟩
  rw [hbn] at hn h2 BB PA
  rw [hbn]
  have hlt : ¬ (2000 : Int) < (n : Int) := by omega
  clear hbn hbt
  go_enter Try.func6, Try.ntmps6
  go_wp2_with fail
  refine PA.out.mono ?_
  rintro e w2 ⟨hE2, hP2⟩
  rw [hp] at hP2
  obtain ⟨v2, rfl, hX2⟩ := hP2
  simp only at hX2
  have P2 := Lib.hid hX2
  obtain ⟨A2, c2, rfl, hc1, hc2, _⟩ := hX2
  have E2 := Lib.hid hE2
  obtain ⟨N, hN⟩ : ∃ N, l.length = N := ⟨_, rfl⟩
  have HN := Lib.hid hN
  rw [hN] at P2 hc1 hl9
  rw [hN]
  clear hE2 hN hp PA
  go_wp2
  obtain ⟨wz, hwz⟩ : ∃ wz, w2.alloc (.cells #[.int .i64 (W : Int), .int .i64 (H : Int), .slice A2 N c2] 24) = wz := ⟨_, rfl⟩
  obtain ⟨q, hq⟩ : ∃ q, w2.heap.size = q := ⟨_, rfl⟩
  have EZ : Hid (Ext w2 wz) := Lib.hid (by rw [← hwz]; exact (Ext.refl w2).alloc _)
  have EW := Lib.hid (E2.out.trans EZ.out)
  have k0 : ∀ g, (wz.ext g).cell? ⟨q, 0, none⟩ = some (.int .i64 (W : Int)) := fun g => by rw [← hwz, ← hq]; simp [go_sem]
  have k1 : ∀ g, (wz.ext g).cell? ⟨q, 1, none⟩ = some (.int .i64 (H : Int)) := fun g => by rw [← hwz, ← hq]; simp [go_sem]
  have k2 : ∀ g, (wz.ext g).cell? ⟨q, 2, none⟩ = some (.slice A2 N c2) := fun g => by rw [← hwz, ← hq]; simp [go_sem]
  obtain ⟨S, hS⟩ : ∃ S, strOf b = S := ⟨_, rfl⟩
  have k3 : ∀ g, (convert 59 9 (.slice X n c)).run Try.prog (wz.ext g) = .ok (.string S) (wz.ext g) := fun g => by
    rw [← hS]
    exact conv_bytes (BB.out.ext (EW.out.ext g))
  have hS9 : (S.toList == S.toList) = true := by simp
  have HS := Lib.hid hS
  rw [hwz, hq]
  clear hwz hq hS
  have RF := Lib.hid (fun wx (hx : Ext wz wx) => ref_wide (W : Int) (H : Int) (.slice A2 N c2) l wx (P2.out.ext (EZ.out.trans hx)) (by rw [HN.out]; omega))
  refine region_flow 16 [26, 27, 30, 31, 38] (fun t v => match t with | 26 => ∃ A c, v = .agg #[.int .i64 (W : Int), .int .i64 (H : Int), .slice A N c] | 27 => v = .bool true | 30 => ∃ A c, v = .agg #[.int .i64 (W : Int), .int .i64 (H : Int), .slice A N c] | 31 => ∃ A n c, v = .slice A n c | 38 => v = .bool true | _ => False) (fun t v w' => match t with | 26 => ∃ A c, v = .agg #[.int .i64 (W : Int), .int .i64 (H : Int), .slice A N c] ∧ Pix .i64 w' (.slice A N c) l | 30 => ∃ A c, v = .agg #[.int .i64 (W : Int), .int .i64 (H : Int), .slice A N c] ∧ Pix .i64 w' (.slice A N c) l | 31 => Bytes w' v b | _ => True) (by kernel_rfl) (by kernel_rfl) ?hq ?hu ?hR ?h
  case hq => intro t v h; split at h <;> simp_all
  case hu => intro t h; split at h <;> simp_all [undef]
  case hR => intro t v w w' h1 h2 h3; split at h1 <;> first | exact (by obtain ⟨A, c, e, h⟩ := h2; exact ⟨A, c, e, h.ext h3⟩) | exact Bytes.ext h2 h3 | trivial
  case h =>
    dsimp only [List.take, List.drop]
    repeat (first | (refine Flow.skip rfl ?_; simp only [Act.put, List.setIfInBounds_toArray, List.set_cons_zero, List.set_cons_succ]) | (refine Flow.plain rfl rfl ?_; go_big_quiet_step (fail); refine wpQuiet_nil ?_))
    refine Flow.call Try.call12 [.agg #[.int .i64 (W : Int), .int .i64 (H : Int), .slice A2 N c2]] rfl rfl rfl ?_ (fun wx hx hf => (RF.out wx hx).mono ?_) ?_
    · exact ⟨_, none, 0, rfl⟩
    · rintro e w' ⟨v', he, hO, hE⟩
      have hP := hO.pix
      obtain ⟨A', c', rfl⟩ := own_slice hO.1
      rw [HN.out] at he hP
      exact ⟨_, he, hE, ⟨_, _, rfl⟩, ⟨_, _, rfl, hP⟩⟩
    rintro v ⟨A', c', rfl⟩
    simp only [Act.put, List.setIfInBounds_toArray, List.set_cons_zero, List.set_cons_succ]
    refine Flow.call Try.call11 [.agg #[.int .i64 (W : Int), .int .i64 (H : Int), .slice A' N c']] rfl rfl rfl ?_ (fun wx hx hf => ?_) ?_
    · exact ⟨_, rfl⟩
    · obtain ⟨A9, c9, e9, h26⟩ := hf.at 26 (by kernel_rfl) ⟨A', c', rfl⟩
      have e10 : (Value.agg #[.int .i64 (W : Int), .int .i64 (H : Int), .slice A' N c']) = .agg #[.int .i64 (W : Int), .int .i64 (H : Int), .slice A9 N c9] := e9
      simp only [Value.agg.injEq, Array.mk.injEq, List.cons.injEq, Value.slice.injEq, and_true, true_and] at e10
      obtain ⟨rfl, rfl⟩ := e10
      have RI := refRightImg_any (W : Int) (H : Int) (.slice A' N c') l wx (by omega) (by omega) h26
      rw [HR.out] at RI
      exact RI.mono fun e w' ⟨h1, h2⟩ => ⟨_, h1, h2, rfl, trivial⟩
    rintro v rfl
    simp only [Act.put, List.setIfInBounds_toArray, List.set_cons_zero, List.set_cons_succ]
    repeat (first | (refine Flow.skip rfl ?_; simp only [Act.put, List.setIfInBounds_toArray, List.set_cons_zero, List.set_cons_succ]) | (refine Flow.plain rfl rfl ?_; go_big_quiet_step (fail); refine wpQuiet_nil ?_))
    refine Flow.call Try.call12 [.agg #[.int .i64 (W : Int), .int .i64 (H : Int), .slice A2 N c2]] rfl rfl rfl ?_ (fun wx hx hf => (RF.out wx hx).mono ?_) ?_
    · exact ⟨_, none, 0, rfl⟩
    · rintro e w' ⟨v', he, hO, hE⟩
      have hP := hO.pix
      obtain ⟨A', c', rfl⟩ := own_slice hO.1
      rw [HN.out] at he hP
      exact ⟨_, he, hE, ⟨_, _, rfl⟩, ⟨_, _, rfl, hP⟩⟩
    rintro v ⟨A5, c5, rfl⟩
    simp only [Act.put, List.setIfInBounds_toArray, List.set_cons_zero, List.set_cons_succ]
    refine Flow.call Try.call28 [.agg #[.int .i64 (W : Int), .int .i64 (H : Int), .slice A5 N c5]] rfl rfl rfl ?_ (fun wx hx hf => ?_) ?_
    · exact ⟨_, none, 0, 0, rfl⟩
    · obtain ⟨A9, c9, e9, h26⟩ := hf.at 30 (by kernel_rfl) ⟨A5, c5, rfl⟩
      have e10 : (Value.agg #[.int .i64 (W : Int), .int .i64 (H : Int), .slice A5 N c5]) = .agg #[.int .i64 (W : Int), .int .i64 (H : Int), .slice A9 N c9] := e9
      simp only [Value.agg.injEq, Array.mk.injEq, List.cons.injEq, Value.slice.injEq, and_true, true_and] at e10
      obtain ⟨rfl, rfl⟩ := e10
      refine (refBytes_any (W : Int) (H : Int) (.slice A5 N c5) l wx h26 (by rw [HN.out]; omega) (by omega) (by omega)).mono ?_
      rintro e w' ⟨A, n, c, he, hO, hE⟩
      rw [HBL.out] at hO
      exact ⟨_, he, hE, ⟨_, _, _, rfl⟩, hO.bytes⟩
    rintro v ⟨A6, n6, c6, rfl⟩
    simp only [Act.put, List.setIfInBounds_toArray, List.set_cons_zero, List.set_cons_succ]
    refine Flow.use (.string S) rfl rfl (fun wx hx hf => run_conv 59 9 (.tmp 31) rfl ?_) ?_
    · have h31 := hf.at 31 (by kernel_rfl) ⟨_, _, _, rfl⟩
      rw [← HS.out]; exact conv_bytes h31
    simp only [Act.put, List.setIfInBounds_toArray, List.set_cons_zero, List.set_cons_succ]
    repeat (first | (refine Flow.skip rfl ?_; simp only [Act.put, List.setIfInBounds_toArray, List.set_cons_zero, List.set_cons_succ]) | (refine Flow.plain rfl rfl ?_; go_big_quiet_step (fail); refine wpQuiet_nil ?_))
    refine Flow.call Try.call10 [] rfl rfl rfl ?_ (fun wx hx hf => (awake_any wx).mono ?_) ?_
    · exact ⟨_, rfl⟩
    · exact fun e w' ⟨h1, h2⟩ => ⟨_, h1, h2, rfl, trivial⟩
    rintro v rfl
    simp only [Act.put, List.setIfInBounds_toArray, List.set_cons_zero, List.set_cons_succ]
    repeat (first | (refine Flow.skip rfl ?_; simp only [Act.put, List.setIfInBounds_toArray, List.set_cons_zero, List.set_cons_succ]) | (refine Flow.plain rfl rfl ?_; go_big_quiet_step (fail); refine wpQuiet_nil ?_))
    refine Flow.nil fun w5 hx5 hf => ?_
    have E5 := Lib.hid (EW.out.trans hx5)
    clear hf hx5
    dsimp only [wpList, Exit.then]
    go_wp2
    go_ret
    exact ⟨rfl, E5.out⟩

set_option maxRecDepth 100000 in
set_option maxHeartbeats 12800000 in
theorem parses_none (v : Value) (b : List Nat) (w : World) (hb : Bytes w v b) (hn : b.length ≤ 2000) (hp : parseF b = none) :
    Calls Try.prog 6 #[v] w fun e w' => e = .returned (.bool true) ∧ Ext w w' := by
  have PA := Lib.hid (parse_any v b w hb (by omega))
  obtain ⟨X, c, rfl, h2, h3, _⟩ := hb
  obtain ⟨n, hbn⟩ : ∃ n, b.length = n := ⟨_, rfl⟩
  rw [hbn] at hn h2 PA
  rw [hbn]
  have hlt : ¬ (2000 : Int) < (n : Int) := by omega
  clear hbn
  go_enter Try.func6, Try.ntmps6
  go_wp2_with fail
  refine PA.out.mono ?_
  rintro e w2 ⟨hE2, hP2⟩
  rw [hp] at hP2
  simp only [noImg] at hP2
  subst hP2
  have E2 := Lib.hid hE2
  clear hE2 hp PA
  go_wp2_with fail
  refine (empty_yes none 0 _).mono ?_
  rintro e w3 ⟨rfl, g3, rfl⟩
  go_wp2_with fail
  refine (awake_any _).mono ?_
  rintro e w4 ⟨rfl, g4, rfl⟩
  go_wp2
  go_ret
  exact ⟨rfl, ((E2.out.alloc _).ext g3).ext g4⟩

theorem ImageParses_walk (v : Value) (b : List Nat) (w : World) (hb : Bytes w v b) :
    Calls Try.prog 6 #[v] w fun e w' => e = .returned (.bool true) ∧ Ext w w' := by
  by_cases hn : b.length ≤ 2000
  · cases hp : parseF b with
    | none => exact parses_none v b w hb hn hp
    | some x => exact parses_some v b x.1 x.2.1 x.2.2 w hb hn hp
  · obtain ⟨X, c, rfl, h2, h3, _⟩ := hb
    obtain ⟨n, hbn⟩ : ∃ n, b.length = n := ⟨_, rfl⟩
    rw [hbn] at hn h2
    rw [hbn]
    have hlt : (2000 : Int) < (n : Int) := by omega
    clear hbn
    go_enter Try.func6, Try.ntmps6
    go_wp2_with fail
    refine (awake_any _).mono ?_
    rintro e w4 ⟨rfl, g4, rfl⟩
    go_wp2
    go_ret
    exact ⟨rfl, ⟨g4, rfl⟩⟩

end Go.Proofs.Ytncphiphgkjflaa
