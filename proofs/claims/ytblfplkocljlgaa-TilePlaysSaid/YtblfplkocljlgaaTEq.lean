import Derived.Test.YtblfplkocljlgaaTDrop
namespace Go.Proofs.Ytblfplkocljlgaa
open Go.RowKit
set_option linter.unusedVariables false
set_option linter.unusedSimpArgs false

theorem take_step {l1 l2 : List Px} {i : Nat} (h : l1.take i = l2.take i) (h1 : i < l1.length) (h2 : i < l2.length) (he : l1.getD i noP = l2.getD i noP) : l1.take (i + 1) = l2.take (i + 1) := by
  rw [take_succ_getD l1 i noP h1, take_succ_getD l2 i noP h2, h, he]

set_option maxRecDepth 100000 in
set_option maxHeartbeats 3200000 in
theorem sequal_any (v1 v2 : Value) (l1 l2 : List Px) (w : World) (hl1 : Pix .u8 w v1 l1) (hl2 : Pix .u8 w v2 l2) :
    Calls Try.prog 50 #[v1, v2] w fun e w' => e = .returned (.bool (decide (l1 = l2))) ∧ Ext w w' := by
  have P1 := Lib.hid hl1
  have P2 := Lib.hid hl2
  obtain ⟨X1, c1, rfl, hc1, hc1', _⟩ := hl1
  obtain ⟨X2, c2, rfl, hc2, hc2', _⟩ := hl2
  obtain ⟨N1, hN1⟩ : ∃ N, l1.length = N := ⟨_, rfl⟩
  obtain ⟨N2, hN2⟩ : ∃ N, l2.length = N := ⟨_, rfl⟩
  rw [hN1] at P1 hc1
  rw [hN2] at P2 hc2
  rw [hN1, hN2]
  have HN1 := Lib.hid hN1
  have HN2 := Lib.hid hN2
  clear hN1 hN2
  obtain ⟨R, hR⟩ : ∃ R, decide (l1 = l2) = R := ⟨_, rfl⟩
  rw [hR]
  have HR := Lib.hid hR
  clear hR
  by_cases hnn : N1 = N2
  · subst hnn
    go_enter Try.func50, Try.ntmps50
    go_wp2
    go_loopw [13] (fun t13 wr => ∃ i : Nat, i ≤ N1 ∧ t13 = .int .i64 (i : Int) ∧ Hid (Ext w wr ∧ l1.take i = l2.take i)) (fun t13 _ => N1 - (intOf t13).toNat)
    case atStart => exact ⟨0, by omega, rfl, Lib.hid ⟨Ext.refl _, rfl⟩⟩
    case round =>
      obtain ⟨i, hi, rfl, ST⟩ := hrel
      by_cases hlt : i < N1
      · have hlt' : (i : Int) < (N1 : Int) := by omega
        obtain ⟨b, off, r, g, u, a, rfl, hbs, hp, hpb, c0, c1, c2, c3⟩ := (P1.out.ext ST.out.1).at hlt
        obtain ⟨b', off', r', g', u', a', rfl, hbs', hp', hpb', d0, d1, d2, d3⟩ := (P2.out.ext ST.out.1).at hlt
        have HP := Lib.hid (And.intro hp hp')
        clear hp hp' hpb hpb'
        have hx : ∀ g, Ext wr (wr.ext g) := fun g => ⟨g, rfl⟩
        replace c0 := fun g => ((hx g).cell hbs).trans c0
        replace c1 := fun g => ((hx g).cell hbs).trans c1
        replace c2 := fun g => ((hx g).cell hbs).trans c2
        replace c3 := fun g => ((hx g).cell hbs).trans c3
        replace d0 := fun g => ((hx g).cell hbs').trans d0
        replace d1 := fun g => ((hx g).cell hbs').trans d1
        replace d2 := fun g => ((hx g).cell hbs').trans d2
        replace d3 := fun g => ((hx g).cell hbs').trans d3
        clear hx
        by_cases heq : (r, g, u, a) = (r', g', u', a')
        · have HD : Hid (l1.take (i + 1) = l2.take (i + 1)) := Lib.hid (take_step ST.out.2 (by have := HN1.out; omega) (by have := HN2.out; omega) (by rw [HP.out.1, HP.out.2]; exact heq))
          simp only [Prod.mk.injEq] at heq
          obtain ⟨rfl, rfl, rfl, rfl⟩ := heq
          go_wp2
          refine region_flow 9 [] (fun t v => False) (fun t v w' => True) (by kernel_rfl) (by kernel_rfl) (fun t v h => h.elim) (fun t h => h) (fun _ _ _ _ h => h.elim) ?_
          dsimp only [List.take, List.drop]
          repeat (refine Flow.plain rfl rfl ?_; go_big_quiet_step (fail); refine wpQuiet_nil ?_)
          refine Flow.nil fun w7 hx7 hf => ?_
          have E7 := Lib.hid (ST.out.1.trans hx7)
          clear hf hx7 c0 c1 c2 c3 d0 d1 d2 d3
          dsimp only [wpList, Exit.then]
          go_wp2
          go_roundw
          case rel => exact ⟨i + 1, by omega, by go_num, Lib.hid ⟨E7.out, HD.out⟩⟩
          case measure => simp [intOf]; omega
        · have hcmp : ((r : Int) == (r' : Int) && ((g : Int) == (g' : Int) && ((u : Int) == (u' : Int) && (a : Int) == (a' : Int)))) = false := by
            simp only [Prod.mk.injEq] at heq
            simp
            omega
          have hneq : ∀ wx, (binOp .neq 68 (.agg #[.int .u8 (r : Int), .int .u8 (g : Int), .int .u8 (u : Int), .int .u8 (a : Int)]) (.agg #[.int .u8 (r' : Int), .int .u8 (g' : Int), .int .u8 (u' : Int), .int .u8 (a' : Int)])).run Try.prog wx = .ok (.bool true) wx := fun wx => by
            simp [go_sem, hcmp]
          obtain rfl : R = false := by
            rw [← HR.out]
            apply decide_eq_false
            intro e
            apply heq
            rw [← HP.out.1, ← HP.out.2, e]
          clear heq hcmp
          go_wp2
          refine region_flow 9 [] (fun t v => False) (fun t v w' => True) (by kernel_rfl) (by kernel_rfl) (fun t v h => h.elim) (fun t h => h) (fun _ _ _ _ h => h.elim) ?_
          dsimp only [List.take, List.drop]
          repeat (refine Flow.plain rfl rfl ?_; go_big_quiet_step (fail); refine wpQuiet_nil ?_)
          refine Flow.nil fun w7 hx7 hf => ?_
          have E7 := Lib.hid (ST.out.1.trans hx7)
          clear hf hx7 c0 c1 c2 c3 d0 d1 d2 d3 hneq
          dsimp only [wpList, Exit.then]
          go_wp2
          go_ret
          exact ⟨rfl, E7.out⟩
      · have hlt' : ¬ (i : Int) < (N1 : Int) := by omega
        obtain rfl : R = true := by
          rw [← HR.out]
          apply decide_eq_true
          have := ST.out.2
          rwa [List.take_of_length_le (by have := HN1.out; omega), List.take_of_length_le (by have := HN2.out; omega)] at this
        go_wp2
        go_ret
        exact ⟨rfl, ST.out.1⟩
  · have hnn' : ¬ (N1 : Int) = (N2 : Int) := by omega
    obtain rfl : R = false := by
      rw [← HR.out]
      apply decide_eq_false
      intro e
      apply hnn
      rw [← HN1.out, ← HN2.out, e]
    go_enter Try.func50, Try.ntmps50
    go_wp2
    go_ret
    exact ⟨rfl, Ext.refl _⟩

def eqI (W H W' H' : Int) (l1 l2 : List Px) : Bool := decide (W = W') && (decide (H = H') && decide (l1 = l2))

set_option maxHeartbeats 1600000 in
theorem equal_any (W H W' H' : Int) (v1 v2 : Value) (l1 l2 : List Px) (w : World) (hl1 : Pix .u8 w v1 l1) (hl2 : Pix .u8 w v2 l2) :
    Calls Try.prog 41 #[.agg #[.int .i64 W, .int .i64 H, v1], .agg #[.int .i64 W', .int .i64 H', v2]] w fun e w' => e = .returned (.bool (eqI W H W' H' l1 l2)) ∧ Ext w w' := by
  have SE := Lib.hid (fun wx (hx : Ext w wx) => sequal_any v1 v2 l1 l2 wx (hl1.ext hx) (hl2.ext hx))
  obtain ⟨X1, c1, rfl, _⟩ := hl1
  obtain ⟨X2, c2, rfl, _⟩ := hl2
  by_cases h1 : W = W'
  · subst h1
    by_cases h2 : H = H'
    · subst h2
      go_enter Try.func41, Try.ntmps41
      go_wp2_with fail
      refine (SE.out _ (((Ext.refl w).alloc _).alloc _)).mono ?_
      rintro e w1 ⟨rfl, g1, rfl⟩
      go_wp2
      go_ret
      exact ⟨ret_bool (by simp [eqI]), (((Ext.refl w).alloc _).alloc _).ext g1⟩
    · go_enter Try.func41, Try.ntmps41
      go_wp2
      go_ret
      exact ⟨ret_bool (by simp [eqI, h2]), (((Ext.refl w).alloc _).alloc _)⟩
  · go_enter Try.func41, Try.ntmps41
    go_wp2
    go_ret
    exact ⟨ret_bool (by simp [eqI, h1]), (((Ext.refl w).alloc _).alloc _)⟩

end Go.Proofs.Ytblfplkocljlgaa
