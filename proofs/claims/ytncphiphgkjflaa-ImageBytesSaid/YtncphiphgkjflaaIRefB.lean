import Derived.Test.YtncphiphgkjflaaIBytes
namespace Go.Proofs.Ytncphiphgkjflaa
open Go.RowKit Go.Shelf
set_option linter.unusedVariables false
set_option linter.unusedSimpArgs false

theorem runF_step (p : Px) (f : Nat) (l : List Px) (n i : Nat) (hi : i + n < l.length) (he : l.getD (i + n) noP = p) : runF p (f + 1) ((l.drop i).drop n) = 1 + runF p f ((l.drop i).drop (n + 1)) := by
  rw [List.drop_drop, List.drop_drop, drop_cons l (i + n) noP hi, he]
  simp only [runF, if_pos]
  rfl
theorem runF_stop (p : Px) (f : Nat) (l : List Px) (n i : Nat) (h : f = 0 ∨ l.length ≤ i + n ∨ l.getD (i + n) noP ≠ p) : runF p f ((l.drop i).drop n) = 0 := by
  rw [List.drop_drop]
  cases f with
  | zero => rfl
  | succ f =>
    rcases h with h | h | h
    · omega
    · rw [List.drop_eq_nil_of_le h]; rfl
    · by_cases hi : i + n < l.length
      · rw [drop_cons l (i + n) noP hi]
        simp only [runF]
        rw [if_neg h]
      · rw [List.drop_eq_nil_of_le (by omega)]; rfl

theorem runs_at (l : List Px) (i n : Nat) (q : Px) (hi : i < l.length) (hq : l.getD i noP = q) (hn : runF q 256 (l.drop i) = n) : (runsOf (l.drop i)).flatMap runB = runB (n, q) ++ (runsOf (l.drop (i + n))).flatMap runB := by
  have h := drop_cons l i noP hi
  rw [hq] at h
  have e : 1 + runF q 255 (l.drop (i + 1)) = n := by
    rw [← hn, h]
    simp only [runF, if_pos]
  rw [runs_bytes h, e]

set_option maxRecDepth 100000 in
set_option maxHeartbeats 12800000 in
theorem refBytes_any (W H : Int) (v : Value) (l : List Px) (w : World) (hl : Pix .i64 w v l) (hn : l.length ≤ 100000) (hW : 1 ≤ W ∧ W ≤ 256) (hH : 1 ≤ H ∧ H ≤ 256) :
    Calls Try.prog 28 #[.agg #[.int .i64 W, .int .i64 H, v]] w fun e w' => ∃ A n c, e = .returned (.slice A n c) ∧ Own w.heap.size w' A n c (bytesL W H l) ∧ Ext w w' := by
  have P := Lib.hid hl
  obtain ⟨X, c, rfl, hc1, hc2, _⟩ := hl
  obtain ⟨N, hN⟩ : ∃ N, l.length = N := ⟨_, rfl⟩
  rw [hN] at P hc1 hn
  rw [hN]
  have HN := Lib.hid hN
  clear hN
  obtain ⟨a0, ha0⟩ : ∃ n : Nat, W = (n : Int) + 1 := ⟨(W - 1).toNat, by omega⟩
  obtain ⟨a1, ha1⟩ : ∃ n : Nat, H = (n : Int) + 1 := ⟨(H - 1).toNat, by omega⟩
  have hb0 : a0 < 256 := by omega
  have hb1 : a1 < 256 := by omega
  have e0 : W - 1 = (a0 : Int) := by omega
  have e1 : H - 1 = (a1 : Int) := by omega
  have HBL : Hid (bytesL W H l = [a0, a1] ++ (runsOf l).flatMap runB) := Lib.hid (by
    unfold bytesL runsOf
    rw [e0, e1]
    rw [show ((a0 : Int) % 256).toNat = a0 by omega, show ((a1 : Int) % 256).toNat = a1 by omega])
  clear ha0 ha1
  go_enter Try.func28, Try.ntmps28
  go_wp2
  obtain ⟨wq, hwq⟩ : ∃ wq, w.alloc (.cells #[.int .i64 W, .int .i64 H, .slice X N c] 34) = wq := ⟨_, rfl⟩
  obtain ⟨q, hq⟩ : ∃ q, w.heap.size = q := ⟨_, rfl⟩
  have EQ : Hid (Ext w wq) := Lib.hid (by rw [← hwq]; exact (Ext.refl w).alloc _)
  have i2 : wq.cell? ⟨q, 2, none⟩ = some (.slice X N c) := by rw [← hwq, ← hq]; simp [go_sem]
  have hz : wq.heap.size = q + 1 := by rw [← hwq, ← hq]; simp
  have FC : Hid (∀ wr, Ext wq wr → q < wr.heap.size ∧ wr.cell? ⟨q, 2, none⟩ = some (.slice X N c) ∧ Pix .i64 wr (.slice X N c) l) := Lib.hid (fun wr hk =>
    ⟨by have := hk.size; omega, (hk.cell (by omega)).trans i2, P.out.ext (EQ.out.trans hk)⟩)
  have O0 := Lib.hid (Own.fresh (Ext.refl wq) [a0, a1] (fun i => by
    match i with
    | 0 => exact hb0
    | 1 => exact hb1
    | i + 2 => simp) (by simp))
  have E0 := Lib.hid ((Ext.refl wq).alloc (.cells #[.int .u8 (a0 : Int), .int .u8 (a1 : Int)] 5))
  have HQ := Lib.hid (And.intro hq hz)
  rw [show ([a0, a1].map byteV).toArray = #[.int .u8 (a0 : Int), .int .u8 (a1 : Int)] from rfl, hz] at O0
  rw [hwq, hq]
  clear hwq hq i2 hz
  obtain ⟨ws, hws⟩ : ∃ ws, wq.alloc (.cells #[.int .u8 (a0 : Int), .int .u8 (a1 : Int)] 5) = ws := ⟨_, rfl⟩
  rw [hws] at O0 E0
  rw [hws]
  clear hws
  go_loopw [3, 4] (fun t3 t4 wr => ∃ (i n cc : Nat) (A : Option Addr) (acc : List Nat), i ≤ N ∧ t4 = .int .i64 (i : Int) ∧ t3 = .slice A n cc ∧ Hid (Ext wq wr ∧ Own (q + 1) wr A n cc acc ∧ acc ++ (runsOf (l.drop i)).flatMap runB = bytesL W H l)) (fun _ t4 _ => N - (intOf t4).toNat)
  case atStart => exact ⟨0, 2, 2, _, [a0, a1], by omega, rfl, rfl, Lib.hid ⟨E0.out, O0.out, by rw [HBL.out]; simp⟩⟩
  case round =>
    obtain ⟨i, n, cc, A, acc, hi, rfl, rfl, ST⟩ := hrel
    obtain ⟨z0, i2, hP⟩ := FC.out _ ST.out.1
    by_cases hlt : i < N
    · have hlt' : (i : Int) < (N : Int) := by omega
      obtain ⟨b, off, r, g, u, a, rfl, hbs, hp, hpb, c0, c1, c2, c3⟩ := hP.at hlt
      have HPB := Lib.hid hpb
      have HP := Lib.hid hp
      clear hpb hp hP
      go_wp2
      have HZ0 := Lib.hid z0
      have HBS := Lib.hid hbs
      have HC := Lib.hid (And.intro c0 (And.intro c1 (And.intro c2 c3)))
      obtain ⟨wo, rfl⟩ : ∃ wo : World, wo = wr := ⟨_, rfl⟩
      clear z0 i2 c0 c1 c2 c3
      go_loopw [5] (fun t5 wx => ∃ k : Nat, k ≤ 256 ∧ i + k ≤ N ∧ t5 = .int .i64 (k : Int) ∧ Hid (runF (r, g, u, a) 256 (l.drop i) = k + runF (r, g, u, a) (256 - k) ((l.drop i).drop k) ∧ Ext wo wx)) (fun t5 _ => N - (intOf t5).toNat)
      case atStart => exact ⟨0, by omega, by omega, rfl, Lib.hid ⟨by simp, Ext.refl _⟩⟩
      case round =>
        obtain ⟨k, hk1, hk2, rfl, RT⟩ := hrel
        have hE := RT.out.2
        obtain ⟨z0, i2, hP⟩ := FC.out _ (ST.out.1.trans hE)
        have hbx : b < wr.heap.size := Nat.lt_of_lt_of_le HBS.out hE.size
        have hyy : ∀ g, Ext wr (wr.ext g) := fun g => ⟨g, rfl⟩
        have i2' : ∀ g', (wr.ext g').cell? ⟨q, 2, none⟩ = some (.slice (some ⟨b, off, none⟩) N c) := fun g' => ((hyy g').cell z0).trans i2
        have u0 : ∀ g', (wr.ext g').cell? ⟨b, off + i * 4, none⟩ = some (.int .i64 (r : Int)) := fun g' => ((hyy g').cell hbx).trans ((hE.cell HBS.out).trans HC.out.1)
        have u1 : ∀ g', (wr.ext g').cell? ⟨b, off + (i * 4 + 1), none⟩ = some (.int .i64 (g : Int)) := fun g' => ((hyy g').cell hbx).trans ((hE.cell HBS.out).trans HC.out.2.1)
        have u2 : ∀ g', (wr.ext g').cell? ⟨b, off + (i * 4 + 2), none⟩ = some (.int .i64 (u : Int)) := fun g' => ((hyy g').cell hbx).trans ((hE.cell HBS.out).trans HC.out.2.2.1)
        have u3 : ∀ g', (wr.ext g').cell? ⟨b, off + (i * 4 + 3), none⟩ = some (.int .i64 (a : Int)) := fun g' => ((hyy g').cell hbx).trans ((hE.cell HBS.out).trans HC.out.2.2.2)
        have done : ¬ k < 256 ∨ (k < 256 ∧ ¬ i + k < N) ∨ (k < 256 ∧ i + k < N) := by omega
        rcases done with hk3 | ⟨hk3, hk4⟩ | ⟨hk3, hk4⟩
        · have hk3' : decide ((k : Int) < 256) = false := by simp; omega
          have HK : Hid (runF (r, g, u, a) 256 (l.drop i) = k) := Lib.hid (by
            have h := RT.out.1
            rw [runF_stop _ _ l k i (by have := HN.out; omega)] at h
            exact h)
          have E5 := Lib.hid hE
          clear hE hP
          go_wp2
          refine region_flow 26 [] (fun t v => False) (fun t v w' => True) (by kernel_rfl) (by kernel_rfl) (fun t v h => h.elim) (fun t h => h) (fun _ _ _ _ h => h.elim) ?_
          dsimp only [List.take, List.drop]
          repeat (first | (refine Flow.skip rfl ?_; simp only [Act.put, List.setIfInBounds_toArray, List.set_cons_zero, List.set_cons_succ]) | (refine Flow.plain rfl rfl ?_; go_big_quiet_step (fail); refine wpQuiet_nil ?_))
          refine Flow.nil fun w5 hx5 hf => ?_
          have E6 := Lib.hid (E5.out.trans hx5)
          clear hf hx5 i2' u0 u1 u2 u3 z0 i2 hbx hyy
          dsimp only [wpList, Exit.then]
          obtain ⟨z0, i2, _⟩ := FC.out _ (ST.out.1.trans E6.out)
          have c0 := (E6.out.cell HBS.out).trans HC.out.1
          have c1 := (E6.out.cell HBS.out).trans HC.out.2.1
          have c2 := (E6.out.cell HBS.out).trans HC.out.2.2.1
          have c3 := (E6.out.cell HBS.out).trans HC.out.2.2.2
          have q1 := HPB.out
          have hr9 : r ≤ 255 := q1.1
          have hg9 : g ≤ 255 := q1.2.1
          have hu9 : u ≤ 255 := q1.2.2.1
          have ha9 : a ≤ 255 := q1.2.2.2
          have hk0 : 1 ≤ k := by
            have h := HK.out
            have h9 := drop_cons l i noP (by have := HN.out; omega)
            rw [HP.out] at h9
            rw [h9] at h
            simp only [runF, if_pos] at h
            omega
          obtain ⟨k1, hkk⟩ : ∃ j, k = j + 1 := ⟨k - 1, by omega⟩
          have hk9 : (k : Int) - 1 = (k1 : Int) := by omega
          have hk8 : k1 < 256 := by omega
          have HKK := Lib.hid hkk
          have hx5 : Ext w5 ((w5.alloc (.cells #[.int .i64 (r : Int), .int .i64 (g : Int), .int .i64 (u : Int), .int .i64 (a : Int)] 50)).alloc (.cells #[.int .u8 (k1 : Int), .int .u8 (r : Int), .int .u8 (g : Int), .int .u8 (u : Int), .int .u8 (a : Int)] 5)) := ((Ext.refl w5).alloc _).alloc _
          have HX5 := Lib.hid hx5
          have OW := Lib.hid (ST.out.2.1.ext (E6.out.trans hx5))
          have YB := Lib.hid ((Own.fresh (Ext.refl (w5.alloc (.cells #[.int .i64 (r : Int), .int .i64 (g : Int), .int .i64 (u : Int), .int .i64 (a : Int)] 50))) [k1, r, g, u, a] (fun i => by
            match i with
            | 0 => exact hk8
            | 1 => show r < 256; omega
            | 2 => show g < 256; omega
            | 3 => show u < 256; omega
            | 4 => show a < 256; omega
            | i + 5 => simp) (by simp)).bytes)
          rw [show ([k1, r, g, u, a].map byteV).toArray = #[.int .u8 (k1 : Int), .int .u8 (r : Int), .int .u8 (g : Int), .int .u8 (u : Int), .int .u8 (a : Int)] from rfl, World.size_alloc] at YB
          have LE : Hid (acc.length + [k1, r, g, u, a].length ≤ 70368744177664) := Lib.hid (by
            have h := congrArg List.length ST.out.2.2
            rw [HBL.out] at h
            simp only [List.length_append, List.length_cons, List.length_nil] at h ⊢
            have h1 := runsOf_len l
            have h2 := HN.out
            omega)
          have SZ : Hid (q + 1 ≤ ((w5.alloc (.cells #[.int .i64 (r : Int), .int .i64 (g : Int), .int .i64 (u : Int), .int .i64 (a : Int)] 50)).alloc (.cells #[.int .u8 (k1 : Int), .int .u8 (r : Int), .int .u8 (g : Int), .int .u8 (u : Int), .int .u8 (a : Int)] 5)).heap.size) := Lib.hid (by have := hx5.size; omega)
          clear hkk q1 hx5 hk0
          go_wp2_with (at_builtin; refine wpList_app rfl (.tmp 54) (.tmp 70) rfl rfl rfl OW.out YB.out LE.out SZ.out ?_)
          intro A8 n8 c8 w8 hO8 hgr8
          have O8 := Lib.hid hO8
          have E8 := Lib.hid (((ST.out.1.trans E6.out).trans HX5.out).grown hgr8 (fun x hx => by have := OW.out.row x hx; have := HQ.out.2; omega))
          clear hO8 hgr8
          go_wp2
          go_roundw
          case rel => exact ⟨i + k, n8, c8, A8, _, by omega, by go_num, rfl, Lib.hid ⟨E8.out, O8.out, by
            rw [← ST.out.2.2, runs_at l i k (r, g, u, a) (by have := HN.out; omega) HP.out HK.out, HKK.out]
            simp [runB, List.append_assoc]⟩⟩
          case measure => simp [intOf]; omega
        · have hk3' : (k : Int) < 256 := by omega
          have hk4' : decide ((i : Int) + (k : Int) < (N : Int)) = false := by simp; omega
          have HK : Hid (runF (r, g, u, a) 256 (l.drop i) = k) := Lib.hid (by
            have h := RT.out.1
            rw [runF_stop _ _ l k i (by have := HN.out; omega)] at h
            exact h)
          have E5 := Lib.hid hE
          clear hE hP
          go_wp2
          refine region_flow 26 [] (fun t v => False) (fun t v w' => True) (by kernel_rfl) (by kernel_rfl) (fun t v h => h.elim) (fun t h => h) (fun _ _ _ _ h => h.elim) ?_
          dsimp only [List.take, List.drop]
          repeat (first | (refine Flow.skip rfl ?_; simp only [Act.put, List.setIfInBounds_toArray, List.set_cons_zero, List.set_cons_succ]) | (refine Flow.plain rfl rfl ?_; go_big_quiet_step (fail); refine wpQuiet_nil ?_))
          refine Flow.nil fun w5 hx5 hf => ?_
          have E6 := Lib.hid (E5.out.trans hx5)
          clear hf hx5 i2' u0 u1 u2 u3 z0 i2 hbx hyy
          dsimp only [wpList, Exit.then]
          obtain ⟨z0, i2, _⟩ := FC.out _ (ST.out.1.trans E6.out)
          have c0 := (E6.out.cell HBS.out).trans HC.out.1
          have c1 := (E6.out.cell HBS.out).trans HC.out.2.1
          have c2 := (E6.out.cell HBS.out).trans HC.out.2.2.1
          have c3 := (E6.out.cell HBS.out).trans HC.out.2.2.2
          have q1 := HPB.out
          have hr9 : r ≤ 255 := q1.1
          have hg9 : g ≤ 255 := q1.2.1
          have hu9 : u ≤ 255 := q1.2.2.1
          have ha9 : a ≤ 255 := q1.2.2.2
          have hk0 : 1 ≤ k := by
            have h := HK.out
            have h9 := drop_cons l i noP (by have := HN.out; omega)
            rw [HP.out] at h9
            rw [h9] at h
            simp only [runF, if_pos] at h
            omega
          obtain ⟨k1, hkk⟩ : ∃ j, k = j + 1 := ⟨k - 1, by omega⟩
          have hk9 : (k : Int) - 1 = (k1 : Int) := by omega
          have hk8 : k1 < 256 := by omega
          have HKK := Lib.hid hkk
          have hx5 : Ext w5 ((w5.alloc (.cells #[.int .i64 (r : Int), .int .i64 (g : Int), .int .i64 (u : Int), .int .i64 (a : Int)] 50)).alloc (.cells #[.int .u8 (k1 : Int), .int .u8 (r : Int), .int .u8 (g : Int), .int .u8 (u : Int), .int .u8 (a : Int)] 5)) := ((Ext.refl w5).alloc _).alloc _
          have HX5 := Lib.hid hx5
          have OW := Lib.hid (ST.out.2.1.ext (E6.out.trans hx5))
          have YB := Lib.hid ((Own.fresh (Ext.refl (w5.alloc (.cells #[.int .i64 (r : Int), .int .i64 (g : Int), .int .i64 (u : Int), .int .i64 (a : Int)] 50))) [k1, r, g, u, a] (fun i => by
            match i with
            | 0 => exact hk8
            | 1 => show r < 256; omega
            | 2 => show g < 256; omega
            | 3 => show u < 256; omega
            | 4 => show a < 256; omega
            | i + 5 => simp) (by simp)).bytes)
          rw [show ([k1, r, g, u, a].map byteV).toArray = #[.int .u8 (k1 : Int), .int .u8 (r : Int), .int .u8 (g : Int), .int .u8 (u : Int), .int .u8 (a : Int)] from rfl, World.size_alloc] at YB
          have LE : Hid (acc.length + [k1, r, g, u, a].length ≤ 70368744177664) := Lib.hid (by
            have h := congrArg List.length ST.out.2.2
            rw [HBL.out] at h
            simp only [List.length_append, List.length_cons, List.length_nil] at h ⊢
            have h1 := runsOf_len l
            have h2 := HN.out
            omega)
          have SZ : Hid (q + 1 ≤ ((w5.alloc (.cells #[.int .i64 (r : Int), .int .i64 (g : Int), .int .i64 (u : Int), .int .i64 (a : Int)] 50)).alloc (.cells #[.int .u8 (k1 : Int), .int .u8 (r : Int), .int .u8 (g : Int), .int .u8 (u : Int), .int .u8 (a : Int)] 5)).heap.size) := Lib.hid (by have := hx5.size; omega)
          clear hkk q1 hx5 hk0
          go_wp2_with (at_builtin; refine wpList_app rfl (.tmp 54) (.tmp 70) rfl rfl rfl OW.out YB.out LE.out SZ.out ?_)
          intro A8 n8 c8 w8 hO8 hgr8
          have O8 := Lib.hid hO8
          have E8 := Lib.hid (((ST.out.1.trans E6.out).trans HX5.out).grown hgr8 (fun x hx => by have := OW.out.row x hx; have := HQ.out.2; omega))
          clear hO8 hgr8
          go_wp2
          go_roundw
          case rel => exact ⟨i + k, n8, c8, A8, _, by omega, by go_num, rfl, Lib.hid ⟨E8.out, O8.out, by
            rw [← ST.out.2.2, runs_at l i k (r, g, u, a) (by have := HN.out; omega) HP.out HK.out, HKK.out]
            simp [runB, List.append_assoc]⟩⟩
          case measure => simp [intOf]; omega
        · have hk3' : (k : Int) < 256 := by omega
          have hk4' : (i : Int) + (k : Int) < (N : Int) := by omega
          obtain ⟨ix, hix⟩ : ∃ t, i + k = t := ⟨_, rfl⟩
          have hix' : (i : Int) + (k : Int) = (ix : Int) := by omega
          obtain ⟨b', off', r', g', u', a', hsl, hbs', hp', hpb', d0, d1, d2, d3⟩ := hP.at (show ix < N by omega)
          simp only [Option.some.injEq, Addr.mk.injEq, and_true] at hsl
          obtain ⟨rfl, rfl⟩ := hsl
          have hj3 : (ix : Int) < (N : Int) := by omega
          have HIX := Lib.hid hix
          have HP' := Lib.hid hp'
          replace d0 := fun g' => ((hyy g').cell hbs').trans d0
          replace d1 := fun g' => ((hyy g').cell hbs').trans d1
          replace d2 := fun g' => ((hyy g').cell hbs').trans d2
          replace d3 := fun g' => ((hyy g').cell hbs').trans d3
          by_cases heq : (r', g', u', a') = (r, g, u, a)
          · have HR2 : Hid (runF (r, g, u, a) 256 (l.drop i) = (k + 1) + runF (r, g, u, a) (256 - (k + 1)) ((l.drop i).drop (k + 1))) := Lib.hid (by
              have h := RT.out.1
              rw [show 256 - k = (256 - (k + 1)) + 1 by omega, runF_step _ _ l k i (by have := HN.out; omega) (by rw [HIX.out, HP'.out, heq])] at h
              omega)
            simp only [Prod.mk.injEq] at heq
            obtain ⟨rfl, rfl, rfl, rfl⟩ := heq
            have E5 := Lib.hid hE
            clear hE hP hix hp' hpb'
            go_wp2
            refine region_flow 26 [] (fun t v => False) (fun t v w' => True) (by kernel_rfl) (by kernel_rfl) (fun t v h => h.elim) (fun t h => h) (fun _ _ _ _ h => h.elim) ?_
            dsimp only [List.take, List.drop]
            repeat (first | (refine Flow.skip rfl ?_; simp only [Act.put, List.setIfInBounds_toArray, List.set_cons_zero, List.set_cons_succ]) | (refine Flow.plain rfl rfl ?_; go_big_quiet_step (fail); refine wpQuiet_nil ?_))
            refine Flow.nil fun w5 hx5 hf => ?_
            have E6 := Lib.hid (E5.out.trans hx5)
            clear hf hx5 i2' u0 u1 u2 u3 z0 i2 hbx hyy d0 d1 d2 d3
            dsimp only [wpList, Exit.then]
            go_wp2
            go_roundw
            case rel => exact ⟨k + 1, by omega, by omega, by go_num, Lib.hid ⟨HR2.out, E6.out⟩⟩
            case measure => simp [intOf]; omega
          · have HK : Hid (runF (r, g, u, a) 256 (l.drop i) = k) := Lib.hid (by
              have h := RT.out.1
              rw [runF_stop _ _ l k i (.inr (.inr (by rw [HIX.out, HP'.out]; exact heq)))] at h
              exact h)
            have hne : ((r' : Int) == (r : Int) && ((g' : Int) == (g : Int) && ((u' : Int) == (u : Int) && (a' : Int) == (a : Int)))) = false := by
              have h9 : ¬ (r' = r ∧ g' = g ∧ u' = u ∧ a' = a) := by simpa only [Prod.mk.injEq] using heq
              simp only [Bool.and_eq_false_iff, beq_eq_false_iff_ne, ne_eq, Int.natCast_inj]
              omega
            have E5 := Lib.hid hE
            clear hE hP hix hp' hpb' heq
            go_wp2
            refine region_flow 26 [] (fun t v => False) (fun t v w' => True) (by kernel_rfl) (by kernel_rfl) (fun t v h => h.elim) (fun t h => h) (fun _ _ _ _ h => h.elim) ?_
            dsimp only [List.take, List.drop]
            repeat (first | (refine Flow.skip rfl ?_; simp only [Act.put, List.setIfInBounds_toArray, List.set_cons_zero, List.set_cons_succ]) | (refine Flow.plain rfl rfl ?_; go_big_quiet_step (fail); refine wpQuiet_nil ?_))
            refine Flow.nil fun w5 hx5 hf => ?_
            have E6 := Lib.hid (E5.out.trans hx5)
            clear hf hx5 d0 d1 d2 d3 i2' u0 u1 u2 u3 z0 i2 hbx hyy
            dsimp only [wpList, Exit.then]
            obtain ⟨z0, i2, _⟩ := FC.out _ (ST.out.1.trans E6.out)
            have c0 := (E6.out.cell HBS.out).trans HC.out.1
            have c1 := (E6.out.cell HBS.out).trans HC.out.2.1
            have c2 := (E6.out.cell HBS.out).trans HC.out.2.2.1
            have c3 := (E6.out.cell HBS.out).trans HC.out.2.2.2
            have q1 := HPB.out
            have hr9 : r ≤ 255 := q1.1
            have hg9 : g ≤ 255 := q1.2.1
            have hu9 : u ≤ 255 := q1.2.2.1
            have ha9 : a ≤ 255 := q1.2.2.2
            have hk0 : 1 ≤ k := by
              have h := HK.out
              have h9 := drop_cons l i noP (by have := HN.out; omega)
              rw [HP.out] at h9
              rw [h9] at h
              simp only [runF, if_pos] at h
              omega
            obtain ⟨k1, hkk⟩ : ∃ j, k = j + 1 := ⟨k - 1, by omega⟩
            have hk9 : (k : Int) - 1 = (k1 : Int) := by omega
            have hk8 : k1 < 256 := by omega
            have HKK := Lib.hid hkk
            have hx5 : Ext w5 ((w5.alloc (.cells #[.int .i64 (r : Int), .int .i64 (g : Int), .int .i64 (u : Int), .int .i64 (a : Int)] 50)).alloc (.cells #[.int .u8 (k1 : Int), .int .u8 (r : Int), .int .u8 (g : Int), .int .u8 (u : Int), .int .u8 (a : Int)] 5)) := ((Ext.refl w5).alloc _).alloc _
            have HX5 := Lib.hid hx5
            have OW := Lib.hid (ST.out.2.1.ext (E6.out.trans hx5))
            have YB := Lib.hid ((Own.fresh (Ext.refl (w5.alloc (.cells #[.int .i64 (r : Int), .int .i64 (g : Int), .int .i64 (u : Int), .int .i64 (a : Int)] 50))) [k1, r, g, u, a] (fun i => by
              match i with
              | 0 => exact hk8
              | 1 => show r < 256; omega
              | 2 => show g < 256; omega
              | 3 => show u < 256; omega
              | 4 => show a < 256; omega
              | i + 5 => simp) (by simp)).bytes)
            rw [show ([k1, r, g, u, a].map byteV).toArray = #[.int .u8 (k1 : Int), .int .u8 (r : Int), .int .u8 (g : Int), .int .u8 (u : Int), .int .u8 (a : Int)] from rfl, World.size_alloc] at YB
            have LE : Hid (acc.length + [k1, r, g, u, a].length ≤ 70368744177664) := Lib.hid (by
              have h := congrArg List.length ST.out.2.2
              rw [HBL.out] at h
              simp only [List.length_append, List.length_cons, List.length_nil] at h ⊢
              have h1 := runsOf_len l
              have h2 := HN.out
              omega)
            have SZ : Hid (q + 1 ≤ ((w5.alloc (.cells #[.int .i64 (r : Int), .int .i64 (g : Int), .int .i64 (u : Int), .int .i64 (a : Int)] 50)).alloc (.cells #[.int .u8 (k1 : Int), .int .u8 (r : Int), .int .u8 (g : Int), .int .u8 (u : Int), .int .u8 (a : Int)] 5)).heap.size) := Lib.hid (by have := hx5.size; omega)
            clear hkk q1 hx5 hk0
            go_wp2_with (at_builtin; refine wpList_app rfl (.tmp 54) (.tmp 70) rfl rfl rfl OW.out YB.out LE.out SZ.out ?_)
            intro A8 n8 c8 w8 hO8 hgr8
            have O8 := Lib.hid hO8
            have E8 := Lib.hid (((ST.out.1.trans E6.out).trans HX5.out).grown hgr8 (fun x hx => by have := OW.out.row x hx; have := HQ.out.2; omega))
            clear hO8 hgr8
            go_wp2
            go_roundw
            case rel => exact ⟨i + k, n8, c8, A8, _, by omega, by go_num, rfl, Lib.hid ⟨E8.out, O8.out, by
              rw [← ST.out.2.2, runs_at l i k (r, g, u, a) (by have := HN.out; omega) HP.out HK.out, HKK.out]
              simp [runB, List.append_assoc]⟩⟩
            case measure => simp [intOf]; omega
    · have hlt' : ¬ (i : Int) < (N : Int) := by omega
      obtain rfl : i = N := by omega
      have HA : Hid (acc = bytesL W H l) := Lib.hid (by
        have h := ST.out.2.2
        rw [List.drop_eq_nil_of_le (by have := HN.out; omega), runsOf_nil] at h
        simpa using h)
      clear hP
      go_wp2
      go_ret
      exact ⟨A, n, cc, rfl, by rw [← HA.out]; exact ST.out.2.1.mono (by have := HQ.out.1; omega), EQ.out.trans ST.out.1⟩

end Go.Proofs.Ytncphiphgkjflaa
