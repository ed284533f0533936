import Derived.Test.YtblfplkocljlgaaTKeysW
namespace Go.Proofs.Ytblfplkocljlgaa
open Go.RowKit Go.ChangeMaps
set_option linter.unusedVariables false
set_option linter.unusedSimpArgs false

structure KSt (w wr : World) (B q : Nat) (x0 y0 x1 y1 : Int) (v : Value) (L : List KK) (l : List (KK × Value)) : Prop where
  ext : Ext w wr
  mp : MapAt wr B l
  box : wr.heap[q]? = some (.cells #[.int .i64 x0, .int .i64 y0, .int .i64 x1, .int .i64 y1] 25 (0, 0))
  ks : OwnK 23 0 wr v L
  kb : ∀ k, v.ownBlock = some k → k < B
  qB : q < B
  wB : w.heap.size ≤ B

theorem KSt.grow {w wr wr' : World} {B q : Nat} {x0 y0 x1 y1 : Int} {v : Value} {L : List KK} {l : List (KK × Value)} (h : KSt w wr B q x0 y0 x1 y1 v L l) (he : Ext wr wr') : KSt w wr' B q x0 y0 x1 y1 v L l :=
  ⟨h.ext.trans he, h.mp.ext he, he.heapAt h.box, h.ks.ext he, h.kb, h.qB, h.wB⟩
theorem KSt.put {w wr wr' : World} {B q : Nat} {x0 y0 x1 y1 : Int} {v : Value} {L : List KK} {l l' : List (KK × Value)} (h : KSt w wr B q x0 y0 x1 y1 v L l) (hm : MapAt wr' B l') (hk : Keep wr wr' (fun b => b = B)) : KSt w wr' B q x0 y0 x1 y1 v L l' :=
  ⟨Keep.toExt h.ext hk (fun k e => by rw [e]; exact h.wB), hm, by rw [hk.block q (Array.getElem?_eq_some_iff.1 h.box).1 (by have := h.qB; omega)]; exact h.box, h.ks.keep hk (fun k e1 e2 => by have := h.kb k e1; omega), h.kb, h.qB, h.wB⟩
theorem KSt.cell {w wr : World} {B q : Nat} {x0 y0 x1 y1 : Int} {v : Value} {L : List KK} {l : List (KK × Value)} (h : KSt w wr B q x0 y0 x1 y1 v L l) :
    wr.cell? ⟨q, 0, none⟩ = some (.int .i64 x0) ∧ wr.cell? ⟨q, 1, none⟩ = some (.int .i64 y0) ∧ wr.cell? ⟨q, 2, none⟩ = some (.int .i64 x1) ∧ wr.cell? ⟨q, 3, none⟩ = some (.int .i64 y1) ∧ q < wr.heap.size := by
  refine ⟨?_, ?_, ?_, ?_, (Array.getElem?_eq_some_iff.1 h.box).1⟩ <;> (rw [cell_of_row wr _ _ _ _ (0, 0) h.box]; rfl)

theorem bool_zero (w : World) : (zeroValue 4).run Try.prog w = .ok (.bool false) w := by kernel_rfl

set_option maxRecDepth 100000 in
set_option maxHeartbeats 6400000 in
theorem TileKeys_walk (x0 y0 x1 y1 : Int) (w : World) (hx0 : -9223372036854775808 ≤ x0 ∧ x0 ≤ 9223372036854775807) (hy0 : -9223372036854775808 ≤ y0 ∧ y0 ≤ 9223372036854775807) (hx1 : -9223372036854775808 ≤ x1 ∧ x1 ≤ 9223372036854775807) (hy1 : -9223372036854775808 ≤ y1 ∧ y1 ≤ 9223372036854775807) :
    Calls Try.prog 4 #[.agg #[.int .i64 x0, .int .i64 y0, .int .i64 x1, .int .i64 y1]] w fun e w' => e = .returned (.bool true) ∧ Ext w w' := by
  have hb : inB (x0, y0, x1, y1) := ⟨hx0, hy0, hx1, hy1⟩
  have WI := Lib.hid (fun wx => window_any x0 y0 x1 y1 wx hb)
  have AW := Lib.hid awake_any
  cases hw : winB (x0, y0, x1, y1) with
  | false =>
    have KN := Lib.hid (fun wx => keys_no x0 y0 x1 y1 wx hb hw)
    rw [hw] at WI
    clear hb hw
    go_enter Try.func4, Try.ntmps4
    go_wp2_with fail
    refine (KN.out _).mono ?_
    rintro e w1 ⟨rfl, g1, rfl⟩
    go_wp2_with fail
    refine (WI.out _).mono ?_
    rintro e w1 ⟨rfl, g2, rfl⟩
    go_wp2_with fail
    refine (AW.out _).mono ?_
    rintro e w1 ⟨rfl, g3, rfl⟩
    go_wp2
    go_ret
    exact ⟨rfl, by ((repeat (first | exact Ext.refl _ | apply Ext.alloc | apply Ext.drew' | apply Ext.drewN | apply Ext.ext)))⟩
  | true =>
    obtain ⟨X, Y, nx, ny, hW⟩ := winN_of hw
    have KY := Lib.hid (fun wx => keys_yes x0 y0 x1 y1 X Y nx ny wx hw hW)
    have HW := Lib.hid hw
    have HN := Lib.hid hW
    have hbb := (winB_iff _ _ _ _).1 hw
    rw [hw] at WI
    have r1 : 0 < x1 - x0 ∧ x1 - x0 ≤ 256 := by omega
    have r2 : 0 < y1 - y0 ∧ y1 - y0 ≤ 256 := by omega
    have r3 : 0 ≤ (x1 - x0) * (y1 - y0) ∧ (x1 - x0) * (y1 - y0) ≤ 65536 := ⟨Int.mul_nonneg (by omega) (by omega), by
      have := Int.mul_le_mul r1.2 r2.2 (by omega) (by omega)
      omega⟩
    obtain ⟨N, hNN⟩ : ∃ N, ny * nx = N := ⟨_, rfl⟩
    have hN2 : N ≤ 1089 := by have := Nat.mul_le_mul hW.ny.2 hW.nx.2; omega
    rw [hNN] at KY
    have HNN := Lib.hid hNN
    clear hb hw hW hNN
    by_cases hbig : 1500 < (x1 - x0) * (y1 - y0)
    · go_enter Try.func4, Try.ntmps4
      go_wp2_with fail
      refine (KY.out _).mono ?_
      rintro e w1 ⟨A, c, rfl, hO, g1, rfl⟩
      clear hO
      go_wp2_with fail
      refine (WI.out _).mono ?_
      rintro e w1 ⟨rfl, g2, rfl⟩
      go_wp2_with fail
      refine (AW.out _).mono ?_
      rintro e w1 ⟨rfl, g3, rfl⟩
      go_wp2
      go_ret
      exact ⟨rfl, by ((repeat (first | exact Ext.refl _ | apply Ext.alloc | apply Ext.drew' | apply Ext.drewN | apply Ext.ext)))⟩
    · have hnx : 0 < nx := by have := HN.out.nx; omega
      have hmk := fun (w : World) => run_makeMap (P := Try.prog) 36 w
      go_enter Try.func4, Try.ntmps4
      go_wp2_with fail
      refine (KY.out _).mono ?_
      rintro e w1 ⟨A, c, rfl, hO, hE⟩
      have O1 := Lib.hid hO
      have E1 := Lib.hid (((Ext.refl w).alloc (.cells #[.int .i64 x0, .int .i64 y0, .int .i64 x1, .int .i64 y1] 25)).trans hE)
      have hb1 := hE.heapAt (heap_alloc_new w (.cells #[.int .i64 x0, .int .i64 y0, .int .i64 x1, .int .i64 y1] 25))
      have k0 : w1.cell? ⟨w.heap.size, 0, none⟩ = some (.int .i64 x0) := by rw [cell_of_row w1 _ _ _ _ (0, 0) hb1]; rfl
      have k1 : w1.cell? ⟨w.heap.size, 1, none⟩ = some (.int .i64 y0) := by rw [cell_of_row w1 _ _ _ _ (0, 0) hb1]; rfl
      have k2 : w1.cell? ⟨w.heap.size, 2, none⟩ = some (.int .i64 x1) := by rw [cell_of_row w1 _ _ _ _ (0, 0) hb1]; rfl
      have k3 : w1.cell? ⟨w.heap.size, 3, none⟩ = some (.int .i64 y1) := by rw [cell_of_row w1 _ _ _ _ (0, 0) hb1]; rfl
      have kl : w.heap.size < w1.heap.size := (Array.getElem?_eq_some_iff.1 hb1).1
      have HB1 := Lib.hid hb1
      clear hO hE hb1
      go_wp2_with fail
      refine (WI.out _).mono ?_
      rintro e w2 ⟨rfl, hE⟩
      have E2 := Lib.hid hE
      have j0 : w2.cell? ⟨w.heap.size, 0, none⟩ = some (.int .i64 x0) := by rw [hE.cell kl]; exact k0
      have j1 : w2.cell? ⟨w.heap.size, 1, none⟩ = some (.int .i64 y0) := by rw [hE.cell kl]; exact k1
      have j2 : w2.cell? ⟨w.heap.size, 2, none⟩ = some (.int .i64 x1) := by rw [hE.cell kl]; exact k2
      have j3 : w2.cell? ⟨w.heap.size, 3, none⟩ = some (.int .i64 y1) := by rw [hE.cell kl]; exact k3
      have jl : w.heap.size < w2.heap.size := Nat.lt_of_lt_of_le kl hE.size
      clear hE k0 k1 k2 k3
      go_wp2_with fail
      obtain ⟨B, hB⟩ : ∃ B, w2.heap.size = B := ⟨_, rfl⟩
      obtain ⟨q, hq⟩ : ∃ q, w.heap.size = q := ⟨_, rfl⟩
      have ST0 : Hid (KSt w (w2.alloc (.map #[] 0)) B q x0 y0 x1 y1 (.slice A N c) (keysN X Y nx N) (seenL X Y nx 0)) := Lib.hid
        ⟨(E1.out.trans E2.out).alloc _, hB ▸ MapAt.made w2, by rw [← hq]; exact ((Ext.refl _).alloc _).heapAt (E2.out.heapAt HB1.out), (((O1.out.ext E2.out).ext ((Ext.refl _).alloc _)).mono (Nat.zero_le _)), fun k hk => by rw [← hB]; exact ((O1.out.ext E2.out).1.lt k hk).2, by rw [← hB, ← hq]; exact jl, by rw [← hB]; exact (E1.out.trans E2.out).size⟩
      rw [hB, hq]
      have HQ := Lib.hid hq
      clear hB hq j0 j1 j2 j3 jl kl hbig hmk
      go_loopw [46] (fun t46 wr => ∃ i : Nat, i ≤ N ∧ t46 = .int .i64 (i : Int) ∧ Hid (KSt w wr B q x0 y0 x1 y1 (.slice A N c) (keysN X Y nx N) (seenL X Y nx i))) (fun t46 _ => N - (intOf t46).toNat)
      case atStart => exact ⟨0, by omega, rfl, ST0⟩
      case round =>
        obtain ⟨i, hi, rfl, ST⟩ := hrel
        by_cases hlt : i < N
        · have hlt' : (i : Int) < (N : Int) := by omega
          obtain ⟨hR, hM⟩ := key_meets HW.out HN.out i (by rw [HNN.out]; exact hlt)
          obtain ⟨kx, ky, hk⟩ : ∃ a b, keyAt X Y nx i = (a, b) := ⟨_, _, rfl⟩
          obtain ⟨b0, off, kx', ky', hA, hb0, hk', hin, c0, c1⟩ := (ST.out.ks.kys).at (i := i) (by exact hlt)
          rw [keysN_getD _ _ _ _ _ hlt] at hk'
          have hkk : (kx, ky) = (kx', ky') := hk.symm.trans hk'
          simp only [Prod.mk.injEq] at hkk
          obtain ⟨rfl, rfl⟩ := hkk
          subst hA
          rw [hk] at hR hM
          have CB := Lib.hid (fun wx => tbox_any kx ky wx)
          have eb : boxV (tboxB (kx, ky)) = .agg #[.int .i64 (8 * kx), .int .i64 (8 * ky), .int .i64 (8 * kx + 8), .int .i64 (8 * ky + 8)] := by unfold tboxB; rw [hR]; rfl
          have et : tboxB (kx, ky) = (8 * kx, 8 * ky, 8 * kx + 8, 8 * ky + 8) := by unfold tboxB; rw [hR]; rfl
          rw [eb] at CB
          rw [et] at hM
          have CR := Lib.hid (fun wx => refRightK_any kx ky wx)
          rw [hR] at CR
          have CK := Lib.hid (fun wx => refK_any kx ky wx)
          have CM := Lib.hid (fun wx => meet_any (8 * kx) (8 * ky) (8 * kx + 8) (8 * ky + 8) x0 y0 x1 y1 wx)
          obtain ⟨m0, m1, m2, m3, hm⟩ : ∃ a b c d, meetB (8 * kx, 8 * ky, 8 * kx + 8, 8 * ky + 8) (x0, y0, x1, y1) = (a, b, c, d) := ⟨_, _, _, _, rfl⟩
          dsimp only at hM
          rw [hm] at CM hM
          simp only [boxV] at CM
          dsimp only at hM
          have CE := Lib.hid (fun wx => emptyBox_any m0 m1 m2 m3 wx)
          rw [hM] at CE
          have rb : (-524288 ≤ kx ∧ kx ≤ 524287) ∧ (-524288 ≤ ky ∧ ky ≤ 524287) := by
            unfold rightK at hR
            simp only [decide_eq_true_eq] at hR
            omega
          obtain ⟨rb1, rb2⟩ := rb
          have NOK : Hid (∀ p ∈ seenL X Y nx i, p.1 ≠ (kx, ky)) := Lib.hid (by rw [← hk]; exact seen_no X Y nx i hnx)
          have IK : Hid (inK (kx, ky)) := Lib.hid hin
          have PRV : Hid (∀ j, i = j + 1 → (ky = (keyAt X Y nx j).2 ∧ (keyAt X Y nx j).1 < kx) ∨ (keyAt X Y nx j).2 < ky) := Lib.hid (fun j hj => by
            have h1 := key_order X Y nx j hnx
            rw [← hj, hk] at h1
            exact h1)
          clear eb et hm hM hR hk' hin
          have cells := ST.out.cell
          obtain ⟨z0, z1, z2, z3, z4⟩ := cells
          go_wp2_with fail
          refine (CB.out _).mono ?_
          rintro e w3 ⟨rfl, g1, rfl⟩
          go_wp2_with fail
          obtain ⟨wb, hwb⟩ : ∃ wb, ((wr.alloc (.cells #[.int .i64 kx, .int .i64 ky] 23)).ext g1).alloc (.cells #[.int .i64 (8 * kx), .int .i64 (8 * ky), .int .i64 (8 * kx + 8), .int .i64 (8 * ky + 8)] 25) = wb := ⟨_, rfl⟩
          obtain ⟨p1, hp1⟩ : ∃ p, wr.heap.size = p := ⟨_, rfl⟩
          obtain ⟨p2, hp2⟩ : ∃ p, p1 + (1 + g1.blocks.size) = p := ⟨_, rfl⟩
          have SB : Hid (KSt w wb B q x0 y0 x1 y1 (.slice (some ⟨b0, off, none⟩) N c) (keysN X Y nx N) (seenL X Y nx i)) := Lib.hid (by
            rw [← hwb]; exact ((ST.out.grow ((Ext.refl _).alloc _)).grow (Ext.ext (Ext.refl _) g1)).grow ((Ext.refl _).alloc _))
          have n0 : wb.cell? ⟨p1, 0, none⟩ = some (.int .i64 kx) := by rw [← hwb, ← hp1]; simp [go_sem]
          have n1 : wb.cell? ⟨p1, 1, none⟩ = some (.int .i64 ky) := by rw [← hwb, ← hp1]; simp [go_sem]
          have n2 : wb.cell? ⟨p2, 0, none⟩ = some (.int .i64 (8 * kx)) := by rw [← hwb, ← hp2, ← hp1]; simp [go_sem, Nat.add_assoc]
          have n3 : wb.cell? ⟨p2, 1, none⟩ = some (.int .i64 (8 * ky)) := by rw [← hwb, ← hp2, ← hp1]; simp [go_sem, Nat.add_assoc]
          have n4 : wb.cell? ⟨p2, 2, none⟩ = some (.int .i64 (8 * kx + 8)) := by rw [← hwb, ← hp2, ← hp1]; simp [go_sem, Nat.add_assoc]
          have n5 : wb.cell? ⟨p2, 3, none⟩ = some (.int .i64 (8 * ky + 8)) := by rw [← hwb, ← hp2, ← hp1]; simp [go_sem, Nat.add_assoc]
          have n6 : p1 < wb.heap.size := by rw [← hwb, ← hp1]; simp; omega
          have n7 : p2 < wb.heap.size := by rw [← hwb, ← hp2, ← hp1]; simp; omega
          have EW : Ext wr wb := by rw [← hwb]; exact (((Ext.refl _).alloc _).ext g1).alloc _
          have z0' : wb.cell? ⟨q, 0, none⟩ = some (.int .i64 x0) := (EW.cell z4).trans z0
          have z1' : wb.cell? ⟨q, 1, none⟩ = some (.int .i64 y0) := (EW.cell z4).trans z1
          have z2' : wb.cell? ⟨q, 2, none⟩ = some (.int .i64 x1) := (EW.cell z4).trans z2
          have z3' : wb.cell? ⟨q, 3, none⟩ = some (.int .i64 y1) := (EW.cell z4).trans z3
          have z4' : q < wb.heap.size := Nat.lt_of_lt_of_le z4 EW.size
          have b0' : b0 < wb.heap.size := Nat.lt_of_lt_of_le hb0 EW.size
          have lk : ∀ g', (Instr.lookup 36 (.map (some B)) (.agg #[.int .i64 kx, .int .i64 ky]) false).run Try.prog (wb.ext g') = .ok (.bool false) (wb.ext g') := fun g' => by
            have h1 := run_look (t := 36) (K := 23) (E := 4) mapK_Key Try.underlying36 bool_zero (SB.out.mp.ext ⟨g', rfl⟩) false (kx, ky) IK.out
            rw [lookK_none NOK.out] at h1
            exact h1
          rw [hwb, hp1, hp2]
          clear hwb hp1 hp2 z0 z1 z2 z3 z4 EW hb0 c0 c1
          have d1 : 8 * kx + 8 - 8 * kx = 8 := by omega
          have d2 : 8 * ky + 8 - 8 * ky = 8 := by omega
          have HKK := Lib.hid hk
          rcases i with _ | j
          · clear hk
            refine region_quiet (by kernel_rfl) (by kernel_rfl) ?_
            dsimp only [List.append, List.append_eq, List.cons_append, List.nil_append]
            iterate 68 (go_big_quiet_step (first | exact calls_ext (CK.out _) | exact calls_ext (CR.out _) | exact calls_ext (CM.out _) | exact calls_ext (CE.out _)))
            have hk := HKK.out
            refine wpQuiet_nil ?_
            rintro _ ⟨g9, rfl⟩
            obtain ⟨w6, hup, hM6, hK6⟩ := run_put (t := 36) (K := 23) (E := 4) mapK_Key Try.underlying36 (SB.out.mp.ext ⟨g9, rfl⟩) (kx, ky) IK.out (.bool true) (by unfold seenL; rw [List.length_map, keysN_len]; omega)
            simp only [keyV] at hup
            rw [put_new NOK.out, ← hk, ← seen_succ] at hM6
            have S6 := Lib.hid ((SB.out.grow ⟨g9, rfl⟩).put hM6 hK6)
            clear hM6 hK6 lk
            go_wp2
            go_roundw
            case rel => exact ⟨_, by omega, by go_num, S6⟩
            case measure => simp [intOf]; omega
          · obtain ⟨b1, off1, px, py, hA1, -, hk1, -, e0, e1⟩ := (SB.out.ks.kys).at (i := j) (by omega)
            simp only [Option.some.injEq, Addr.mk.injEq, and_true] at hA1
            obtain ⟨rfl, rfl⟩ := hA1
            rw [keysN_getD _ _ _ _ _ (by omega)] at hk1
            have hp := PRV.out j rfl
            rw [show keyAt X Y nx j = (px, py) from hk1] at hp
            simp only at hp
            have hj1 : ((j + 1 : Nat) : Int) - 1 = (j : Int) := by omega
            have hj2 : (0 : Int) < ((j + 1 : Nat) : Int) := by omega
            clear hk hk1
            rcases hp with ⟨hp1, hp2⟩ | hp1
            · subst hp1
              have hp3 : ¬ kx ≤ px := by omega
              refine region_quiet (by kernel_rfl) (by kernel_rfl) ?_
              dsimp only [List.append, List.append_eq, List.cons_append, List.nil_append]
              iterate 68 (go_big_quiet_step (first | exact calls_ext (CK.out _) | exact calls_ext (CR.out _) | exact calls_ext (CM.out _) | exact calls_ext (CE.out _)))
              have hk := HKK.out
              refine wpQuiet_nil ?_
              rintro _ ⟨g9, rfl⟩
              obtain ⟨w6, hup, hM6, hK6⟩ := run_put (t := 36) (K := 23) (E := 4) mapK_Key Try.underlying36 (SB.out.mp.ext ⟨g9, rfl⟩) (kx, ky) IK.out (.bool true) (by unfold seenL; rw [List.length_map, keysN_len]; omega)
              simp only [keyV] at hup
              rw [put_new NOK.out, ← hk, ← seen_succ] at hM6
              have S6 := Lib.hid ((SB.out.grow ⟨g9, rfl⟩).put hM6 hK6)
              clear hM6 hK6 lk
              go_wp2
              go_roundw
              case rel => exact ⟨_, by omega, by go_num, S6⟩
              case measure => simp [intOf]; omega
            · have hp3 : ¬ ky < py := by omega
              have hp4 : (py == ky) = false := by simp; omega
              refine region_quiet (by kernel_rfl) (by kernel_rfl) ?_
              dsimp only [List.append, List.append_eq, List.cons_append, List.nil_append]
              iterate 68 (go_big_quiet_step (first | exact calls_ext (CK.out _) | exact calls_ext (CR.out _) | exact calls_ext (CM.out _) | exact calls_ext (CE.out _)))
              have hk := HKK.out
              refine wpQuiet_nil ?_
              rintro _ ⟨g9, rfl⟩
              obtain ⟨w6, hup, hM6, hK6⟩ := run_put (t := 36) (K := 23) (E := 4) mapK_Key Try.underlying36 (SB.out.mp.ext ⟨g9, rfl⟩) (kx, ky) IK.out (.bool true) (by unfold seenL; rw [List.length_map, keysN_len]; omega)
              simp only [keyV] at hup
              rw [put_new NOK.out, ← hk, ← seen_succ] at hM6
              have S6 := Lib.hid ((SB.out.grow ⟨g9, rfl⟩).put hM6 hK6)
              clear hM6 hK6 lk
              go_wp2
              go_roundw
              case rel => exact ⟨_, by omega, by go_num, S6⟩
              case measure => simp [intOf]; omega
        · have hlt' : ¬ (i : Int) < (N : Int) := by omega
          obtain rfl : i = N := by omega
          obtain ⟨z0, z1, z2, z3, z4⟩ := ST.out.cell
          go_wp2
          go_loopw [8] (fun t8 wr => ∃ y : Int, y0 ≤ y ∧ y ≤ y1 ∧ t8 = .int .i64 y ∧ Hid (KSt w wr B q x0 y0 x1 y1 (.slice A i c) (keysN X Y nx i) (seenL X Y nx i))) (fun t8 _ => (y1 - intOf t8).toNat)
          case atStart => exact ⟨y0, by omega, by omega, rfl, ST⟩
          case round =>
            obtain ⟨y, hy1, hy2, rfl, SY⟩ := hrel
            obtain ⟨z0, z1, z2, z3, z4⟩ := SY.out.cell
            by_cases hyl : y < y1
            · go_wp2
              go_loopw [9] (fun t9 wr => ∃ x : Int, x0 ≤ x ∧ x ≤ x1 ∧ t9 = .int .i64 x ∧ Hid (KSt w wr B q x0 y0 x1 y1 (.slice A i c) (keysN X Y nx i) (seenL X Y nx i))) (fun t9 _ => (x1 - intOf t9).toNat)
              case atStart => exact ⟨x0, by omega, by omega, rfl, SY⟩
              case round =>
                obtain ⟨x, hx1, hx2, rfl, SX⟩ := hrel
                obtain ⟨z0, z1, z2, z3, z4⟩ := SX.out.cell
                by_cases hxl : x < x1
                · obtain ⟨j, hj, hkj⟩ := key_covers HN.out x y ⟨hx1, hxl⟩ ⟨hy1, hyl⟩
                  obtain ⟨hR, -⟩ := key_meets HW.out HN.out j hj
                  rw [HNN.out] at hj
                  rw [hkj] at hR
                  have OF := Lib.hid (fun wx => of8_any x y wx (by omega) (by omega))
                  obtain ⟨kx, hkx⟩ : ∃ p, x / 8 = p := ⟨_, rfl⟩
                  obtain ⟨ky, hky⟩ : ∃ p, y / 8 = p := ⟨_, rfl⟩
                  rw [hkx, hky] at OF hkj hR
                  have CB := Lib.hid (fun wx => tbox_any kx ky wx)
                  have eb : boxV (tboxB (kx, ky)) = .agg #[.int .i64 (8 * kx), .int .i64 (8 * ky), .int .i64 (8 * kx + 8), .int .i64 (8 * ky + 8)] := by unfold tboxB; rw [hR]; rfl
                  rw [eb] at CB
                  have CH := Lib.hid (fun wx => has_any (8 * kx) (8 * ky) (8 * kx + 8) (8 * ky + 8) x y wx)
                  rw [show hasB (8 * kx, 8 * ky, 8 * kx + 8, 8 * ky + 8) x y = true by unfold hasB; simp only [decide_eq_true_eq]; omega] at CH
                  have IK : Hid (inK (kx, ky)) := Lib.hid (by unfold inK; dsimp only; omega)
                  have SE := Lib.hid (seen_yes X Y nx i j hj)
                  rw [hkj] at SE
                  have ND : Hid ((seenL X Y nx i).map (·.1)).Nodup := Lib.hid (by obtain ⟨es, clock, _, _, h3, _⟩ := SX.out.mp; exact h3)
                  clear hkx hky hkj hR eb hj
                  go_wp2_with fail
                  refine (OF.out _).mono ?_
                  rintro e w3 ⟨rfl, g1, rfl⟩
                  have S3 := Lib.hid (((SX.out.grow (Ext.ext (Ext.refl _) g1)).grow ((Ext.refl _).alloc (.cells #[.int .i64 kx, .int .i64 ky] 28))).grow ((Ext.refl _).alloc (.cells #[.int .i64 kx, .int .i64 ky] 23)))
                  have lk := run_look (t := 36) (K := 23) (E := 4) mapK_Key Try.underlying36 bool_zero S3.out.mp false (kx, ky) IK.out
                  rw [lookK_some ND.out SE.out] at lk
                  simp only [keyV, Option.getD_some, Bool.false_eq_true, if_false] at lk
                  go_wp2_with fail
                  refine (CB.out _).mono ?_
                  rintro e w3 ⟨rfl, g2, rfl⟩
                  go_wp2_with fail
                  refine (CH.out _).mono ?_
                  rintro e w3 ⟨rfl, g3, rfl⟩
                  have S4 := Lib.hid ((S3.out.grow (Ext.ext (Ext.refl _) g2)).grow (Ext.ext (Ext.refl _) g3))
                  go_wp2
                  go_roundw
                  case rel => exact ⟨x + 1, by omega, by omega, by go_num, S4⟩
                  case measure => simp [intOf]; omega
                · go_wp2
                  go_roundw
                  case rel => exact ⟨y + 1, by omega, by omega, by go_num, SX⟩
                  case measure => simp [intOf]; omega
            · go_wp2_with fail
              refine (AW.out _).mono ?_
              rintro e w3 ⟨rfl, g1, rfl⟩
              go_wp2
              go_ret
              exact ⟨rfl, SY.out.ext.ext g1⟩

end Go.Proofs.Ytblfplkocljlgaa
