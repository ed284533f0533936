import Derived.Test.YtblfplkocljlgaaTDrop
import Derived.Deep.RegionLaw
namespace Go.Proofs.Ytblfplkocljlgaa
open Go.RowKit Go.ChangeMaps
set_option linter.unusedVariables false
set_option linter.unusedSimpArgs false

set_option maxRecDepth 100000 in
set_option maxHeartbeats 3200000 in
theorem without_any (v : Value) (l : List KK) (x y : Int) (w : World) (hl : Kys w v l) (hn : l.length ≤ 10000) :
    Calls Try.prog 42 #[v, .agg #[.int .i64 x, .int .i64 y]] w fun e w' => ∃ v', e = .returned v' ∧ OwnK 28 w.heap.size w' v' (dropK l (x, y)) ∧ Ext w w' := by
  have P := Lib.hid hl
  obtain ⟨A, cap, rfl, hcap, hmx, _⟩ := hl
  obtain ⟨N, hN⟩ : ∃ N, l.length = N := ⟨_, rfl⟩
  rw [hN] at P hcap hn ⊢
  have HN := Lib.hid hN
  clear hN
  go_enter Try.func42, Try.ntmps42
  go_wp2
  go_loopw [5, 6] (fun t5 t6 wr => ∃ (i : Nat) (B : Option Addr) (n c : Nat), i ≤ N ∧ t6 = .int .i64 (i : Int) ∧ t5 = .slice B n c ∧ Hid (Ext w wr ∧ OwnK 28 (w.heap.size + 1) wr (.slice B n c) (dropK (l.take i) (x, y)) ∧ wr.heap[w.heap.size]? = some (.cells #[.int .i64 x, .int .i64 y] 28 (0, 0)))) (fun _ t6 _ => N - (intOf t6).toNat)
  case atStart => exact ⟨0, none, 0, 0, by omega, rfl, rfl, Lib.hid ⟨(Ext.refl w).alloc _, OwnK.nil _ _ _, heap_alloc_new w _⟩⟩
  case round =>
    obtain ⟨i, B, n, c, hi, rfl, rfl, HI⟩ := hrel
    obtain ⟨q, hq⟩ : ∃ q, w.heap.size = q := ⟨_, rfl⟩
    rw [hq] at HI ⊢
    have HQ := Lib.hid hq
    have hb := HI.out.2.2
    have z0 : wr.cell? ⟨q, 0, none⟩ = some (.int .i64 x) := by rw [cell_of_row wr _ _ _ _ (0, 0) hb]; rfl
    have z1 : wr.cell? ⟨q, 1, none⟩ = some (.int .i64 y) := by rw [cell_of_row wr _ _ _ _ (0, 0) hb]; rfl
    have hql : q < wr.heap.size := (Array.getElem?_eq_some_iff.1 hb).1
    clear hb hq
    by_cases hlt : i < N
    · have hlt' : (i : Int) < (N : Int) := by omega
      obtain ⟨bk, off, u, v, rfl, hbs, hp, hin, c0, c1⟩ := (P.out.ext HI.out.1).at hlt
      have DT := Lib.hid (dropK_take l (x, y) i (by rw [HN.out]; exact hlt))
      rw [hp] at DT
      have IK := Lib.hid hin
      have DL : Hid ((dropK (l.take i) (x, y)).length ≤ 10000) := Lib.hid (by
        refine Nat.le_trans (List.length_filter_le _ _) ?_
        rw [List.length_take]; have := HN.out; omega)
      clear hp hin
      by_cases hu : u = x
      · by_cases hv : v = y
        · subst hu hv
          have HS : Hid (dropK (l.take (i + 1)) (u, v) = dropK (l.take i) (u, v)) := Lib.hid (by rw [DT.out, if_pos rfl, List.append_nil])
          go_wp2
          refine region_quiet (by kernel_rfl) (by kernel_rfl) ?_
          iterate 6 (go_big_quiet_step (fail))
          refine wpQuiet_nil ?_
          rintro _ ⟨g9, rfl⟩
          go_wp2
          go_roundw
          case rel => exact ⟨i + 1, B, n, c, by omega, by go_num, rfl, Lib.hid ⟨HI.out.1.ext g9, by rw [HS.out]; exact HI.out.2.1.ext ⟨g9, rfl⟩, (Ext.ext (Ext.refl _) g9).heapAt HI.out.2.2⟩⟩
          case measure => simp [intOf]; omega
        · subst hu
          have HS : Hid (dropK (l.take (i + 1)) (u, y) = dropK (l.take i) (u, y) ++ [(u, v)]) := Lib.hid (by rw [DT.out, if_neg (by rw [Prod.mk.injEq]; omega)])
          go_wp2
          refine region_quiet (by kernel_rfl) (by kernel_rfl) ?_
          iterate 6 (go_big_quiet_step (fail))
          refine wpQuiet_nil ?_
          rintro _ ⟨g9, rfl⟩
          obtain ⟨wa, hwa⟩ : ∃ wa, wr.ext g9 = wa := ⟨_, rfl⟩
          have EA : Hid (Ext wr wa) := Lib.hid ⟨g9, hwa.symm⟩
          have c0' : wa.cell? ⟨bk, off + i * 2, none⟩ = some (.int .i64 u) := (EA.out.cell hbs).trans c0
          have c1' : wa.cell? ⟨bk, off + (i * 2 + 1), none⟩ = some (.int .i64 v) := (EA.out.cell hbs).trans c1
          have hbs' : bk < wa.heap.size := Nat.lt_of_lt_of_le hbs EA.out.size
          rw [hwa]
          have O : Hid (OwnK 28 (q + 1) (wa.alloc (.cells #[.int .i64 u, .int .i64 v] 28)) (.slice B n c) (dropK (l.take i) (u, y))) := Lib.hid ((HI.out.2.1.ext EA.out).ext ((Ext.refl _).alloc _))
          have YY : Hid (Kys (wa.alloc (.cells #[.int .i64 u, .int .i64 v] 28)) (.slice (some ⟨wa.heap.size, 0, none⟩) 1 1) [(u, v)]) := Lib.hid (ky_one (by simp) IK.out (by intro j hj; rcases j with _ | _ | j <;> (first | omega | simp [go_sem, cellsK])))
          have Z : Hid ((dropK (l.take i) (u, y)).length + ([(u, v)] : List KK).length ≤ 1000000) := Lib.hid (by have := DL.out; simp; omega)
          have BB : Hid (q + 1 ≤ (wa.alloc (.cells #[.int .i64 u, .int .i64 v] 28)).heap.size) := Lib.hid (by have := EA.out.size; simp; omega)
          clear hwa c0 c1 hbs
          go_wp2_with (at_builtin; refine wpList_kys kyR rfl (.tmp 19) (.tmp 24) rfl rfl rfl O.out YY.out Z.out BB.out ?_)
          intro v9 w9 hO9 hg9 hown9
          obtain ⟨A9, cap9, rfl⟩ := own_slice hO9.1
          rw [← HS.out] at hO9 ⊢
          have K9 := Keep.grown hg9
          have nb : ∀ k, (Value.slice B n c).ownBlock = some k → q < k := fun k e => by have := (O.out.1.lt k e).1; omega
          have E9 : Ext w w9 := Keep.toExt ((HI.out.1.trans EA.out).alloc _) K9 (fun k hk => by have := nb k hk; have := HQ.out; omega)
          have REL : Hid (Ext w w9 ∧ OwnK 28 (q + 1) w9 (.slice A9 (dropK (l.take (i + 1)) (u, y)).length cap9) (dropK (l.take (i + 1)) (u, y)) ∧ w9.heap[q]? = some (.cells #[.int .i64 u, .int .i64 y] 28 (0, 0))) := Lib.hid
            ⟨E9, hO9, by rw [K9.block q (by have := EA.out.size; simp; omega) (fun e => by have := nb q e; omega)]; exact (EA.out.alloc _).heapAt HI.out.2.2⟩
          clear hO9 hg9 hown9 K9 nb E9
          go_wp2
          go_roundw
          case rel => exact ⟨i + 1, A9, _, cap9, by omega, by go_num, rfl, REL⟩
          case measure => simp [intOf]; omega
      ·
        have HS : Hid (dropK (l.take (i + 1)) (x, y) = dropK (l.take i) (x, y) ++ [(u, v)]) := Lib.hid (by rw [DT.out, if_neg (by rw [Prod.mk.injEq]; omega)])
        go_wp2
        refine region_quiet (by kernel_rfl) (by kernel_rfl) ?_
        iterate 6 (go_big_quiet_step (fail))
        refine wpQuiet_nil ?_
        rintro _ ⟨g9, rfl⟩
        obtain ⟨wa, hwa⟩ : ∃ wa, wr.ext g9 = wa := ⟨_, rfl⟩
        have EA : Hid (Ext wr wa) := Lib.hid ⟨g9, hwa.symm⟩
        have c0' : wa.cell? ⟨bk, off + i * 2, none⟩ = some (.int .i64 u) := (EA.out.cell hbs).trans c0
        have c1' : wa.cell? ⟨bk, off + (i * 2 + 1), none⟩ = some (.int .i64 v) := (EA.out.cell hbs).trans c1
        have hbs' : bk < wa.heap.size := Nat.lt_of_lt_of_le hbs EA.out.size
        rw [hwa]
        have O : Hid (OwnK 28 (q + 1) (wa.alloc (.cells #[.int .i64 u, .int .i64 v] 28)) (.slice B n c) (dropK (l.take i) (x, y))) := Lib.hid ((HI.out.2.1.ext EA.out).ext ((Ext.refl _).alloc _))
        have YY : Hid (Kys (wa.alloc (.cells #[.int .i64 u, .int .i64 v] 28)) (.slice (some ⟨wa.heap.size, 0, none⟩) 1 1) [(u, v)]) := Lib.hid (ky_one (by simp) IK.out (by intro j hj; rcases j with _ | _ | j <;> (first | omega | simp [go_sem, cellsK])))
        have Z : Hid ((dropK (l.take i) (x, y)).length + ([(u, v)] : List KK).length ≤ 1000000) := Lib.hid (by have := DL.out; simp; omega)
        have BB : Hid (q + 1 ≤ (wa.alloc (.cells #[.int .i64 u, .int .i64 v] 28)).heap.size) := Lib.hid (by have := EA.out.size; simp; omega)
        clear hwa c0 c1 hbs
        go_wp2_with (at_builtin; refine wpList_kys kyR rfl (.tmp 19) (.tmp 24) rfl rfl rfl O.out YY.out Z.out BB.out ?_)
        intro v9 w9 hO9 hg9 hown9
        obtain ⟨A9, cap9, rfl⟩ := own_slice hO9.1
        rw [← HS.out] at hO9 ⊢
        have K9 := Keep.grown hg9
        have nb : ∀ k, (Value.slice B n c).ownBlock = some k → q < k := fun k e => by have := (O.out.1.lt k e).1; omega
        have E9 : Ext w w9 := Keep.toExt ((HI.out.1.trans EA.out).alloc _) K9 (fun k hk => by have := nb k hk; have := HQ.out; omega)
        have REL : Hid (Ext w w9 ∧ OwnK 28 (q + 1) w9 (.slice A9 (dropK (l.take (i + 1)) (x, y)).length cap9) (dropK (l.take (i + 1)) (x, y)) ∧ w9.heap[q]? = some (.cells #[.int .i64 x, .int .i64 y] 28 (0, 0))) := Lib.hid
          ⟨E9, hO9, by rw [K9.block q (by have := EA.out.size; simp; omega) (fun e => by have := nb q e; omega)]; exact (EA.out.alloc _).heapAt HI.out.2.2⟩
        clear hO9 hg9 hown9 K9 nb E9
        go_wp2
        go_roundw
        case rel => exact ⟨i + 1, A9, _, cap9, by omega, by go_num, rfl, REL⟩
        case measure => simp [intOf]; omega
    · have hlt' : ¬ (i : Int) < (N : Int) := by omega
      obtain rfl : i = N := by omega
      go_wp2
      go_ret
      refine ⟨_, rfl, ?_, HI.out.1⟩
      have h1 := HI.out.2.1
      rw [← HN.out, List.take_length] at h1
      exact h1.mono (by have := HQ.out; omega)

end Go.Proofs.Ytblfplkocljlgaa
