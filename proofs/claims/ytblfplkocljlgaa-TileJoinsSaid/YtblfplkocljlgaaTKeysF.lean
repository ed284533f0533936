import Derived.Test.YtblfplkocljlgaaTPlain
namespace Go.Proofs.Ytblfplkocljlgaa
open Go.RowKit Go.ChangeMaps
set_option linter.unusedVariables false
set_option linter.unusedSimpArgs false

/-- the tiles of a stretch: nx in a row, the first m of them -/
def keysN (X Y : Int) (nx m : Nat) : List KK := (List.range m).map fun i => (X + ((i % nx : Nat) : Int), Y + ((i / nx : Nat) : Int))

theorem keysN_len (X Y : Int) (nx m : Nat) : (keysN X Y nx m).length = m := by simp [keysN]
theorem keysN_succ (X Y : Int) (nx j i : Nat) (hi : i < nx) : keysN X Y nx (j * nx + i) ++ [(X + (i : Int), Y + (j : Int))] = keysN X Y nx (j * nx + i + 1) := by
  unfold keysN
  rw [List.range_succ, List.map_append]
  simp only [List.map_cons, List.map_nil]
  rw [show (j * nx + i) % nx = i by rw [Nat.mul_comm, Nat.mul_add_mod]; exact Nat.mod_eq_of_lt hi, show (j * nx + i) / nx = j by rw [Nat.mul_comm, Nat.mul_add_div (by omega), Nat.div_eq_of_lt hi]; rfl]
theorem keysN_getD (X Y : Int) (nx m i : Nat) (hi : i < m) : (keysN X Y nx m).getD i noK = (X + ((i % nx : Nat) : Int), Y + ((i / nx : Nat) : Int)) := by
  unfold keysN
  rw [List.getD_eq_getElem?_getD, List.getElem?_map, List.getElem?_range hi]; rfl

structure WinN (x0 y0 x1 y1 : Int) (X Y : Int) (nx ny : Nat) : Prop where
  x0 : x0 / 8 = X
  y0 : y0 / 8 = Y
  x1 : (x1 - 1) / 8 = X + nx - 1
  y1 : (y1 - 1) / 8 = Y + ny - 1
  bx : -524288 ≤ X ∧ X + nx ≤ 524288
  by' : -524288 ≤ Y ∧ Y + ny ≤ 524288
  nx : 1 ≤ nx ∧ nx ≤ 33
  ny : 1 ≤ ny ∧ ny ≤ 33

theorem winN_of {x0 y0 x1 y1 : Int} (h : winB (x0, y0, x1, y1) = true) : ∃ X Y nx ny, WinN x0 y0 x1 y1 X Y nx ny := by
  have h' := (winB_iff _ _ _ _).1 h
  exact ⟨x0 / 8, y0 / 8, ((x1 - 1) / 8 - x0 / 8 + 1).toNat, ((y1 - 1) / 8 - y0 / 8 + 1).toNat, rfl, rfl, by omega, by omega, by omega, by omega, by omega, by omega⟩

theorem keys_no (x0 y0 x1 y1 : Int) (w : World) (hb : inB (x0, y0, x1, y1)) (h : winB (x0, y0, x1, y1) = false) :
    Calls Try.prog 14 #[.agg #[.int .i64 x0, .int .i64 y0, .int .i64 x1, .int .i64 y1]] w fun e w' => e = .returned (.slice none 0 0) ∧ Ext w w' := by
  have C := Lib.hid (fun wx => size_no x0 y0 x1 y1 wx hb h)
  clear hb h
  go_enter Try.func14, Try.ntmps14
  go_wp2_with fail
  refine (C.out _).mono ?_
  rintro e w1 ⟨rfl, g1, rfl⟩
  go_wp2
  go_ret
  exact ⟨rfl, by ((repeat (first | exact Ext.refl _ | apply Ext.alloc | apply Ext.drew' | apply Ext.drewN | apply Ext.ext)))⟩

set_option maxRecDepth 100000 in
set_option maxHeartbeats 6400000 in
theorem keys_yes (x0 y0 x1 y1 X Y : Int) (nx ny : Nat) (w : World) (hw : winB (x0, y0, x1, y1) = true) (h : WinN x0 y0 x1 y1 X Y nx ny) :
    Calls Try.prog 14 #[.agg #[.int .i64 x0, .int .i64 y0, .int .i64 x1, .int .i64 y1]] w fun e w' => ∃ A c, e = .returned (.slice A (ny * nx) c) ∧ OwnK 23 w.heap.size w' (.slice A (ny * nx) c) (keysN X Y nx (ny * nx)) ∧ Ext w w' := by
  have C := Lib.hid (fun wx => size_yes x0 y0 x1 y1 wx hw)
  obtain ⟨e1, e2, e3, e4, b1, b2, b3, b4⟩ := h
  have hb := (winB_iff _ _ _ _).1 hw
  have r1 : -4194304 ≤ x1 - 1 ∧ x1 - 1 ≤ 4194304 := by omega
  have r2 : -4194304 ≤ y1 - 1 ∧ y1 - 1 ≤ 4194304 := by omega
  obtain ⟨XE, hXE⟩ : ∃ XE, X + (nx : Int) - 1 = XE := ⟨_, rfl⟩
  obtain ⟨YE, hYE⟩ : ∃ YE, Y + (ny : Int) - 1 = YE := ⟨_, rfl⟩
  rw [hXE] at e3
  rw [hYE] at e4
  have HXE := Lib.hid hXE
  have HYE := Lib.hid hYE
  have HB := Lib.hid hb
  have HNN : Hid (ny * nx ≤ 1089) := Lib.hid (by have := Nat.mul_le_mul b4.2 b3.2; omega)
  clear hw hXE hYE hb
  go_enter Try.func14, Try.ntmps14
  go_wp2_with fail
  refine (C.out _).mono ?_
  rintro e w1 ⟨rfl, g1, rfl⟩
  obtain ⟨wa, hwa⟩ : ∃ wa, (w.alloc (.cells #[.int .i64 x0, .int .i64 y0, .int .i64 x1, .int .i64 y1] 25)).ext g1 = wa := ⟨_, rfl⟩
  obtain ⟨q, hq⟩ : ∃ q, w.heap.size = q := ⟨_, rfl⟩
  have EA : Hid (Ext w wa ∧ wa.heap[q]? = some (.cells #[.int .i64 x0, .int .i64 y0, .int .i64 x1, .int .i64 y1] 25 (0, 0))) := Lib.hid (by
    rw [← hwa, ← hq]; exact ⟨((Ext.refl w).alloc _).ext g1, (Ext.ext (Ext.refl _) g1).heapAt (heap_alloc_new w _)⟩)
  have k := EA.out.2
  have k0 : wa.cell? ⟨q, 0, none⟩ = some (.int .i64 x0) := by rw [cell_of_row wa _ _ _ _ (0, 0) k]; rfl
  have k1 : wa.cell? ⟨q, 1, none⟩ = some (.int .i64 y0) := by rw [cell_of_row wa _ _ _ _ (0, 0) k]; rfl
  have HQ := Lib.hid hq
  rw [hwa, hq]
  clear hwa hq k
  go_wp2
  go_loopw [6, 7] (fun t6 t7 wr => ∃ (j : Nat) (A : Option Addr) (c : Nat), j ≤ ny ∧ t7 = .int .i64 (Y + (j : Int)) ∧ t6 = .slice A (j * nx) c ∧ Hid (Ext w wr ∧ wr.heap[q]? = some (.cells #[.int .i64 x0, .int .i64 y0, .int .i64 x1, .int .i64 y1] 25 (0, 0)) ∧ OwnK 23 (q + 1) wr (.slice A (j * nx) c) (keysN X Y nx (j * nx)))) (fun _ t7 _ => ((Y + (ny : Int)) - intOf t7).toNat)
  case atStart =>
    refine ⟨0, none, 0, by omega, by simp, by simp, Lib.hid ⟨EA.out.1, EA.out.2, ?_⟩⟩
    rw [Nat.zero_mul]; exact OwnK.nil _ _ _
  case round =>
    obtain ⟨j, A, c, hj, rfl, rfl, HI⟩ := hrel
    have k := HI.out.2.1
    have k0 : wr.cell? ⟨q, 0, none⟩ = some (.int .i64 x0) := by rw [cell_of_row wr _ _ _ _ (0, 0) k]; rfl
    have k3 : wr.cell? ⟨q, 3, none⟩ = some (.int .i64 y1) := by rw [cell_of_row wr _ _ _ _ (0, 0) k]; rfl
    have hql : q < wr.heap.size := (Array.getElem?_eq_some_iff.1 k).1
    clear k
    by_cases hlt : j < ny
    · have hlt' : Y + (j : Int) ≤ YE := by have := HYE.out; omega
      go_wp2
      go_loopw [6, 8] (fun t6 t8 wr => ∃ (i : Nat) (A : Option Addr) (c : Nat), i ≤ nx ∧ t8 = .int .i64 (X + (i : Int)) ∧ t6 = .slice A (j * nx + i) c ∧ Hid (Ext w wr ∧ wr.heap[q]? = some (.cells #[.int .i64 x0, .int .i64 y0, .int .i64 x1, .int .i64 y1] 25 (0, 0)) ∧ OwnK 23 (q + 1) wr (.slice A (j * nx + i) c) (keysN X Y nx (j * nx + i)))) (fun _ t8 _ => ((X + (nx : Int)) - intOf t8).toNat)
      case atStart => exact ⟨0, A, c, by omega, by simp, by simp, HI⟩
      case round =>
        obtain ⟨i, A, c, hi, rfl, rfl, HJ⟩ := hrel
        have k := HJ.out.2.1
        have k2 : wr.cell? ⟨q, 2, none⟩ = some (.int .i64 x1) := by rw [cell_of_row wr _ _ _ _ (0, 0) k]; rfl
        have hql : q < wr.heap.size := (Array.getElem?_eq_some_iff.1 k).1
        clear k
        by_cases hlt2 : i < nx
        · have hlt2' : X + (i : Int) ≤ XE := by have := HXE.out; omega
          have hle : j * nx + nx ≤ ny * nx := by have := Nat.mul_le_mul_right nx (show j + 1 ≤ ny by omega); rw [Nat.add_mul, Nat.one_mul] at this; exact this
          have O : Hid (OwnK 23 (q + 1) (wr.alloc (.cells #[.int .i64 (X + (i : Int)), .int .i64 (Y + (j : Int))] 23)) (.slice A (j * nx + i) c) (keysN X Y nx (j * nx + i))) := Lib.hid (HJ.out.2.2.ext ((Ext.refl _).alloc _))
          have YY : Hid (Kys (wr.alloc (.cells #[.int .i64 (X + (i : Int)), .int .i64 (Y + (j : Int))] 23)) (.slice (some ⟨wr.heap.size, 0, none⟩) 1 1) [(X + (i : Int), Y + (j : Int))]) := Lib.hid (ky_one (by simp) (by unfold inK; dsimp only; omega) (by intro j hj; rcases j with _ | _ | j <;> (first | omega | simp [go_sem, cellsK])))
          have Z : Hid ((keysN X Y nx (j * nx + i)).length + ([(X + (i : Int), Y + (j : Int))] : List KK).length ≤ 1000000) := Lib.hid (by rw [keysN_len]; have := HNN.out; simp; omega)
          have B : Hid (q + 1 ≤ (wr.alloc (.cells #[.int .i64 (X + (i : Int)), .int .i64 (Y + (j : Int))] 23)).heap.size) := Lib.hid (by simp; omega)
          have SU := Lib.hid (keysN_succ X Y nx j i hlt2)
          have EK : Hid (Ext wr (wr.alloc (.cells #[.int .i64 (X + (i : Int)), .int .i64 (Y + (j : Int))] 23))) := Lib.hid ((Ext.refl _).alloc _)
          clear hle
          go_wp2_with (at_builtin; refine wpList_kys kyK rfl (.tmp 39) (.tmp 43) rfl rfl rfl O.out YY.out Z.out B.out ?_)
          intro v9 w9 hO9 hg9 hown9
          obtain ⟨A9, cap9, rfl⟩ := own_slice hO9.1
          rw [SU.out, keysN_len] at hO9 ⊢
          have K9 := Keep.grown hg9
          have nb : ∀ k, (Value.slice A (j * nx + i) c).ownBlock = some k → q < k := fun k e => by have := (O.out.1.lt k e).1; omega
          have E9 : Ext w w9 := Keep.toExt (HJ.out.1.trans EK.out) K9 (fun k hk => by have := nb k hk; have := HQ.out; omega)
          have REL : Hid (Ext w w9 ∧ w9.heap[q]? = some (.cells #[.int .i64 x0, .int .i64 y0, .int .i64 x1, .int .i64 y1] 25 (0, 0)) ∧ OwnK 23 (q + 1) w9 (.slice A9 (j * nx + (i + 1)) cap9) (keysN X Y nx (j * nx + (i + 1)))) := Lib.hid
            ⟨E9, by rw [K9.block q (by have := EK.out.size; omega) (fun e => by have := nb q e; omega)]; exact EK.out.heapAt HJ.out.2.1, hO9⟩
          clear hO9 hg9 hown9 K9 nb E9
          go_wp2
          go_roundw
          case rel => exact ⟨i + 1, A9, cap9, by omega, by go_num, rfl, REL⟩
          case measure => simp [intOf]; omega
        · have hlt2' : ¬ X + (i : Int) ≤ XE := by have := HXE.out; omega
          obtain rfl : i = nx := by omega
          have REL : Hid (Ext w wr ∧ wr.heap[q]? = some (.cells #[.int .i64 x0, .int .i64 y0, .int .i64 x1, .int .i64 y1] 25 (0, 0)) ∧ OwnK 23 (q + 1) wr (.slice A ((j + 1) * i) c) (keysN X Y i ((j + 1) * i))) := Lib.hid (by
            rw [show (j + 1) * i = j * i + i by rw [Nat.add_mul, Nat.one_mul]]; exact HJ.out)
          have HM : Hid (j * i + i = (j + 1) * i) := Lib.hid (by rw [Nat.add_mul, Nat.one_mul])
          rw [HM.out]
          go_wp2
          go_roundw
          case rel => exact ⟨j + 1, A, c, by omega, by go_num, rfl, REL⟩
          case measure => simp [intOf]; omega
    · have hlt' : ¬ Y + (j : Int) ≤ YE := by have := HYE.out; omega
      obtain rfl : j = ny := by omega
      go_wp2
      go_ret
      exact ⟨A, c, rfl, HI.out.2.2.mono (by have := HQ.out; omega), HI.out.1⟩

end Go.Proofs.Ytblfplkocljlgaa
