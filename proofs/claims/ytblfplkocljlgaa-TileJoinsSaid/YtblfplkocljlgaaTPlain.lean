import Derived.Test.YtblfplkocljlgaaTGet
namespace Go.Proofs.Ytblfplkocljlgaa
open Go.RowKit Go.ChangeMaps
set_option linter.unusedVariables false
set_option linter.unusedSimpArgs false

theorem replicate_snoc {α : Type} (i : Nat) (p : α) : List.replicate i p ++ [p] = List.replicate (i + 1) p := by
  rw [List.replicate_succ']

theorem okP_rep {p : Px} (hp : okP p) (n i : Nat) : okP ((List.replicate n p).getD i noP) := by
  rw [List.getD_eq_getElem?_getD, List.getElem?_replicate]
  split
  · exact hp
  · simp [okP, noP]

set_option maxRecDepth 100000 in
set_option maxHeartbeats 3200000 in
theorem plain_any (n : Nat) (w : World) (hn : n ≤ 255) :
    Calls Try.prog 20 #[.int .u8 (n : Int)] w fun e w' => ∃ A c, e = .returned (.agg #[.int .i64 8, .int .i64 8, .slice A 64 c]) ∧ OwnP .u8 68 w.heap.size w' (.slice A 64 c) (List.replicate 64 (n, 0, 0, 255)) ∧ Ext w w' := by
  have hok : okP (n, 0, 0, 255) := ⟨hn, by simp, by simp, by simp⟩
  have HOK := Lib.hid hok
  clear hok
  go_enter Try.func20, Try.ntmps20
  go_wp2
  go_loopw [5] (fun t5 wr => ∃ (i : Nat) (A : Option Addr) (c : Nat), i ≤ 64 ∧ t5 = .int .i64 (i : Int) ∧ Hid (Ext w wr ∧ wr.heap[w.heap.size + 1]? = some (.cells #[.int .i64 8, .int .i64 8, .slice A i c] 47 (0, 0)) ∧ OwnP .u8 68 (w.heap.size + 2) wr (.slice A i c) (List.replicate i (n, 0, 0, 255)) ∧ wr.heap[w.heap.size]? = some (.cells #[.int .i64 0, .int .i64 0, .slice none 0 0] 47 (0, 0)))) (fun t5 _ => 64 - (intOf t5).toNat)
  case atStart =>
    refine ⟨0, none, 0, by omega, rfl, Lib.hid ⟨by ((repeat (first | exact Ext.refl _ | apply Ext.alloc))), ?_, OwnP.nil _ _ _ _, ?_⟩⟩
    · have := heap_alloc_new (w.alloc (.cells #[.int .i64 0, .int .i64 0, .slice none 0 0] 47)) (.cells #[.int .i64 8, .int .i64 8, .slice none 0 0] 47)
      simpa using this
    · exact ((Ext.refl _).alloc _).heapAt (heap_alloc_new w _)
  case round =>
    obtain ⟨i, A, c, hi, rfl, HI⟩ := hrel
    obtain ⟨q, hq⟩ : ∃ q, w.heap.size = q := ⟨_, rfl⟩
    rw [hq] at HI ⊢
    have hb := HI.out.2.1
    have hb0 := HI.out.2.2.2
    have c0 : wr.cell? ⟨q + 1, 0, none⟩ = some (.int .i64 8) := by rw [cell_of_row wr _ _ _ _ (0, 0) hb]; rfl
    have c1 : wr.cell? ⟨q + 1, 1, none⟩ = some (.int .i64 8) := by rw [cell_of_row wr _ _ _ _ (0, 0) hb]; rfl
    have c2 : wr.cell? ⟨q + 1, 2, none⟩ = some (.slice A i c) := by rw [cell_of_row wr _ _ _ _ (0, 0) hb]; rfl
    have hql : q + 1 < wr.heap.size := (Array.getElem?_eq_some_iff.1 hb).1
    have HQ := Lib.hid hq
    by_cases hlt : i < 64
    · have hlt' : (i : Int) < 64 := by omega
      have O : Hid (OwnP .u8 68 (q + 2) (wr.alloc (.cells #[.int .u8 (n : Int), .int .u8 0, .int .u8 0, .int .u8 255] 68)) (.slice A i c) (List.replicate i (n, 0, 0, 255))) := Lib.hid (HI.out.2.2.1.ext ((Ext.refl _).alloc _))
      have Y : Hid (Pix .u8 (wr.alloc (.cells #[.int .u8 (n : Int), .int .u8 0, .int .u8 0, .int .u8 255] 68)) (.slice (some ⟨wr.heap.size, 0, none⟩) 1 1) [(n, 0, 0, 255)]) := Lib.hid (pix_one (by simp) HOK.out (by intro j hj; rcases j with _ | _ | _ | _ | j <;> (first | omega | simp [go_sem, cellsP])))
      have Z : Hid ((List.replicate i ((n, 0, 0, 255) : Px)).length + ([(n, 0, 0, 255)] : List Px).length ≤ 1000000) := Lib.hid (by simp; omega)
      have B : Hid (q + 2 ≤ (wr.alloc (.cells #[.int .u8 (n : Int), .int .u8 0, .int .u8 0, .int .u8 255] 68)).heap.size) := Lib.hid (by simp; omega)
      clear hq hb hb0
      go_wp2_with (at_builtin; refine wpList_pxs pxC rfl (.tmp 8) (.tmp 11) rfl rfl rfl O.out Y.out Z.out B.out ?_)
      intro v9 w9 hO9 hg9 hown9
      obtain ⟨A9, cap9, rfl⟩ := own_slice hO9.1
      simp only [List.length_append, List.length_replicate, List.length_cons, List.length_nil, Nat.zero_add] at hO9 hown9 ⊢
      rw [replicate_snoc] at hO9
      have K9 := Keep.grown hg9
      have e1 : (wr.alloc (.cells #[.int .u8 (n : Int), .int .u8 0, .int .u8 0, .int .u8 255] 68)).heap.size = wr.heap.size + 1 := by simp
      have nb : ∀ k, k ≤ q + 1 → ¬ (Value.slice A i c).ownBlock = some k := fun k hk e => by have := (O.out.1.lt k e).1; omega
      have hb9 : w9.heap[q + 1]? = some (.cells #[.int .i64 8, .int .i64 8, .slice A i c] 47 (0, 0)) := by rw [K9.block _ (by omega) (nb _ (Nat.le_refl _))]; exact ((Ext.refl _).alloc _).heapAt HI.out.2.1
      have hb9' : w9.heap[q]? = some (.cells #[.int .i64 0, .int .i64 0, .slice none 0 0] 47 (0, 0)) := by rw [K9.block _ (by omega) (nb _ (by omega))]; exact ((Ext.refl _).alloc _).heapAt HI.out.2.2.2
      have f9 : ∀ j, w9.frozen? ⟨q + 1, j, none⟩ = false := fun j => by simp [World.frozen?, hb9]
      have d2 : w9.cell? ⟨q + 1, 2, none⟩ = some (.slice A i c) := by rw [cell_of_row w9 _ _ _ _ (0, 0) hb9]; rfl
      have hq9 : q + 1 < w9.heap.size := (Array.getElem?_eq_some_iff.1 hb9).1
      have E9 : Ext w w9 := Keep.toExt (HI.out.1.alloc _) K9 (fun k hk => by have := (O.out.1.lt k hk).1; have := HQ.out; omega)
      have KS : Keep w9 (w9.setCell ⟨q + 1, 2, none⟩ (.slice A9 (i + 1) cap9)) (fun k => k = q + 1) := Keep.setCell
      have REL : Hid (Ext w (w9.setCell ⟨q + 1, 2, none⟩ (.slice A9 (i + 1) cap9)) ∧ (w9.setCell ⟨q + 1, 2, none⟩ (.slice A9 (i + 1) cap9)).heap[q + 1]? = some (.cells #[.int .i64 8, .int .i64 8, .slice A9 (i + 1) cap9] 47 (0, 0)) ∧ OwnP .u8 68 (q + 2) (w9.setCell ⟨q + 1, 2, none⟩ (.slice A9 (i + 1) cap9)) (.slice A9 (i + 1) cap9) (List.replicate (i + 1) (n, 0, 0, 255)) ∧ (w9.setCell ⟨q + 1, 2, none⟩ (.slice A9 (i + 1) cap9)).heap[q]? = some (.cells #[.int .i64 0, .int .i64 0, .slice none 0 0] 47 (0, 0))) := Lib.hid (by
        refine ⟨E9.setCell (by rw [HQ.out]; simp) _, by rw [heap_setCell_same w9 (q + 1) 2 _ 47 _ hb9]; rfl, ⟨row_set hO9.1 (by omega), hO9.2⟩, by rw [KS.block q (by omega) (by omega)]; exact hb9'⟩)
      clear hO9 hown9 hg9 hb9 hb9' K9 KS E9 nb c0 c1 c2 e1
      go_wp2
      go_roundw
      case rel => exact ⟨i + 1, A9, cap9, by omega, by go_num, REL⟩
      case measure => simp [intOf]; omega
    · have hlt' : ¬ (i : Int) < 64 := by omega
      obtain rfl : i = 64 := by omega
      have g0 : wr.frozen? ⟨q, 0, none⟩ = false := by simp [World.frozen?, hb0]
      have g1 : wr.frozen? ⟨q, 1, none⟩ = false := by simp [World.frozen?, hb0]
      have g2 : wr.frozen? ⟨q, 2, none⟩ = false := by simp [World.frozen?, hb0]
      have d0 : wr.cell? ⟨q, 0, none⟩ = some (.int .i64 0) := by rw [cell_of_row wr _ _ _ _ (0, 0) hb0]; rfl
      have d1 : wr.cell? ⟨q, 1, none⟩ = some (.int .i64 0) := by rw [cell_of_row wr _ _ _ _ (0, 0) hb0]; rfl
      have d2 : wr.cell? ⟨q, 2, none⟩ = some (.slice none 0 0) := by rw [cell_of_row wr _ _ _ _ (0, 0) hb0]; rfl
      have hq0 : q < wr.heap.size := by omega
      have hbF : (((wr.setCell ⟨q, 0, none⟩ (.int .i64 8)).setCell ⟨q, 1, none⟩ (.int .i64 8)).setCell ⟨q, 2, none⟩ (.slice A 64 c)).heap[q]? = some (.cells #[.int .i64 8, .int .i64 8, .slice A 64 c] 47 (0, 0)) := by
        have h1 := heap_setCell_same wr q 0 _ 47 (.int .i64 8) hb0
        have h2 := heap_setCell_same _ q 1 _ 47 (.int .i64 8) h1
        exact heap_setCell_same _ q 2 _ 47 (.slice A 64 c) h2
      have hE10 : Ext w (((wr.setCell ⟨q, 0, none⟩ (.int .i64 8)).setCell ⟨q, 1, none⟩ (.int .i64 8)).setCell ⟨q, 2, none⟩ (.slice A 64 c)) := ((HI.out.1.setCell (by rw [HQ.out]; simp) _).setCell (by rw [HQ.out]; simp) _).setCell (by rw [HQ.out]; simp) _
      have hrow := row_set (g := q) (i := 2) (u := .slice A 64 c) (row_set (g := q) (i := 1) (u := .int .i64 8) (row_set (g := q) (i := 0) (u := .int .i64 8) HI.out.2.2.1.1 (by omega)) (by omega)) (by omega)
      clear hq hb hb0
      go_wp2
      obtain ⟨wF, hwF⟩ : ∃ wF, (((wr.setCell ⟨q, 0, none⟩ (.int .i64 8)).setCell ⟨q, 1, none⟩ (.int .i64 8)).setCell ⟨q, 2, none⟩ (.slice A 64 c)) = wF := ⟨_, rfl⟩
      rw [hwF] at hbF hE10 hrow ⊢
      have p0 : wF.cell? ⟨q, 0, none⟩ = some (.int .i64 8) := by rw [cell_of_row wF _ _ _ _ (0, 0) hbF]; rfl
      have p1 : wF.cell? ⟨q, 1, none⟩ = some (.int .i64 8) := by rw [cell_of_row wF _ _ _ _ (0, 0) hbF]; rfl
      have p2 : wF.cell? ⟨q, 2, none⟩ = some (.slice A 64 c) := by rw [cell_of_row wF _ _ _ _ (0, 0) hbF]; rfl
      refine bodyPost_ret (v := .agg #[.int .i64 8, .int .i64 8, .slice A 64 c]) (by simp [results, Try.results20, go_sem, p0, p1, p2]) rfl ⟨A, c, rfl, OwnP.mono (b := q + 2) ⟨hrow, HI.out.2.2.1.2⟩ (by have := HQ.out; omega), hE10⟩

end Go.Proofs.Ytblfplkocljlgaa
