import Derived.Test.YtakebbphielbfaaDoorQPa
namespace Go.Proofs.YtakebbphielbfaaDoor
open Go.RowKit
set_option linter.unusedVariables false
set_option linter.unusedSimpArgs false
set_option maxRecDepth 100000
set_option maxHeartbeats 6400000

structure RR (B : Nat) (w0 w : World) (A : Option Addr) (n c : Nat) (l : List Sg) : Prop where
  own : OwnR sgR 34 B w (.slice A n c) l
  len : l.length = n
  few : n ≤ 4097
  ext : Ext w0 w
  base : w0.heap.size = B
theorem RR.extW {B : Nat} {w0 w w' : World} {A : Option Addr} {n c : Nat} {l : List Sg} (h : RR B w0 w A n c l) (he : Ext w w') : RR B w0 w' A n c l := ⟨h.own.ext he, h.len, h.few, h.ext.trans he, h.base⟩
theorem RR.push {B : Nat} {w0 w w9 : World} {A : Option Addr} {n c : Nat} {l : List Sg} {x : Sg} {v9 : Value} (h : RR B w0 w A n c l) (hn : n ≤ 4096) {w1 : World} (h1 : Ext w w1) (hO : OwnR sgR 34 B w9 v9 (l ++ [x])) (hg : w1.grownBy w9 (Value.slice A n c).ownBlock) : ∃ A9 c9, v9 = .slice A9 (n + 1) c9 ∧ RR B w0 w9 A9 (n + 1) c9 (l ++ [x]) := by
  obtain ⟨A9, c9, e9⟩ := hO.slice
  rw [show (l ++ [x]).length = n + 1 by rw [List.length_append, h.len]; rfl] at e9
  subst e9
  exact ⟨A9, c9, rfl, hO, by rw [List.length_append, h.len]; rfl, by omega, Keep.toExt (h.ext.trans h1) (Keep.grown hg) (fun k hk => by have := h.own.row k hk; have := h.base; omega), h.base⟩

theorem ref_any (A : Option Addr) (n c : Nat) (l : List Sg) (w : World) (hS : Sl sgR w (.slice A n c) l) (hn : n ≤ 4096) :
    Calls Tryd.prog 9 #[.slice A n c] w fun e w' => ∃ A' c', e = .returned (.slice A' n c') ∧ OwnR sgR 34 w.heap.size w' (.slice A' n c') l ∧ Ext w w' := by
  have HN := Lib.hid hS.len
  have S := Lib.hid hS
  obtain ⟨B, hB⟩ : ∃ B, w.heap.size = B := ⟨_, rfl⟩
  have HB := Lib.hid hB
  clear hS hB
  go_enter Tryd.func9, Tryd.ntmps9
  go_wp2
  go_loopw [3, 11] (fun t3 t11 wr => ∃ (i : Nat) (A3 : Option Addr) (c3 : Nat), i ≤ n ∧ t3 = .slice A3 i c3 ∧ t11 = .int .i64 (i : Int) ∧ Hid (RR B w wr A3 i c3 (l.take i))) (fun _ t11 _ => n - (intOf t11).toNat)
  case atStart => exact ⟨0, none, 0, by omega, rfl, rfl, Lib.hid ⟨OwnR.nil _ _ _ _, rfl, by omega, Ext.refl _, HB.out⟩⟩
  case round =>
    obtain ⟨i, A3, c3, hi, rfl, rfl, ST⟩ := hrel
    by_cases hlt : i < n
    · have hlt' : (i : Int) < (n : Int) := by omega
      obtain ⟨b, off, rfl, hb, hok, hc⟩ := (S.out.ext ST.out.ext).at hlt
      obtain ⟨s, hs⟩ : ∃ s, l.getD i sgR.no = s := ⟨_, rfl⟩
      rw [hs] at hc hok
      have TK : Hid (l.take (i + 1) = l.take i ++ [s]) := Lib.hid (by
        rw [List.take_succ_eq_append_getElem (by rw [← HN.out]; exact hlt), ← hs, List.getD_eq_getElem?_getD, List.getElem?_eq_getElem (by rw [← HN.out]; exact hlt)]; rfl)
      obtain ⟨⟨k, ⟨x0, y0⟩, ⟨x1, y1⟩, ⟨x2, y2⟩⟩, hs2⟩ : ∃ s', s = s' := ⟨_, rfl⟩
      subst hs2
      have g0 : wr.cell? ⟨b, off + i * 7, none⟩ = some (.int .i64 k) := hc 0 (by decide)
      have g1 : wr.cell? ⟨b, off + (i * 7 + 1), none⟩ = some (.int .i64 x0) := hc 1 (by decide)
      have g2 : wr.cell? ⟨b, off + (i * 7 + 2), none⟩ = some (.int .i64 y0) := hc 2 (by decide)
      have g3 : wr.cell? ⟨b, off + (i * 7 + 3), none⟩ = some (.int .i64 x1) := hc 3 (by decide)
      have g4 : wr.cell? ⟨b, off + (i * 7 + 4), none⟩ = some (.int .i64 y1) := hc 4 (by decide)
      have g5 : wr.cell? ⟨b, off + (i * 7 + 5), none⟩ = some (.int .i64 x2) := hc 5 (by decide)
      have g6 : wr.cell? ⟨b, off + (i * 7 + 6), none⟩ = some (.int .i64 y2) := hc 6 (by decide)
      obtain ⟨w3, hw3⟩ : ∃ w3, wr.alloc (.cells #[.int .i64 k, .int .i64 x0, .int .i64 y0, .int .i64 x1, .int .i64 y1, .int .i64 x2, .int .i64 y2] 42) = w3 := ⟨_, rfl⟩
      obtain ⟨q, hq⟩ : ∃ q, wr.heap.size = q := ⟨_, rfl⟩
      have hqb : w3.heap[q]? = some (.cells (sgA ⟨k, (x0, y0), (x1, y1), (x2, y2)⟩) 42 (0, 0)) := by rw [← hw3, ← hq]; exact heap_alloc_new wr _
      have E3 : Ext wr w3 := by rw [← hw3]; exact (Ext.refl _).alloc _
      have q3 : w3.heap.size = q + 1 := by rw [← hw3, ← hq]; simp [go_sem]
      have m0 : w3.cell? ⟨q, 0, none⟩ = some (.int .i64 k) := (heap_cell hqb 0).trans rfl
      have ml := heap_lt hqb
      have E4 : Ext w3 (w3.alloc (.cells #[.int .i64 k, .int .i64 0, .int .i64 0, .int .i64 0, .int .i64 0, .int .i64 0, .int .i64 0] 34)) := (Ext.refl _).alloc _
      have hpb : (w3.alloc (.cells #[.int .i64 k, .int .i64 0, .int .i64 0, .int .i64 0, .int .i64 0, .int .i64 0, .int .i64 0] 34)).heap[q + 1]? = some (.cells (sgA ⟨k, (0, 0), (0, 0), (0, 0)⟩) 34 (0, 0)) := by rw [← q3]; exact heap_alloc_new w3 _
      have hqb4 := E4.heapAt hqb
      have n1 : (w3.alloc (.cells #[.int .i64 k, .int .i64 0, .int .i64 0, .int .i64 0, .int .i64 0, .int .i64 0, .int .i64 0] 34)).cell? ⟨q, 1, none⟩ = some (.int .i64 x0) := (heap_cell hqb4 1).trans rfl
      have n2 : (w3.alloc (.cells #[.int .i64 k, .int .i64 0, .int .i64 0, .int .i64 0, .int .i64 0, .int .i64 0, .int .i64 0] 34)).cell? ⟨q, 2, none⟩ = some (.int .i64 y0) := (heap_cell hqb4 2).trans rfl
      have n3 : (w3.alloc (.cells #[.int .i64 k, .int .i64 0, .int .i64 0, .int .i64 0, .int .i64 0, .int .i64 0, .int .i64 0] 34)).cell? ⟨q, 3, none⟩ = some (.int .i64 x1) := (heap_cell hqb4 3).trans rfl
      have n4 : (w3.alloc (.cells #[.int .i64 k, .int .i64 0, .int .i64 0, .int .i64 0, .int .i64 0, .int .i64 0, .int .i64 0] 34)).cell? ⟨q, 4, none⟩ = some (.int .i64 y1) := (heap_cell hqb4 4).trans rfl
      have n5 : (w3.alloc (.cells #[.int .i64 k, .int .i64 0, .int .i64 0, .int .i64 0, .int .i64 0, .int .i64 0, .int .i64 0] 34)).cell? ⟨q, 5, none⟩ = some (.int .i64 x2) := (heap_cell hqb4 5).trans rfl
      have n6 : (w3.alloc (.cells #[.int .i64 k, .int .i64 0, .int .i64 0, .int .i64 0, .int .i64 0, .int .i64 0, .int .i64 0] 34)).cell? ⟨q, 6, none⟩ = some (.int .i64 y2) := (heap_cell hqb4 6).trans rfl
      have ml4 := heap_lt hqb4
      have W4 : Hid (RR B w (w3.alloc (.cells #[.int .i64 k, .int .i64 0, .int .i64 0, .int .i64 0, .int .i64 0, .int .i64 0, .int .i64 0] 34)) A3 i c3 (l.take i)) := Lib.hid (ST.out.extW (E3.trans E4))
      have NQ : Hid (∀ kk, (Value.slice A3 i c3).ownBlock = some kk → kk ≠ q + 1) := Lib.hid (fun kk hkk e => by
        have h1 := ST.out.own.lt kk (by cases A3 <;> exact hkk)
        omega)
      have HP := Lib.hid hpb
      have OKS := Lib.hid hok
      have BQ : Hid (B ≤ q) := Lib.hid (by have := ST.out.ext.size; have := HB.out; omega)
      have Q4 : Hid (q + 1 < (w3.alloc (.cells #[.int .i64 k, .int .i64 0, .int .i64 0, .int .i64 0, .int .i64 0, .int .i64 0, .int .i64 0] 34)).heap.size) := Lib.hid (heap_lt hpb)
      clear hc hs ST hqb hok E3 E4 hpb hqb4
      go_wp2_with fail
      obtain ⟨w4, hw4⟩ : ∃ w4, (w3.alloc (.cells #[.int .i64 k, .int .i64 0, .int .i64 0, .int .i64 0, .int .i64 0, .int .i64 0, .int .i64 0] 34)) = w4 := ⟨_, rfl⟩
      rw [hw4] at W4 HP Q4 ⊢
      clear hw4 n1 n2 n3 n4 n5 n6 ml4 m0 ml hw3 hq q3
      go_loopw [20] (fun t20 wr => ∃ j : Nat, j ≤ 3 ∧ t20 = .int .i64 (j : Int) ∧ Hid (wr.heap[q + 1]? = some (.cells (sgA (if j = 0 then ⟨k, (0, 0), (0, 0), (0, 0)⟩ else if j = 1 then ⟨k, (x0, y0), (0, 0), (0, 0)⟩ else if j = 2 then ⟨k, (x0, y0), (x1, y1), (0, 0)⟩ else ⟨k, (x0, y0), (x1, y1), (x2, y2)⟩)) 34 (0, 0)) ∧ Keep w4 wr (fun kk => kk = q + 1))) (fun t20 _ => 3 - (intOf t20).toNat)
      case atStart => exact ⟨0, by omega, rfl, Lib.hid ⟨HP.out, Keep.refl _ _⟩⟩
      case round =>
        obtain ⟨j, hj, rfl, ST2⟩ := hrel
        rcases (show j = 0 ∨ j = 1 ∨ j = 2 ∨ j = 3 by omega) with rfl | rfl | rfl | rfl
        · have hqj := ST2.out.1
          have s1 : wr.cell? ⟨q + 1, 1, none⟩ = some (.int .i64 0) := (heap_cell hqj 1).trans rfl
          have s2 : wr.cell? ⟨q + 1, 2, none⟩ = some (.int .i64 0) := (heap_cell hqj 2).trans rfl
          have sf : ∀ kk, wr.frozen? ⟨q + 1, kk, none⟩ = false := fun kk => heap_thaw hqj kk
          have sl := heap_lt hqj
          obtain ⟨w5, hw5⟩ : ∃ w5, wr.alloc (.cells #[.int .i64 x0, .int .i64 y0] 39) = w5 := ⟨_, rfl⟩
          have E5 : Ext wr w5 := by rw [← hw5]; exact (Ext.refl _).alloc _
          obtain ⟨p, hp⟩ : ∃ p, wr.heap.size = p := ⟨_, rfl⟩
          have hpb : w5.heap[p]? = some (.cells #[.int .i64 x0, .int .i64 y0] 39 (0, 0)) := by rw [← hw5, ← hp]; exact heap_alloc_new wr _
          have u0 : w5.cell? ⟨p, 0, none⟩ = some (.int .i64 x0) := (heap_cell hpb 0).trans rfl
          have u1 : w5.cell? ⟨p, 1, none⟩ = some (.int .i64 y0) := (heap_cell hpb 1).trans rfl
          have pl := heap_lt hpb
          have hq5 := E5.heapAt hqj
          have v1 : w5.cell? ⟨q + 1, 1, none⟩ = some (.int .i64 0) := (heap_cell hq5 1).trans rfl
          have v2 : w5.cell? ⟨q + 1, 2, none⟩ = some (.int .i64 0) := (heap_cell hq5 2).trans rfl
          have vf : ∀ kk, w5.frozen? ⟨q + 1, kk, none⟩ = false := fun kk => heap_thaw hq5 kk
          have vl := heap_lt hq5
          have NX : Hid (((w5.setCell ⟨q + 1, 1, none⟩ (.int .i64 x0)).setCell ⟨q + 1, 2, none⟩ (.int .i64 y0)).heap[q + 1]? = some (.cells (sgA ⟨k, (x0, y0), (0, 0), (0, 0)⟩) 34 (0, 0)) ∧ Keep w4 ((w5.setCell ⟨q + 1, 1, none⟩ (.int .i64 x0)).setCell ⟨q + 1, 2, none⟩ (.int .i64 y0)) (fun kk => kk = q + 1)) := Lib.hid
            ⟨by rw [heap_setCell_same _ (q + 1) 2 _ 34 _ (heap_setCell_same w5 (q + 1) 1 _ 34 _ hq5)]; rfl, (ST2.out.2.trans (Keep.ofExt E5 _) (fun _ _ x => x)).trans (Keep.setCell.trans Keep.setCell (fun _ _ x => x)) (fun _ _ x => x)⟩
          clear ST2 hqj hq5 hpb E5
          go_wp2
          go_roundw
          case rel => exact ⟨1, by omega, by go_num, by first | exact NX | (refine Lib.hid ?_; exact NX.out)⟩
          case measure => simp [intOf]
        · have hqj := ST2.out.1
          have s1 : wr.cell? ⟨q + 1, 3, none⟩ = some (.int .i64 0) := (heap_cell hqj 3).trans rfl
          have s2 : wr.cell? ⟨q + 1, 4, none⟩ = some (.int .i64 0) := (heap_cell hqj 4).trans rfl
          have sf : ∀ kk, wr.frozen? ⟨q + 1, kk, none⟩ = false := fun kk => heap_thaw hqj kk
          have sl := heap_lt hqj
          obtain ⟨w5, hw5⟩ : ∃ w5, wr.alloc (.cells #[.int .i64 x1, .int .i64 y1] 39) = w5 := ⟨_, rfl⟩
          have E5 : Ext wr w5 := by rw [← hw5]; exact (Ext.refl _).alloc _
          obtain ⟨p, hp⟩ : ∃ p, wr.heap.size = p := ⟨_, rfl⟩
          have hpb : w5.heap[p]? = some (.cells #[.int .i64 x1, .int .i64 y1] 39 (0, 0)) := by rw [← hw5, ← hp]; exact heap_alloc_new wr _
          have u0 : w5.cell? ⟨p, 0, none⟩ = some (.int .i64 x1) := (heap_cell hpb 0).trans rfl
          have u1 : w5.cell? ⟨p, 1, none⟩ = some (.int .i64 y1) := (heap_cell hpb 1).trans rfl
          have pl := heap_lt hpb
          have hq5 := E5.heapAt hqj
          have v1 : w5.cell? ⟨q + 1, 3, none⟩ = some (.int .i64 0) := (heap_cell hq5 3).trans rfl
          have v2 : w5.cell? ⟨q + 1, 4, none⟩ = some (.int .i64 0) := (heap_cell hq5 4).trans rfl
          have vf : ∀ kk, w5.frozen? ⟨q + 1, kk, none⟩ = false := fun kk => heap_thaw hq5 kk
          have vl := heap_lt hq5
          have NX : Hid (((w5.setCell ⟨q + 1, 3, none⟩ (.int .i64 x1)).setCell ⟨q + 1, 4, none⟩ (.int .i64 y1)).heap[q + 1]? = some (.cells (sgA ⟨k, (x0, y0), (x1, y1), (0, 0)⟩) 34 (0, 0)) ∧ Keep w4 ((w5.setCell ⟨q + 1, 3, none⟩ (.int .i64 x1)).setCell ⟨q + 1, 4, none⟩ (.int .i64 y1)) (fun kk => kk = q + 1)) := Lib.hid
            ⟨by rw [heap_setCell_same _ (q + 1) 4 _ 34 _ (heap_setCell_same w5 (q + 1) 3 _ 34 _ hq5)]; rfl, (ST2.out.2.trans (Keep.ofExt E5 _) (fun _ _ x => x)).trans (Keep.setCell.trans Keep.setCell (fun _ _ x => x)) (fun _ _ x => x)⟩
          clear ST2 hqj hq5 hpb E5
          go_wp2
          go_roundw
          case rel => exact ⟨2, by omega, by go_num, by first | exact NX | (refine Lib.hid ?_; exact NX.out)⟩
          case measure => simp [intOf]
        · have hqj := ST2.out.1
          have s1 : wr.cell? ⟨q + 1, 5, none⟩ = some (.int .i64 0) := (heap_cell hqj 5).trans rfl
          have s2 : wr.cell? ⟨q + 1, 6, none⟩ = some (.int .i64 0) := (heap_cell hqj 6).trans rfl
          have sf : ∀ kk, wr.frozen? ⟨q + 1, kk, none⟩ = false := fun kk => heap_thaw hqj kk
          have sl := heap_lt hqj
          obtain ⟨w5, hw5⟩ : ∃ w5, wr.alloc (.cells #[.int .i64 x2, .int .i64 y2] 39) = w5 := ⟨_, rfl⟩
          have E5 : Ext wr w5 := by rw [← hw5]; exact (Ext.refl _).alloc _
          obtain ⟨p, hp⟩ : ∃ p, wr.heap.size = p := ⟨_, rfl⟩
          have hpb : w5.heap[p]? = some (.cells #[.int .i64 x2, .int .i64 y2] 39 (0, 0)) := by rw [← hw5, ← hp]; exact heap_alloc_new wr _
          have u0 : w5.cell? ⟨p, 0, none⟩ = some (.int .i64 x2) := (heap_cell hpb 0).trans rfl
          have u1 : w5.cell? ⟨p, 1, none⟩ = some (.int .i64 y2) := (heap_cell hpb 1).trans rfl
          have pl := heap_lt hpb
          have hq5 := E5.heapAt hqj
          have v1 : w5.cell? ⟨q + 1, 5, none⟩ = some (.int .i64 0) := (heap_cell hq5 5).trans rfl
          have v2 : w5.cell? ⟨q + 1, 6, none⟩ = some (.int .i64 0) := (heap_cell hq5 6).trans rfl
          have vf : ∀ kk, w5.frozen? ⟨q + 1, kk, none⟩ = false := fun kk => heap_thaw hq5 kk
          have vl := heap_lt hq5
          have NX : Hid (((w5.setCell ⟨q + 1, 5, none⟩ (.int .i64 x2)).setCell ⟨q + 1, 6, none⟩ (.int .i64 y2)).heap[q + 1]? = some (.cells (sgA ⟨k, (x0, y0), (x1, y1), (x2, y2)⟩) 34 (0, 0)) ∧ Keep w4 ((w5.setCell ⟨q + 1, 5, none⟩ (.int .i64 x2)).setCell ⟨q + 1, 6, none⟩ (.int .i64 y2)) (fun kk => kk = q + 1)) := Lib.hid
            ⟨by rw [heap_setCell_same _ (q + 1) 6 _ 34 _ (heap_setCell_same w5 (q + 1) 5 _ 34 _ hq5)]; rfl, (ST2.out.2.trans (Keep.ofExt E5 _) (fun _ _ x => x)).trans (Keep.setCell.trans Keep.setCell (fun _ _ x => x)) (fun _ _ x => x)⟩
          clear ST2 hqj hq5 hpb E5
          go_wp2
          go_roundw
          case rel => exact ⟨3, by omega, by go_num, by first | exact NX | (refine Lib.hid ?_; exact NX.out)⟩
          case measure => simp [intOf]
        · have hqj := ST2.out.1
          have v0 : wr.cell? ⟨q + 1, 0, none⟩ = some (.int .i64 k) := (heap_cell hqj 0).trans rfl
          have v1 : wr.cell? ⟨q + 1, 1, none⟩ = some (.int .i64 x0) := (heap_cell hqj 1).trans rfl
          have v2 : wr.cell? ⟨q + 1, 2, none⟩ = some (.int .i64 y0) := (heap_cell hqj 2).trans rfl
          have v3 : wr.cell? ⟨q + 1, 3, none⟩ = some (.int .i64 x1) := (heap_cell hqj 3).trans rfl
          have v4 : wr.cell? ⟨q + 1, 4, none⟩ = some (.int .i64 y1) := (heap_cell hqj 4).trans rfl
          have v5 : wr.cell? ⟨q + 1, 5, none⟩ = some (.int .i64 x2) := (heap_cell hqj 5).trans rfl
          have v6 : wr.cell? ⟨q + 1, 6, none⟩ = some (.int .i64 y2) := (heap_cell hqj 6).trans rfl
          have vl := heap_lt hqj
          have W5 : Hid (RR B w wr A3 i c3 (l.take i)) := Lib.hid ⟨W4.out.own.keep ST2.out.2 (fun kk hkk e => NQ.out kk hkk e), W4.out.len, W4.out.few, Keep.toExt W4.out.ext ST2.out.2 (fun kk e => by have := BQ.out; have := HB.out; omega), W4.out.base⟩
          obtain ⟨w6, hw6⟩ : ∃ w6, wr.alloc (.cells #[.int .i64 k, .int .i64 x0, .int .i64 y0, .int .i64 x1, .int .i64 y1, .int .i64 x2, .int .i64 y2] 34) = w6 := ⟨_, rfl⟩
          have E6 : Ext wr w6 := by rw [← hw6]; exact (Ext.refl _).alloc _
          have X6 := Lib.hid E6
          obtain ⟨p, hp⟩ : ∃ p, wr.heap.size = p := ⟨_, rfl⟩
          have hpb : w6.heap[p]? = some (.cells (sgA ⟨k, (x0, y0), (x1, y1), (x2, y2)⟩) 34 (0, 0)) := by rw [← hw6, ← hp]; exact heap_alloc_new wr _
          have O := Lib.hid (W5.out.own.ext E6)
          have Y : Hid (Sl sgR w6 (.slice (some ⟨p, 0, none⟩) 1 1) [⟨k, (x0, y0), (x1, y1), (x2, y2)⟩]) := Lib.hid (sl_one (heap_lt hpb) OKS.out (fun j hj => by rw [heap_cell hpb j]; simp [sgA, sgR]))
          have Z : Hid ((l.take i).length + ([⟨k, (x0, y0), (x1, y1), (x2, y2)⟩] : List Sg).length ≤ 1000000) := Lib.hid (by rw [W5.out.len]; simp; omega)
          have BB : Hid (B ≤ w6.heap.size) := Lib.hid (by have := W5.out.ext.size; have := E6.size; have := HB.out; omega)
          clear ST2 hqj E6 hpb W4 HP
          go_wp2_with (at_builtin; refine wpList_rs rsgT rfl (.tmp 33) (.tmp 35) rfl rfl rfl O.out Y.out Z.out BB.out ?_)
          intro v9 w9 hO9 hg9 hown9
          obtain ⟨A9, c9, rfl, hW⟩ := W5.out.push (w9 := w9) (by omega) X6.out hO9 hg9
          have R : Hid (RR B w w9 A9 (i + 1) c9 (l.take (i + 1))) := Lib.hid (by rw [TK.out]; exact hW)
          clear hO9 hg9 hown9 hW W5 O Y Z BB X6
          go_wp2
          go_roundw
          case rel => exact ⟨i + 1, A9, c9, by omega, rfl, by go_num, R⟩
          case measure => simp [intOf]; omega
    · have hlt' : ¬ (i : Int) < (n : Int) := by omega
      obtain rfl : i = n := by omega
      have FIN : Hid (OwnR sgR 34 w.heap.size wr (.slice A3 i c3) l ∧ Ext w wr) := Lib.hid ⟨by
        have h := ST.out.own
        rw [List.take_of_length_le (by rw [← HN.out]; exact Nat.le_refl _)] at h
        rw [HB.out]; exact h, ST.out.ext⟩
      clear ST
      go_wp2
      go_ret
      exact ⟨_, _, rfl, FIN.out⟩
end Go.Proofs.YtakebbphielbfaaDoor
