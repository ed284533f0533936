import Derived.Test.YtakebbphielbfaaDoorQRw
import Derived.Test.YtakebbphielbfaaDoorQWl
import Derived.Deep.RegionLaw
namespace Go.Proofs.YtakebbphielbfaaDoor
open Go.RowKit
set_option linter.unusedVariables false
set_option linter.unusedSimpArgs false
set_option maxRecDepth 100000
set_option maxHeartbeats 6400000

theorem let_any (c : UInt8) (w : World) : Calls Tryd.prog 18 #[.int .u8 (c.toNat : Int)] w fun e w' => e = .returned (.bool (letB c)) ∧ Ext w w' := by
  obtain ⟨n, hn⟩ : ∃ n, c.toNat = n := ⟨_, rfl⟩
  have h : letB c = ((decide (65 ≤ n) && decide (n ≤ 90)) || (decide (97 ≤ n) && decide (n ≤ 122))) := by unfold letB; rw [hn]
  rw [hn, h]
  have e1 : (65 ≤ (n : Int)) ↔ 65 ≤ n := by omega
  have e2 : ((n : Int) ≤ 90) ↔ n ≤ 90 := by omega
  have e3 : (97 ≤ (n : Int)) ↔ 97 ≤ n := by omega
  have e4 : ((n : Int) ≤ 122) ↔ n ≤ 122 := by omega
  clear hn h
  by_cases h1 : 65 ≤ n <;> by_cases h2 : n ≤ 90 <;> by_cases h3 : 97 ≤ n <;> by_cases h4 : n ≤ 122 <;> first
    | (exfalso; omega)
    | (simp only [h1, h2, h3, h4, iff_true, iff_false] at e1 e2 e3 e4
       go_enter Tryd.func18, Tryd.ntmps18
       go_wp2
       go_ret
       exact ⟨by simp [h1, h2, h3, h4], Ext.refl _⟩)
theorem refLet_any (c : UInt8) (w : World) : Calls Tryd.prog 19 #[.int .u8 (c.toNat : Int)] w fun e w' => e = .returned (.bool (letB c)) ∧ Ext w w' := by
  obtain ⟨n, hn⟩ : ∃ n, c.toNat = n := ⟨_, rfl⟩
  have h : letB c = ((decide (65 ≤ n) && decide (n ≤ 90)) || (decide (97 ≤ n) && decide (n ≤ 122))) := by unfold letB; rw [hn]
  rw [hn, h]
  have e1 : (65 ≤ (n : Int)) ↔ 65 ≤ n := by omega
  have e2 : ((n : Int) ≤ 90) ↔ n ≤ 90 := by omega
  have e3 : (97 ≤ (n : Int)) ↔ 97 ≤ n := by omega
  have e4 : ((n : Int) ≤ 122) ↔ n ≤ 122 := by omega
  clear hn h
  by_cases h1 : 65 ≤ n <;> by_cases h2 : n ≤ 90 <;> by_cases h3 : 97 ≤ n <;> by_cases h4 : n ≤ 122 <;> first
    | (exfalso; omega)
    | (simp only [h1, h2, h3, h4, iff_true, iff_false] at e1 e2 e3 e4
       go_enter Tryd.func19, Tryd.ntmps19
       go_wp2
       go_ret
       exact ⟨by simp [h1, h2, h3, h4], Ext.refl _⟩)

structure WSt (B po pb ps : Nat) (w : World) (s : List UInt8) (b : Int) (l : List (List UInt8)) : Prop where
  v : ∃ v, w.heap[po]? = some (.cells #[v] 23 (0, 0)) ∧ OwnR strR 9 B w v l
  hb : w.heap[pb]? = some (.cells #[.int .i64 b] 3 (0, 0))
  hs : w.heap[ps]? = some (.cells #[.string (ba s)] 9 (0, 0))
  lo : po < B
  lb : pb < B
  ls : ps < B
  B : B ≤ w.heap.size
  ob : po ≠ pb
  os : po ≠ ps
  bs : pb ≠ ps

theorem heap_cell {w : World} {g : Nat} {C : Array Value} {t : TypeId} {f : Nat × Nat} (h : w.heap[g]? = some (.cells C t f)) (i : Nat) : w.cell? ⟨g, i, none⟩ = C[i]? := cell_of_row _ _ _ _ _ f h
theorem heap_thaw {w : World} {g : Nat} {C : Array Value} {t : TypeId} (h : w.heap[g]? = some (.cells C t (0, 0))) (i : Nat) : w.frozen? ⟨g, i, none⟩ = false := by simp [World.frozen?, h]
theorem heap_lt {w : World} {g : Nat} {o : Obj} (h : w.heap[g]? = some o) : g < w.heap.size := (Array.getElem?_eq_some_iff.1 h).1

theorem end_no {B po pb ps : Nat} {w : World} {s : List UInt8} {l : List (List UInt8)} (i : Nat) (h : WSt B po pb ps w s (-1) l) :
    Calls Tryd.prog 17 #[.int .i64 (i : Int), .pointer (some ⟨pb, 0, none⟩), .pointer (some ⟨po, 0, none⟩), .pointer (some ⟨ps, 0, none⟩)] w fun e w' => e = .returned (.tuple #[]) ∧ WSt B po pb ps w' s (-1) l ∧ Keep w w' (fun k => k = po ∨ k = pb ∨ B ≤ k) := by
  have c1 : w.cell? ⟨pb, 0, none⟩ = some (.int .i64 (-1)) := (heap_cell h.hb 0).trans rfl
  have f1 : w.frozen? ⟨pb, 0, none⟩ = false := heap_thaw h.hb 0
  have l1 := heap_lt h.hb
  have H := Lib.hid h
  clear h
  go_enter Tryd.func17, Tryd.ntmps17
  go_wp2
  refine bodyPost_end (results_none rfl _ _ _) rfl ?_
  refine ⟨rfl, ?_, Keep.setCell.mono (fun x hx => .inr (.inl hx))⟩
  obtain ⟨⟨v, hv, hO⟩, hb, hs, a1, a2, a3, a4, a5, a6, a7⟩ := H.out
  refine ⟨⟨v, by rw [setCell_heap (by omega)]; exact hv, hO.set a2⟩, ?_, by rw [setCell_heap (by omega)]; exact hs, a1, a2, a3, by simpa [World.setCell] using a4, a5, a6, a7⟩
  rw [heap_setCell_same w pb 0 _ 3 _ hb]; rfl

theorem end_yes {B po pb ps : Nat} {w : World} {s : List UInt8} {l : List (List UInt8)} (i b : Nat) (h : WSt B po pb ps w s (b : Int) l) (hb : b ≤ i) (hi : i ≤ s.length) (hs : s.length ≤ 100000) (hl : l.length ≤ 100000) :
    Calls Tryd.prog 17 #[.int .i64 (i : Int), .pointer (some ⟨pb, 0, none⟩), .pointer (some ⟨po, 0, none⟩), .pointer (some ⟨ps, 0, none⟩)] w fun e w' => e = .returned (.tuple #[]) ∧ WSt B po pb ps w' s (-1) (l ++ [(s.take i).drop b]) ∧ Keep w w' (fun k => k = po ∨ k = pb ∨ B ≤ k) := by
  obtain ⟨⟨v, hv, hO⟩, hbb, hss, a1, a2, a3, a4, a5, a6, a7⟩ := h
  obtain ⟨A0, cap0, rfl⟩ := hO.slice
  have c1 : w.cell? ⟨pb, 0, none⟩ = some (.int .i64 (b : Int)) := (heap_cell hbb 0).trans rfl
  have c2 : w.cell? ⟨po, 0, none⟩ = some (.slice A0 l.length cap0) := (heap_cell hv 0).trans rfl
  have c3 : w.cell? ⟨ps, 0, none⟩ = some (.string (ba s)) := (heap_cell hss 0).trans rfl
  have l1 := heap_lt hbb
  have l2 := heap_lt hv
  have l3 := heap_lt hss
  have sz : (ba s).size = s.length := ba_size s
  have EX := ba_sub s b i
  obtain ⟨X, hX⟩ : ∃ X, (s.take i).drop b = X := ⟨_, rfl⟩
  rw [hX] at EX ⊢
  have LX : Hid (X.length ≤ 100000) := Lib.hid (by rw [← hX]; simp; omega)
  have ZZ : Hid (l.length + ([X] : List (List UInt8)).length ≤ 1000000) := Lib.hid (by simp; omega)
  have HO := Lib.hid hO
  have H1 := Lib.hid (And.intro hv (And.intro hbb hss))
  have A4 := Lib.hid a4
  clear hv hbb hss hX hO a4
  go_enter Tryd.func17, Tryd.ntmps17
  go_wp2
  go_region_law (
    refine step_rs (base := B) (v := .slice A0 l.length cap0) (x := .slice (some ⟨w.heap.size, 0, none⟩) 1 1) (m := [X]) (l := l) strT rfl _ _ rfl (by simp [Act.eval, Act.put]) (by simp [Act.eval, Act.put]) (HO.out.ext (by (repeat (first | exact Ext.refl _ | apply Ext.drew' | apply Ext.alloc | apply Ext.ext)))) (sl_one (by simp) LX.out (by intro j hj; rcases j with _ | j <;> (first | (simp [go_sem, strR, EX]; done) | (exfalso; have : strR.n = 1 := rfl; omega)))) ZZ.out (by have := A4.out; simp [go_sem]; omega) ?_
    intro v9 w9 hO9 hg9 hown9
    obtain ⟨A9, c9, e9⟩ := hO9.slice
    rw [show (l ++ [X]).length = l.length + 1 by simp] at e9
    subst e9
    have K9 := Keep.grown hg9
    have nb : ∀ k, (Value.slice A0 l.length cap0).ownBlock = some k → B ≤ k := HO.out.row
    have q1 : w9.heap[po]? = some (.cells #[.slice A0 l.length cap0] 23 (0, 0)) := by
      rw [K9.block po (by simp [go_sem]; omega) (fun e => by have := nb po e; omega)]
      exact Ext.heapAt (W := w) (by (repeat (first | exact Ext.refl _ | apply Ext.drew' | apply Ext.alloc | apply Ext.ext))) H1.out.1
    have q2 : w9.heap[pb]? = some (.cells #[.int .i64 (b : Int)] 3 (0, 0)) := by
      rw [K9.block pb (by simp [go_sem]; omega) (fun e => by have := nb pb e; omega)]
      exact Ext.heapAt (W := w) (by (repeat (first | exact Ext.refl _ | apply Ext.drew' | apply Ext.alloc | apply Ext.ext))) H1.out.2.1
    have q3 : w9.heap[ps]? = some (.cells #[.string (ba s)] 9 (0, 0)) := by
      rw [K9.block ps (by simp [go_sem]; omega) (fun e => by have := nb ps e; omega)]
      exact Ext.heapAt (W := w) (by (repeat (first | exact Ext.refl _ | apply Ext.drew' | apply Ext.alloc | apply Ext.ext))) H1.out.2.2
    have KK : Keep w w9 (fun k => B ≤ k) := (Keep.ofExt (by (repeat (first | exact Ext.refl _ | apply Ext.drew' | apply Ext.alloc | apply Ext.ext))) (fun k => B ≤ k)).trans K9 (fun x _ e => nb x e)
    have d2 : w9.cell? ⟨po, 0, none⟩ = some (.slice A0 l.length cap0) := (heap_cell q1 0).trans rfl
    have f2 : w9.frozen? ⟨po, 0, none⟩ = false := heap_thaw q1 0
    have d3 : (w9.setCell ⟨po, 0, none⟩ (.slice A9 (l.length + 1) c9)).cell? ⟨pb, 0, none⟩ = some (.int .i64 (b : Int)) := by rw [World.cell?_setCell_other _ _ _ _ (by simp [Ne.symm a5, a5])]; exact (heap_cell q2 0).trans rfl
    have f3 : (w9.setCell ⟨po, 0, none⟩ (.slice A9 (l.length + 1) c9)).frozen? ⟨pb, 0, none⟩ = false := by rw [World.frozen?_setCell]; exact heap_thaw q2 0
    have m2 := heap_lt q1
    have m3 := heap_lt q2
    clear hg9 hown9 K9 nb)
  all_goals (
    have FIN : Hid (WSt B po pb ps ((w9.setCell ⟨po, 0, none⟩ (.slice A9 (l.length + 1) c9)).setCell ⟨pb, 0, none⟩ (.int .i64 (-1))) s (-1) (l ++ [X]) ∧ Keep w ((w9.setCell ⟨po, 0, none⟩ (.slice A9 (l.length + 1) c9)).setCell ⟨pb, 0, none⟩ (.int .i64 (-1))) (fun k => k = po ∨ k = pb ∨ B ≤ k)) := Lib.hid (by
      refine ⟨⟨⟨.slice A9 (l.length + 1) c9, ?_, (hO9.set a1).set a2⟩, ?_, ?_, a1, a2, a3, by have := KK.size; have := A4.out; simp [World.setCell]; omega, a5, a6, a7⟩, ((KK.mono (fun x hx => .inr (.inr hx))).trans (Keep.setCell.mono (fun x hx => .inl hx)) (fun _ _ x => x)).trans (Keep.setCell.mono (fun x hx => .inr (.inl hx))) (fun _ _ x => x)⟩
      · rw [setCell_heap a5, heap_setCell_same w9 po 0 _ 23 _ q1]; rfl
      · rw [heap_setCell_same _ pb 0 _ 3 _ (by rw [setCell_heap (Ne.symm a5)]; exact q2)]; rfl
      · rw [setCell_heap (Ne.symm a7), setCell_heap (Ne.symm a6)]; exact q3)
    clear hO9 q1 q2 q3 KK
    go_wp2
    refine bodyPost_end (results_none rfl _ _ _) rfl ?_
    exact ⟨rfl, FIN.out⟩)
end Go.Proofs.YtakebbphielbfaaDoor
