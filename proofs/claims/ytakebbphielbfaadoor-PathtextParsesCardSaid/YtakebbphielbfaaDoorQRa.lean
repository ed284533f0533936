import Derived.Test.YtakebbphielbfaaDoorQRn
namespace Go.Proofs.YtakebbphielbfaaDoor
open Go.RowKit
set_option linter.unusedVariables false
set_option linter.unusedSimpArgs false
set_option maxRecDepth 100000
set_option maxHeartbeats 6400000

def sgV (s : Sg) : Value := .agg #[.int .i64 s.k, .int .i64 s.a.1, .int .i64 s.a.2, .int .i64 s.b.1, .int .i64 s.b.2, .int .i64 s.c.1, .int .i64 s.c.2]

theorem RK.grow {b0 r T : Nat} {w w1 w9 : World} {ws : List (List UInt8)} {st : Rd} {s : Sg} {A9 : Option Addr} {c9 n : Nat} {v0 : Value} (h : RK b0 r T w ws st) (h1 : Ext w w1) (hv0 : ∃ A c, v0 = .slice A st.p.length c ∧ w.cell? ⟨r, 2, none⟩ = some v0)
    (hO : OwnR sgR 42 (r + 1) w9 (.slice A9 n c9) (st.p ++ [s])) (hn : n = st.p.length + 1) (hg : w1.grownBy w9 v0.ownBlock) :
    RK b0 r w9.heap.size (w9.setCell ⟨r, 2, none⟩ (.slice A9 n c9)) ws { st with p := st.p ++ [s] } ∧ Keep w (w9.setCell ⟨r, 2, none⟩ (.slice A9 n c9)) (fun k => r ≤ k) ∧ r < w9.heap.size ∧ (∀ k, w9.frozen? ⟨r, k, none⟩ = false) ∧ (∃ u, w9.cell? ⟨r, 2, none⟩ = some u) := by
  obtain ⟨⟨A, c, A', c', h2, h3, h4, h5, h6⟩, iv, r9, hb⟩ := h
  obtain ⟨A0, cc, rfl, hc⟩ := hv0
  have e : (Value.slice A0 st.p.length cc) = .slice A' st.p.length c' := by
    have := (heap_cell h2 2)
    rw [hc] at this
    simpa [rdC] using this
  rw [e] at hg hc
  have nb : ∀ k, (Value.slice A' st.p.length c').ownBlock = some k → r + 1 ≤ k := h5.row
  have K9 := Keep.grown hg
  have KA : Keep w w9 (fun k => r + 1 ≤ k) := (Keep.ofExt h1 _).trans K9 (fun x _ e => nb x e)
  have q : w9.heap[r]? = some (.cells (rdC (.slice A ws.length c) (.slice A' st.p.length c') st) 59 (0, 0)) := by
    rw [KA.block r (heap_lt h2) (by omega)]; exact h2
  have KS : Keep w9 (w9.setCell ⟨r, 2, none⟩ (.slice A9 n c9)) (fun k => k = r) := Keep.setCell
  have KT : Keep w (w9.setCell ⟨r, 2, none⟩ (.slice A9 n c9)) (fun k => r ≤ k) := (KA.mono (fun x hx => by omega)).trans (KS.mono (fun x e => by omega)) (fun _ _ x => x)
  refine ⟨⟨⟨A, c, A9, c9, ?_, h3.keep KT (fun k hk hr => by have := h4 k hk; omega), h4, ?_, fun k hk => hO.lt k (by cases A9 <;> exact hk)⟩, iv.keep KT (fun k hk hr => by omega), r9, hb⟩, KT, heap_lt q, fun k => heap_thaw q k, ⟨_, (heap_cell q 2).trans rfl⟩⟩
  · rw [heap_setCell_same w9 r 2 _ 59 _ q, hn]
    have e2 : (st.p ++ [s]).length = st.p.length + 1 := by simp
    dsimp only
    rw [e2]; rfl
  · have e2 : (st.p ++ [s]).length = n := by rw [hn]; simp
    dsimp only
    rw [e2]
    exact hO.set (by omega)

theorem add_any {b0 r T : Nat} {w : World} {ws : List (List UInt8)} {st : Rd} (h : RK b0 r T w ws st) (s : Sg) (hs : sgR.ok s) (hp : st.p.length ≤ 4000) :
    Calls Tryd.prog 37 #[.pointer (some ⟨r, 0, none⟩), sgV s] w fun e w' => e = .returned (.int .i64 0) ∧ RK b0 r w'.heap.size w' ws { st with p := st.p ++ [s] } ∧ Keep w w' (fun k => r ≤ k) := by
  have HP := Lib.hid hp
  have HS := Lib.hid hs
  have HH := Lib.hid h
  have H1 : Hid (RK b0 r T (w.alloc (.cells #[.int .i64 s.k, .int .i64 s.a.1, .int .i64 s.a.2, .int .i64 s.b.1, .int .i64 s.b.2, .int .i64 s.c.1, .int .i64 s.c.2] 42)) ws st) := Lib.hid (h.ext ((Ext.refl _).alloc _))
  obtain ⟨A, c, A', c', c0, c1, c2, c3, c4, c5, c6, fz, hsl, hO⟩ := H1.out.cells
  have V0 : Hid (∃ A c, Value.slice A' st.p.length c' = .slice A st.p.length c ∧ w.cell? ⟨r, 2, none⟩ = some (.slice A' st.p.length c')) := Lib.hid ⟨_, _, rfl, (Ext.cell ((Ext.refl w).alloc _) h.lt).symm.trans c2⟩
  have HR := h.lt
  obtain ⟨⟨k, ⟨x0, y0⟩, ⟨x1, y1⟩, ⟨x2, y2⟩⟩, hsg⟩ : ∃ s', s = s' := ⟨_, rfl⟩
  subst hsg
  unfold sgV
  dsimp only at *
  obtain ⟨n, hn⟩ : ∃ n, st.p.length = n := ⟨_, rfl⟩
  rw [hn] at c2 hp hO V0
  have HN := Lib.hid hn
  have hne : ((n : Int) == 4096) = false := by simp; omega
  have HO := Lib.hid hO
  have ZZ : Hid (st.p.length + ([⟨k, (x0, y0), (x1, y1), (x2, y2)⟩] : List Sg).length ≤ 1000000) := Lib.hid (by rw [hn]; simp; omega)
  obtain ⟨w1, hw1⟩ : ∃ w1, w.alloc (.cells #[.int .i64 k, .int .i64 x0, .int .i64 y0, .int .i64 x1, .int .i64 y1, .int .i64 x2, .int .i64 y2] 42) = w1 := ⟨_, rfl⟩
  have E1 : Hid (Ext w w1) := Lib.hid (by rw [← hw1]; exact (Ext.refl _).alloc _)
  obtain ⟨q, hq⟩ : ∃ q, w.heap.size = q := ⟨_, rfl⟩
  have hqb : w1.heap[q]? = some (.cells #[.int .i64 k, .int .i64 x0, .int .i64 y0, .int .i64 x1, .int .i64 y1, .int .i64 x2, .int .i64 y2] 42 (0, 0)) := by rw [← hw1, ← hq]; exact heap_alloc_new w _
  have g0 : w1.cell? ⟨q, 0, none⟩ = some (.int .i64 k) := (heap_cell hqb 0).trans rfl
  have g1 : w1.cell? ⟨q, 1, none⟩ = some (.int .i64 x0) := (heap_cell hqb 1).trans rfl
  have g2 : w1.cell? ⟨q, 2, none⟩ = some (.int .i64 y0) := (heap_cell hqb 2).trans rfl
  have g3 : w1.cell? ⟨q, 3, none⟩ = some (.int .i64 x1) := (heap_cell hqb 3).trans rfl
  have g4 : w1.cell? ⟨q, 4, none⟩ = some (.int .i64 y1) := (heap_cell hqb 4).trans rfl
  have g5 : w1.cell? ⟨q, 5, none⟩ = some (.int .i64 x2) := (heap_cell hqb 5).trans rfl
  have g6 : w1.cell? ⟨q, 6, none⟩ = some (.int .i64 y2) := (heap_cell hqb 6).trans rfl
  have hql := heap_lt hqb
  have RB : Hid (r + 1 ≤ q) := Lib.hid (by rw [← hq]; exact HR)
  have HR1 : r < w1.heap.size := by have := RB.out; omega
  rw [hw1] at c0 c1 c2 c3 c4 c5 c6 fz hsl HO
  clear h hs H1 c0 c1 c3 c4 c5 c6 hsl hO hqb hn
  go_enter Tryd.func37, Tryd.ntmps37
  go_wp2
  clear hw1 hq HR
  go_region_law (
    refine step_rs (base := r + 1) (v := .slice A' n c') (x := .slice (some ⟨w1.heap.size, 0, none⟩) 1 1) (m := [⟨k, (x0, y0), (x1, y1), (x2, y2)⟩]) (l := st.p) sgT rfl _ _ rfl (by simp [Act.eval, Act.put]) (by simp [Act.eval, Act.put]) (HO.out.ext (by (repeat (first | exact Ext.refl _ | apply Ext.drew' | apply Ext.alloc | apply Ext.ext)))) (sl_one (by simp) HS.out (by intro j hj; have : j < 7 := hj; rcases j with _ | _ | _ | _ | _ | _ | _ | j <;> (first | omega | (simp [go_sem, sgR]; done)))) ZZ.out (by have := RB.out; simp [go_sem]; omega) ?_
    intro v9 w9 hO9 hg9 hown9
    obtain ⟨A9, c9, e9⟩ := hO9.slice
    rw [show (st.p ++ [(⟨k, (x0, y0), (x1, y1), (x2, y2)⟩ : Sg)]).length = n + 1 by rw [List.length_append, HN.out]; rfl] at e9
    subst e9
    obtain ⟨FIN1, FIN2, FIN3, FIN4, ⟨u, FIN5⟩⟩ := HH.out.grow (E1.out.trans (by (repeat (first | exact Ext.refl _ | apply Ext.drew' | apply Ext.alloc | apply Ext.ext)))) (by rw [HN.out]; exact V0.out) hO9 (by rw [HN.out]) hg9
    have FZ := FIN4 2
    clear FIN4)
  all_goals (
    have FIN := Lib.hid (And.intro FIN1 FIN2)
    clear FIN1 FIN2 hO9 hg9 hown9 HH HO
    go_wp2
    go_ret
    exact ⟨rfl, FIN.out.1.top, FIN.out.2⟩)
end Go.Proofs.YtakebbphielbfaaDoor
