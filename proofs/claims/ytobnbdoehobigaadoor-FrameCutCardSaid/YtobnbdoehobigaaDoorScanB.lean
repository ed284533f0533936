import Derived.Test.YtobnbdoehobigaaDoorScanA
import Derived.Deep.RegionHeld3
namespace Go.Proofs.YtobnbdoehobigaaDoor
open Go.RowKit Go.Shelf
set_option linter.unusedVariables false
set_option linter.unusedSimpArgs false
attribute [local go_sem] Oper.semAt_some

/-- Scan between two records: its boxes (number, list, end, bytes), what it has -/
structure ScanAt (w W : World) (vb : Value) (b : List Nat) (seq0 : Int) (p : Nat) (sq : Int) (v : Value) (rs : List Rec) : Prop where
  ext : Ext w W
  hi : w.heap.size + 6 ≤ W.heap.size
  cs : W.cell? ⟨w.heap.size, 0, none⟩ = some (.int .i64 sq)
  fs : W.frozen? ⟨w.heap.size, 0, none⟩ = false
  cl : W.cell? ⟨w.heap.size + 1, 0, none⟩ = some v
  fl : W.frozen? ⟨w.heap.size + 1, 0, none⟩ = false
  ce : W.cell? ⟨w.heap.size + 2, 0, none⟩ = some (.int .i64 (p : Int))
  fe : W.frozen? ⟨w.heap.size + 2, 0, none⟩ = false
  cb : W.cell? ⟨w.heap.size + 3, 0, none⟩ = some vb
  recs : Recs (w.heap.size + 6) W v rs
  sqb : -9223372036854775808 ≤ sq ∧ sq ≤ 9223372036854775807
  len : 17 * rs.length ≤ p ∧ p ≤ b.length
  eqn : scanF (b.length + 1) b seq0 = (rs.map recPure ++ (scanF (b.length + 1 - rs.length) (b.drop p) sq).1, p + (scanF (b.length + 1 - rs.length) (b.drop p) sq).2)

theorem ScanAt.keep {w W W' : World} {vb : Value} {b : List Nat} {seq0 : Int} {p : Nat} {sq : Int} {v : Value} {rs : List Rec} {S : Nat → Prop} (h : ScanAt w W vb b seq0 p sq v rs) (hk : Keep W W' S)
    (hS : ∀ k, S k → k = w.heap.size + 4 ∨ k = w.heap.size + 5) : ScanAt w W' vb b seq0 p sq v rs := by
  have hi := h.hi
  have n0 : ¬ S (w.heap.size) := fun e => by have := hS _ e; omega
  have n1 : ¬ S (w.heap.size + 1) := fun e => by have := hS _ e; omega
  have n2 : ¬ S (w.heap.size + 2) := fun e => by have := hS _ e; omega
  have n3 : ¬ S (w.heap.size + 3) := fun e => by have := hS _ e; omega
  exact ⟨hk.toExt h.ext (fun k e => by have := hS k e; omega), by have := hk.size; omega, by rw [hk.cell (by omega) n0]; exact h.cs, by rw [hk.frozen (by omega) n0]; exact h.fs,
    by rw [hk.cell (by omega) n1]; exact h.cl, by rw [hk.frozen (by omega) n1]; exact h.fl, by rw [hk.cell (by omega) n2]; exact h.ce, by rw [hk.frozen (by omega) n2]; exact h.fe,
    by rw [hk.cell (by omega) n3]; exact h.cb, h.recs.keep hk (fun k hk2 e => by have := hS k e; omega), h.sqb, h.len, h.eqn⟩

theorem ScanAt.grow {w W W' : World} {vb : Value} {b : List Nat} {seq0 : Int} {p : Nat} {sq : Int} {v : Value} {rs : List Rec} (h : ScanAt w W vb b seq0 p sq v rs) (he : Ext W W') : ScanAt w W' vb b seq0 p sq v rs :=
  h.keep (Keep.ofExt he (fun _ => False)) (fun _ h => h.elim)

theorem Recs.mono {B B' : Nat} {W : World} {v : Value} {rs : List Rec} (h : Recs B W v rs) (hb : B' ≤ B) : Recs B' W v rs := by
  obtain ⟨⟨h1, h2⟩, h3⟩ := h
  refine ⟨⟨h1, ?_⟩, fun r hr => ?_⟩
  · rcases h2 with hn | ⟨g, c, cur, e, hb', rest⟩
    · exact .inl hn
    · exact .inr ⟨g, c, cur, e, by omega, rest⟩
  · obtain ⟨A, n, c, e, hB, ha⟩ := h3 r hr
    exact ⟨A, n, c, e, hB, fun a e => ⟨by have := (ha a e).1; omega, (ha a e).2⟩⟩

theorem Ext.heapAt {W W' : World} (h : Ext W W') {k : Nat} {o : Obj} (hk : W.heap[k]? = some o) : W'.heap[k]? = some o :=
  ((below_of_ext h).5 k (Array.getElem?_eq_some_iff.1 hk).1).trans hk

theorem scanF_stop {f : Nat} {b : List Nat} {sq : Int} {s k : Nat} {d : List Nat} (h : oneL b = some (s, k, d)) (hs : wrap64 (s : Int) < 0 ∨ wrap64 (s : Int) ≠ sq) : scanF f b sq = ([], 0) := by
  cases f with
  | zero => rfl
  | succ f => simp only [scanF, h]; rw [if_pos hs]
theorem scanF_none {f : Nat} {b : List Nat} {sq : Int} (h : oneL b = none) : scanF f b sq = ([], 0) := by
  cases f with
  | zero => rfl
  | succ f => simp only [scanF, h]
theorem scanF_next {f : Nat} {b : List Nat} {sq : Int} {s k : Nat} {d : List Nat} (h : oneL b = some (s, k, d)) (hs : ¬ (wrap64 (s : Int) < 0 ∨ wrap64 (s : Int) ≠ sq)) :
    scanF (f + 1) b sq = ((sq, k, d) :: (scanF f (b.drop (d.length + 17)) (wrap64 (sq + 1))).1, d.length + 17 + (scanF f (b.drop (d.length + 17)) (wrap64 (sq + 1))).2) := by
  simp only [scanF, h]; rw [if_neg hs]

theorem ScanAt.stop {w W : World} {vb : Value} {b : List Nat} {seq0 : Int} {p : Nat} {sq : Int} {v : Value} {rs : List Rec} (h : ScanAt w W vb b seq0 p sq v rs) (hs : ∀ f, scanF f (b.drop p) sq = ([], 0)) : scanF (b.length + 1) b seq0 = (rs.map recPure, p) := by
  rw [h.eqn, hs]; simp

theorem scan_boxes {w W1 W2 : World} {vb : Value} {b : List Nat} {seq0 : Int} {p : Nat} {sq : Int} {v : Value} {rs : List Rec} (h : ScanAt w W1 vb b seq0 p sq v rs) (hg : W1.grownBy W2 v.ownBlock) :
    W2.cell? ⟨w.heap.size, 0, none⟩ = some (.int .i64 sq) ∧ W2.frozen? ⟨w.heap.size, 0, none⟩ = false ∧ W2.cell? ⟨w.heap.size + 1, 0, none⟩ = some v ∧ W2.frozen? ⟨w.heap.size + 1, 0, none⟩ = false ∧ W2.cell? ⟨w.heap.size + 2, 0, none⟩ = some (.int .i64 (p : Int)) ∧ W2.frozen? ⟨w.heap.size + 2, 0, none⟩ = false := by
  have hi := h.hi
  have KG := Keep.grown hg
  have hrow : ∀ k, v.ownBlock = some k → w.heap.size + 6 ≤ k := fun k hk => (h.recs.1.lt k hk).1
  have n : ∀ i, i < 4 → ¬ (v.ownBlock = some (w.heap.size + i)) := fun i hi e => by have := hrow _ e; omega
  exact ⟨(KG.cell (by omega) (n 0 (by omega))).trans h.cs, (KG.frozen (by omega) (n 0 (by omega))).trans h.fs, (KG.cell (by omega) (n 1 (by omega))).trans h.cl, (KG.frozen (by omega) (n 1 (by omega))).trans h.fl, (KG.cell (by omega) (n 2 (by omega))).trans h.ce, (KG.frozen (by omega) (n 2 (by omega))).trans h.fe⟩

/-- a record more is kept -/
theorem ScanAt.next {w W0 W1 W2 : World} {vb : Value} {b : List Nat} {seq0 : Int} {p s k : Nat} {d : List Nat} {sq : Int} {v v' u : Value} {rs : List Rec} {S : Nat → Prop} (h : ScanAt w W0 vb b seq0 p sq v rs) (hk : Keep W0 W1 S) (hS : ∀ k, S k → k = w.heap.size + 4 ∨ k = w.heap.size + 5)
    (hg : W1.grownBy W2 v.ownBlock) (hR : Recs (w.heap.size + 6) W2 v' (rs ++ [(sq, k, u, d)])) (hone : oneL (b.drop p) = some (s, k, d)) (hq : wrap64 (s : Int) = sq) (h0 : 0 ≤ sq) (hl : d.length + 17 ≤ b.length - p) :
    ScanAt w (((W2.setCell ⟨w.heap.size + 1, 0, none⟩ v').setCell ⟨w.heap.size + 2, 0, none⟩ (.int .i64 ((p + (d.length + 17) : Nat) : Int))).setCell ⟨w.heap.size, 0, none⟩ (.int .i64 (wrap64 (sq + 1)))) vb b seq0 (p + (d.length + 17)) (wrap64 (sq + 1)) v' (rs ++ [(sq, k, u, d)]) := by
  have h1 := h.keep hk hS
  have hi := h1.hi
  have KG := Keep.grown hg
  have hrow : ∀ k, v.ownBlock = some k → w.heap.size + 6 ≤ k := fun k hk => (h1.recs.1.lt k hk).1
  have E2 : Ext w W2 := h1.ext.grown hg (fun k hk => by have := hrow k hk; omega)
  have n : ∀ i, i < 4 → ¬ (v.ownBlock = some (w.heap.size + i)) := fun i hi e => by have := hrow _ e; omega
  have c0 := KG.cell (g := w.heap.size) (i := 0) (by omega) (n 0 (by omega))
  have c1 := KG.cell (g := w.heap.size + 1) (i := 0) (by omega) (n 1 (by omega))
  have c2 := KG.cell (g := w.heap.size + 2) (i := 0) (by omega) (n 2 (by omega))
  have c3 := KG.cell (g := w.heap.size + 3) (i := 0) (by omega) (n 3 (by omega))
  have f0 := KG.frozen (g := w.heap.size) (i := 0) (by omega) (n 0 (by omega))
  have f1 := KG.frozen (g := w.heap.size + 1) (i := 0) (by omega) (n 1 (by omega))
  have f2 := KG.frozen (g := w.heap.size + 2) (i := 0) (by omega) (n 2 (by omega))
  rw [h1.cs] at c0
  rw [h1.cl] at c1
  rw [h1.ce] at c2
  rw [h1.cb] at c3
  rw [h1.fs] at f0
  rw [h1.fl] at f1
  rw [h1.fe] at f2
  have hsz := KG.size
  have hw : -9223372036854775808 ≤ wrap64 (sq + 1) ∧ wrap64 (sq + 1) ≤ 9223372036854775807 := by unfold wrap64; omega
  have hlen := h.len
  refine ⟨((E2.setCell (by simp) _).setCell (by simp) _).setCell (by simp) _, by simp [World.setCell]; omega, by simp [go_sem, c0], by simp [go_sem, f0], by simp [go_sem, c1], by simp [go_sem, f1], by simp [go_sem, c2], by simp [go_sem, f2], by simp [go_sem, c3],
    ((hR.keep Keep.setCell (fun k hk e => by omega)).keep Keep.setCell (fun k hk e => by omega)).keep Keep.setCell (fun k hk e => by omega), hw, ?_, ?_⟩
  · simp only [List.length_append, List.length_singleton]; omega
  · obtain ⟨f, hf⟩ : ∃ f, b.length + 1 - rs.length = f + 1 := ⟨b.length - rs.length, by omega⟩
    have hf2 : b.length + 1 - (rs ++ [(sq, k, u, d)]).length = f := by simp only [List.length_append, List.length_singleton]; omega
    rw [h.eqn, hf, hf2, scanF_next hone (by rw [hq]; omega), List.drop_drop]
    simp only [List.map_append, List.map_cons, List.map_nil, recPure, List.append_assoc, List.singleton_append]
    congr 1
    omega

set_option maxHeartbeats 1600000 in
theorem all_any (X : Option Addr) (N c : Nat) (w : World) : Calls Tryd.prog 32 #[.slice X N c] w fun e w' => e = .returned (.func (.func 35) #[] #[.pointer (some ⟨w.heap.size, 0, none⟩)]) ∧ w' = w.alloc (.cells #[.slice X N c] 22) := by
  go_enter Tryd.func32, Tryd.ntmps32
  go_wp2
  go_ret
  exact ⟨rfl, rfl⟩

set_option maxRecDepth 100000 in
set_option maxHeartbeats 6400000 in
theorem scan_any (v : Value) (b : List Nat) (seq : Int) (w : World) (hb : Bytes w v b) (hT : Tab w) (hl : b.length ≤ 1000000) (h1 : -9223372036854775808 ≤ seq) (h2 : seq ≤ 9223372036854775807) :
    Calls Tryd.prog 24 #[v, .int .i64 seq] w fun e w' => ∃ v' rs e', e = .returned (.tuple #[v', .int .i64 ((e' : Nat) : Int)]) ∧ Recs w.heap.size w' v' rs ∧ Ext w w' ∧ scanF (b.length + 1) b seq = (rs.map recPure, e') := by
  have B := Lib.hid hb
  have T := Lib.hid hT
  have HL := Lib.hid hl
  have HL0 := Lib.hid hl
  obtain ⟨X, c, rfl, _⟩ := hb
  obtain ⟨N, hN⟩ : ∃ N, b.length = N := ⟨_, rfl⟩
  rw [hN] at B
  rw [hN]
  have HN := Lib.hid hN
  clear hN
  refine (callsIn_wide (n := 7)).1 ?_
  refine callsIn_of_wp_marks Tryd.func24 rfl trivial ?_ rfl
  simp only [Tryd.ntmps24, List.size_toArray, List.length_cons, List.length_nil, Nat.reduceAdd, Nat.reduceSub, Array.replicate_succ, Array.replicate_zero, List.push_toArray, List.append_toArray, List.nil_append, List.cons_append]
  gi_wp2
  refine ⟨trivial, (callsIn_wide.2 (all_any X N c _)).mono ?_⟩
  rintro e w1 ⟨rfl, rfl⟩
  gi_wp2
  refine range_enter rfl (by decide) (gf := 35) (lb := #[.pointer (some ⟨w.heap.size + 3, 0, none⟩)]) rfl trivial (enters_of Tryd.func35 (by kernel_rfl) rfl) ?_
  intro fn hfn rec hrec
  have HR := Lib.hid hrec
  clear hrec
  simp only [World.size_alloc, Nat.add_assoc, Nat.reduceAdd]
  refine (all1_in (w.heap.size + 5) (w.heap.size + 3) (.slice X N c) b HL.out
    (fun p W => ∃ sq v rs, ScanAt w W (.slice X N c) b seq p sq v rs ∧ W.heap[w.heap.size + 5]? = some (.loop (rec .ready none)) ∧ W.heap[w.heap.size + 4]? = some (.deferred (some [])))
    (fun W => ∃ p sq v rs, ScanAt w W (.slice X N c) b seq p sq v rs ∧ scanF (b.length + 1) b seq = (rs.map recPure, p) ∧ W.heap[w.heap.size + 5]? = some (.loop (rec .done (some (.exit 0)))) ∧ W.heap[w.heap.size + 4]? = some (.deferred (some [])))
    ?hJ ?hE ?hY _ ?h0).mono ?after
  case hJ =>
    rintro p W ⟨sq, v, rs, hS, _, _⟩
    exact ⟨hS.cb, B.out.ext hS.ext, T.out.ext hS.ext⟩
  case hE =>
    rintro p W W' ⟨sq, v, rs, hS, h1, h2⟩ he
    exact ⟨sq, v, rs, hS.grow he, he.heapAt h1, he.heapAt h2⟩
  case h0 =>
    refine ⟨seq, .slice none 0 0, [], ⟨?_, by simp, by simp [go_sem], by simp [go_sem], by simp [go_sem], by simp [go_sem], by simp [go_sem], by simp [go_sem], by simp [go_sem], Recs.nil _ _, ⟨h1, h2⟩, by simp, by simp⟩, ?_, ?_⟩
    · (repeat (first | exact Ext.refl _ | apply Ext.alloc))
    · have h := World.alloc_heap_new (((((w.alloc (Obj.cells #[Value.int IntKind.i64 seq] 3)).alloc (Obj.cells #[Value.slice none 0 0] 50)).alloc (Obj.cells #[Value.int IntKind.i64 0] 3)).alloc (Obj.cells #[Value.slice X N c] 22)).alloc (.deferred (some []))) (.loop (rec .ready none))
      simpa using h
    · refine Ext.heapAt ((Ext.refl _).alloc _) ?_
      have h := World.alloc_heap_new ((((w.alloc (Obj.cells #[Value.int IntKind.i64 seq] 3)).alloc (Obj.cells #[Value.slice none 0 0] 50)).alloc (Obj.cells #[Value.int IntKind.i64 0] 3)).alloc (Obj.cells #[Value.slice X N c] 22)) (.deferred (some []))
      simpa using h
  case hY =>
    rintro p s k d A n cap W0 W ⟨sq, v, rs, hS0, hl0, hd0⟩ hx hfr hone hB
    have hS := hS0.grow hx
    have hl := hx.heapAt hl0
    have hd := hx.heapAt hd0
    obtain ⟨q, hq⟩ : ∃ q, wrap64 (s : Int) = q := ⟨_, rfl⟩
    rw [hq]
    have HQ := Lib.hid hq
    have HO := Lib.hid hone
    have HB := Lib.hid hB
    have HF := Lib.hid hfr
    have HX := Lib.hid hx
    have HS0 := Lib.hid hS0
    have HS := Lib.hid hS
    have HD := Lib.hid hd
    have hdl := one_len hone
    simp only [List.length_drop] at hdl
    have HDL := Lib.hid hdl
    refine yield_round rec HR.out trivial hl rfl ?_
    have HL := Lib.hid hl
    clear hq hone hB hfr hx hS hS0 hd hdl hl hl0 hd0
    gi_wp2
    refine ⟨((Ext.refl W).alloc _).heapAt HL.out, ?_⟩
    obtain ⟨W1, hW1⟩ : ∃ W1, World.putObj (W.alloc (Obj.cells #[Value.int IntKind.i64 q, Value.int IntKind.i64 ↑k, Value.slice A n cap] 46)) (w.heap.size + 5) (Obj.loop (rec LoopState.busy none)) = W1 := ⟨_, rfl⟩
    rw [hW1]
    have HK1 := Lib.hid (show Keep (W.alloc (Obj.cells #[Value.int IntKind.i64 q, Value.int IntKind.i64 ↑k, Value.slice A n cap] 46)) W1 (fun k => k = w.heap.size + 5) from hW1 ▸ Keep.putObj)
    have HS1 := Lib.hid ((HS.out.grow ((Ext.refl W).alloc (Obj.cells #[Value.int IntKind.i64 q, Value.int IntKind.i64 ↑k, Value.slice A n cap] 46))).keep HK1.out (fun k e => .inr e))
    have HL1 := Lib.hid (show W1.heap[w.heap.size + 5]? = some (.loop (rec .busy none)) from hW1 ▸ World.putObj_heap_same (by have := HS.out.hi; simp; omega))
    have HD1 := Lib.hid (show W1.heap[w.heap.size + 4]? = some (.deferred (some [])) from (HK1.out.block _ (by have := HS.out.hi; simp; omega) (by omega)).trans (((Ext.refl W).alloc _).heapAt HD.out))
    clear hW1
    have hg0 : W.heap.size ≠ w.heap.size + 5 := by have := HS.out.hi; omega
    have r0 : W1.cell? ⟨W.heap.size, 0, none⟩ = some (.int .i64 q) := by rw [HK1.out.cell (by simp) hg0]; simp [go_sem]
    have r1 : W1.cell? ⟨W.heap.size, 1, none⟩ = some (.int .i64 (k : Int)) := by rw [HK1.out.cell (by simp) hg0]; simp [go_sem]
    have r2 : W1.cell? ⟨W.heap.size, 2, none⟩ = some (.slice A n cap) := by rw [HK1.out.cell (by simp) hg0]; simp [go_sem]
    obtain ⟨g, hg⟩ : ∃ g, W.heap.size = g := ⟨_, rfl⟩
    rw [hg] at r0 r1 r2
    rw [hg]
    have hcs := HS1.out.cs
    have hcl := HS1.out.cl
    have hce := HS1.out.ce
    have hfs := HS1.out.fs
    have hfl := HS1.out.fl
    have hfe := HS1.out.fe
    clear hg0
    have HG := Lib.hid hg
    clear hg
    by_cases hneg : q < 0
    · gi_wp2
      refine ⟨HL1.out, .inr ⟨rfl, p, sq, v, rs, HS1.out.keep Keep.putObj (fun k e => .inr e), HS1.out.stop (fun f => scanF_stop HO.out (by rw [HQ.out]; omega)), World.putObj_heap_same (by have := HS1.out.hi; omega), (World.putObj_heap_other (by omega)).trans HD1.out⟩⟩
    · by_cases hqs : q = sq
      · have hq0 : 0 ≤ q := by omega
        have HQ0 := Lib.hid hq0
        subst hqs
        obtain ⟨Av, nv, cv, rfl⟩ : ∃ Av nv cv, v = .slice Av nv cv := by
          rcases HS1.out.recs.1.2 with ⟨e, _⟩ | ⟨_, _, _, e, _⟩
          · exact ⟨_, _, _, e⟩
          · exact ⟨_, _, _, e⟩
        have HE := Lib.hid ((Ext.refl W1).alloc (Obj.cells #[Value.int IntKind.i64 q, Value.int IntKind.i64 ↑k, Value.slice A n cap] 46))
        have KK := Lib.hid (show Keep W0 (W1.alloc (Obj.cells #[Value.int IntKind.i64 q, Value.int IntKind.i64 ↑k, Value.slice A n cap] 46)) (fun k => k = w.heap.size + 5) from
          (((Keep.ofExt (HX.out.alloc _) _).trans HK1.out (fun x _ h => h)).trans (Keep.ofExt HE.out _) (fun x _ h => h)))
        have KS : Hid (∀ k, w.heap.size + 6 ≤ k → ¬ k = w.heap.size + 5) := Lib.hid (fun k h => by omega)
        have HC : Hid (∀ j u, (recCells (q, k, .slice A n cap, d))[j]? = some u → (W1.alloc (Obj.cells #[Value.int IntKind.i64 q, Value.int IntKind.i64 ↑k, Value.slice A n cap] 46)).cell? ⟨W1.heap.size, j, none⟩ = some u) := Lib.hid (fun j u hj => by
          rw [cell_marked _ _ _ _ _ _ rfl, ← hj]; simp [recCells])
        have LEN : Hid (rs.length ≤ 1000000) := Lib.hid (by have := HS0.out.len; have := HL0.out; omega)
        have SZ := Lib.hid HS0.out.hi
        have DD : Hid (∃ A' n' c', (Value.slice A n cap) = .slice A' n' c' ∧ Bytes (W1.alloc (Obj.cells #[Value.int IntKind.i64 q, Value.int IntKind.i64 ↑k, Value.slice A n cap] 46)) (.slice A' n' c') d ∧ ∀ a, A' = some a → W0.heap.size ≤ a.block ∧ a.block < (W1.alloc (Obj.cells #[Value.int IntKind.i64 q, Value.int IntKind.i64 ↑k, Value.slice A n cap] 46)).heap.size) := Lib.hid
          ⟨A, n, cap, rfl, ((HB.out.ext ((Ext.refl W).alloc _)).keep HK1.out (fun a e h => by have := (HF.out a e).1; have := HS0.out.hi; omega)).ext HE.out, fun a e => ⟨(HF.out a e).1, by have := (HF.out a e).2; have := HK1.out.size; have := HE.out.size; simp at *; omega⟩⟩
        gi_wp2_with (gi_at_builtin; refine wpListIn_rec rfl (.tmp 21) (.tmp 23) rfl W1.heap.size (q, k, .slice A n cap, d) rfl rfl HS0.out.recs KK.out KS.out HC.out rfl LEN.out SZ.out DD.out ?_; intro A2 n2 c2 W2 hR hgr; have HR2 := Lib.hid hR; have HGR := Lib.hid hgr; clear hR hgr hcs hcl hce hfs hfl hfe; obtain ⟨hcs, hfs, hcl, hfl, hce, hfe⟩ := scan_boxes (HS1.out.grow HE.out) HGR.out)
        have e3 : ((p + (d.length + 17) : Nat) : Int) = (p : Int) + ((d.length : Int) + 17) := by omega
        have N3 := ScanAt.next HS0.out KK.out (fun k e => .inr e) HGR.out HR2.out HO.out HQ.out HQ0.out (by simpa using HDL.out)
        rw [e3] at N3
        have K3 := ((Keep.grown HGR.out).mono (T := fun k => w.heap.size + 6 ≤ k ∨ k ≤ w.heap.size + 2) (fun k hk => .inl ((HS1.out.recs.1.lt k hk).1))).trans (Keep.setCell (g := w.heap.size + 1) (i := 0) (v := .slice A2 n2 c2)) (fun k _ e => .inr (by omega)) |>.trans (Keep.setCell (g := w.heap.size + 2) (i := 0) (v := .int .i64 ((p : Int) + ((d.length : Int) + 17)))) (fun k _ e => .inr (by omega)) |>.trans (Keep.setCell (g := w.heap.size) (i := 0) (v := .int .i64 (wrap64 (q + 1)))) (fun k _ e => .inr (by omega))
        have hhi := HS1.out.hi
        have L3 := (K3.block (w.heap.size + 5) (by simp; omega) (by omega)).trans (HE.out.heapAt HL1.out)
        have D3 := (K3.block (w.heap.size + 4) (by simp; omega) (by omega)).trans (HE.out.heapAt HD1.out)
        refine ⟨L3, .inl ⟨rfl, ⟨_, _, _, N3.keep Keep.putObj (fun k e => .inr e)⟩, World.putObj_heap_same (by have := N3.hi; omega), (World.putObj_heap_other (by omega)).trans D3⟩⟩
      · gi_wp2
        refine ⟨HL1.out, .inr ⟨rfl, p, sq, v, rs, HS1.out.keep Keep.putObj (fun k e => .inr e), HS1.out.stop (fun f => scanF_stop HO.out (by rw [HQ.out]; omega)), World.putObj_heap_same (by have := HS1.out.hi; omega), (World.putObj_heap_other (by omega)).trans HD1.out⟩⟩
  case after =>
    have HRR := HR
    rintro e W ⟨⟨v0, rfl⟩, (⟨p, hp, hone, sq, v, rs, hS, hl, hd⟩ | ⟨p, sq, v, rs, hS, heq, hl, hd⟩)⟩
    · have HF := Lib.hid (show ScanAt w (W.putObj (w.heap.size + 5) (.loop (rec .exhausted none))) (.slice X N c) b seq p sq v rs ∧ scanF (b.length + 1) b seq = (rs.map recPure, p) ∧ (W.putObj (w.heap.size + 5) (.loop (rec .exhausted none))).heap[w.heap.size + 4]? = some (.deferred (some [])) from
        ⟨hS.keep Keep.putObj (fun k e => .inr e), hS.stop (fun f => scanF_none hone), (World.putObj_heap_other (by omega)).trans hd⟩)
      refine ⟨⟨_, rfl⟩, .inl ⟨hl, ?_⟩⟩
      obtain ⟨W5, hW5⟩ : ∃ W5, W.putObj (w.heap.size + 5) (.loop (rec .exhausted none)) = W5 := ⟨_, rfl⟩
      rw [hW5] at HF ⊢
      clear hW5 hS hl hd
      obtain ⟨Av, nv, cv, rfl⟩ : ∃ Av nv cv, v = .slice Av nv cv := by
        rcases HF.out.1.recs.1.2 with ⟨e, _⟩ | ⟨_, _, _, e, _⟩
        · exact ⟨_, _, _, e⟩
        · exact ⟨_, _, _, e⟩
      have hcl := HF.out.1.cl
      have hce := HF.out.1.ce
      have hfl := HF.out.1.fl
      have hfe := HF.out.1.fe
      gi_wp2
      rw [wpIn_wide]
      go_region_held3 (fun w' => w'.cell? ⟨w.heap.size + 1, 0, none⟩ = some (.slice Av nv cv) ∧ w'.cell? ⟨w.heap.size + 2, 0, none⟩ = some (.int .i64 (p : Int))) (first | (simp [go_sem, hcl, hce]; done) | go_keep) (fail)
      gi_wp2
      have K6 : Keep W5 (((W5.setCell ⟨w.heap.size + 1, 0, none⟩ (.slice Av nv cv)).setCell ⟨w.heap.size + 2, 0, none⟩ (.int .i64 (p : Int))).drew) (fun k => k = w.heap.size + 1 ∨ k = w.heap.size + 2) :=
        ((Keep.setCell.mono (fun k e => .inl e)).trans Keep.setCell (fun k _ e => .inr e)).trans (Keep.ofExt (Ext.drew _) (fun _ => False)) (fun k _ e => e.elim)
      have h1c : (((W5.setCell ⟨w.heap.size + 1, 0, none⟩ (.slice Av nv cv)).setCell ⟨w.heap.size + 2, 0, none⟩ (.int .i64 (p : Int))).drew).cell? ⟨w.heap.size + 1, 0, none⟩ = some (.slice Av nv cv) := by simp [go_sem, hcl]
      have h2c : (((W5.setCell ⟨w.heap.size + 1, 0, none⟩ (.slice Av nv cv)).setCell ⟨w.heap.size + 2, 0, none⟩ (.int .i64 (p : Int))).drew).cell? ⟨w.heap.size + 2, 0, none⟩ = some (.int .i64 (p : Int)) := by simp [go_sem, hce]
      generalize ((W5.setCell ⟨w.heap.size + 1, 0, none⟩ (.slice Av nv cv)).setCell ⟨w.heap.size + 2, 0, none⟩ (.int .i64 (p : Int))).drew = W6 at K6 h1c h2c ⊢
      have hhi := HF.out.1.hi
      have hK : W6.heap[w.heap.size + 4]? = some (.deferred (some [])) := (K6.block _ (by omega) (by omega)).trans HF.out.2.2
      refine ⟨by simp, .inl ⟨_, _, rfl, run_takeDeferred hK, ?_⟩⟩
      have K7 : Keep W6 (W6.putObj (w.heap.size + 4) (.deferred none)) (fun k => k = w.heap.size + 4) := Keep.putObj
      have hsz := K6.size
      have g1c := (K7.cell (g := w.heap.size + 1) (i := 0) (by omega) (by omega)).trans h1c
      have g2c := (K7.cell (g := w.heap.size + 2) (i := 0) (by omega) (by omega)).trans h2c
      have K8 := (K6.mono (T := fun k => w.heap.size ≤ k ∧ k < w.heap.size + 6) (fun k e => by omega)).trans K7 (fun k _ e => by omega)
      generalize W6.putObj (w.heap.size + 4) (.deferred none) = W7 at K7 K8 g1c g2c ⊢
      refine ⟨.tuple #[.slice Av nv cv, .int .i64 (p : Int)], by simp [results, Tryd.results24, go_sem, g1c, g2c], _, rs, p, rfl, ?_, K8.toExt HF.out.1.ext (fun k e => e.1), by rw [← HN.out]; exact HF.out.2.1⟩
      have hR := HF.out.1.recs.keep K8 (fun k hk e => by omega)
      exact hR.mono (by omega)
    · have HF := Lib.hid (show ScanAt w (W.putObj (w.heap.size + 5) (.loop (rec .exhausted (some (.exit 0))))) (.slice X N c) b seq p sq v rs ∧ scanF (b.length + 1) b seq = (rs.map recPure, p) ∧ (W.putObj (w.heap.size + 5) (.loop (rec .exhausted (some (.exit 0))))).heap[w.heap.size + 4]? = some (.deferred (some [])) from
        ⟨hS.keep Keep.putObj (fun k e => .inr e), heq, (World.putObj_heap_other (by omega)).trans hd⟩)
      refine ⟨⟨_, rfl⟩, .inr ⟨.exit 0, hl, ?_⟩⟩
      obtain ⟨W5, hW5⟩ : ∃ W5, W.putObj (w.heap.size + 5) (.loop (rec .exhausted (some (.exit 0)))) = W5 := ⟨_, rfl⟩
      rw [hW5] at HF ⊢
      clear hW5 hS hl hd
      obtain ⟨Av, nv, cv, rfl⟩ : ∃ Av nv cv, v = .slice Av nv cv := by
        rcases HF.out.1.recs.1.2 with ⟨e, _⟩ | ⟨_, _, _, e, _⟩
        · exact ⟨_, _, _, e⟩
        · exact ⟨_, _, _, e⟩
      have hcl := HF.out.1.cl
      have hce := HF.out.1.ce
      have hfl := HF.out.1.fl
      have hfe := HF.out.1.fe
      gi_wp2
      rw [wpIn_wide]
      go_region_held3 (fun w' => w'.cell? ⟨w.heap.size + 1, 0, none⟩ = some (.slice Av nv cv) ∧ w'.cell? ⟨w.heap.size + 2, 0, none⟩ = some (.int .i64 (p : Int))) (first | (simp [go_sem, hcl, hce]; done) | go_keep) (fail)
      gi_wp2
      have K6 : Keep W5 (((W5.setCell ⟨w.heap.size + 1, 0, none⟩ (.slice Av nv cv)).setCell ⟨w.heap.size + 2, 0, none⟩ (.int .i64 (p : Int))).drew) (fun k => k = w.heap.size + 1 ∨ k = w.heap.size + 2) :=
        ((Keep.setCell.mono (fun k e => .inl e)).trans Keep.setCell (fun k _ e => .inr e)).trans (Keep.ofExt (Ext.drew _) (fun _ => False)) (fun k _ e => e.elim)
      have h1c : (((W5.setCell ⟨w.heap.size + 1, 0, none⟩ (.slice Av nv cv)).setCell ⟨w.heap.size + 2, 0, none⟩ (.int .i64 (p : Int))).drew).cell? ⟨w.heap.size + 1, 0, none⟩ = some (.slice Av nv cv) := by simp [go_sem, hcl]
      have h2c : (((W5.setCell ⟨w.heap.size + 1, 0, none⟩ (.slice Av nv cv)).setCell ⟨w.heap.size + 2, 0, none⟩ (.int .i64 (p : Int))).drew).cell? ⟨w.heap.size + 2, 0, none⟩ = some (.int .i64 (p : Int)) := by simp [go_sem, hce]
      generalize ((W5.setCell ⟨w.heap.size + 1, 0, none⟩ (.slice Av nv cv)).setCell ⟨w.heap.size + 2, 0, none⟩ (.int .i64 (p : Int))).drew = W6 at K6 h1c h2c ⊢
      have hhi := HF.out.1.hi
      have hK : W6.heap[w.heap.size + 4]? = some (.deferred (some [])) := (K6.block _ (by omega) (by omega)).trans HF.out.2.2
      refine ⟨by simp, .inl ⟨_, _, rfl, run_takeDeferred hK, ?_⟩⟩
      have K7 : Keep W6 (W6.putObj (w.heap.size + 4) (.deferred none)) (fun k => k = w.heap.size + 4) := Keep.putObj
      have hsz := K6.size
      have g1c := (K7.cell (g := w.heap.size + 1) (i := 0) (by omega) (by omega)).trans h1c
      have g2c := (K7.cell (g := w.heap.size + 2) (i := 0) (by omega) (by omega)).trans h2c
      have K8 := (K6.mono (T := fun k => w.heap.size ≤ k ∧ k < w.heap.size + 6) (fun k e => by omega)).trans K7 (fun k _ e => by omega)
      generalize W6.putObj (w.heap.size + 4) (.deferred none) = W7 at K7 K8 g1c g2c ⊢
      refine ⟨.tuple #[.slice Av nv cv, .int .i64 (p : Int)], by simp [results, Tryd.results24, go_sem, g1c, g2c], _, rs, p, rfl, ?_, K8.toExt HF.out.1.ext (fun k e => e.1), by rw [← HN.out]; exact HF.out.2.1⟩
      have hR := HF.out.1.recs.keep K8 (fun k hk e => by omega)
      exact hR.mono (by omega)

end Go.Proofs.YtobnbdoehobigaaDoor
