import Derived.Test.YtakebbphielbfaaDoorRows
import Derived.Test.YtakebbphielbfaaDoorFlow
import Derived.Laws.AppendOwn
import Derived.Laws.OwnMore
import Derived.Maps.AppendAt
import Derived.Deep.Slices
import Derived.Deep.CutBlock
import Derived.Deep.DeepCutAuto
import Derived.Laws.IdiomStrings
import Derived.Lib.SlBytesConst
namespace Go.Proofs.YtakebbphielbfaaDoor
open Go.RowKit
set_option linter.unusedVariables false
set_option linter.unusedSimpArgs false

theorem Ext.cell {w w' : World} (h : Ext w w') {b i : Nat} (hb : b < w.heap.size) : w'.cell? ⟨b, i, none⟩ = w.cell? ⟨b, i, none⟩ := (below_of_ext h).cell (p := ⟨b, i, none⟩) hb
theorem Ext.frozen {w w' : World} (h : Ext w w') {b i : Nat} (hb : b < w.heap.size) : w'.frozen? ⟨b, i, none⟩ = w.frozen? ⟨b, i, none⟩ := (below_of_ext h).frozen (p := ⟨b, i, none⟩) hb
theorem Ext.grown {w0 w w' : World} {row : Option Nat} (h : Ext w0 w) (hg : w.grownBy w' row) (hrow : ∀ k, row = some k → w0.heap.size ≤ k) : Ext w0 w' := by
  have hb := below_of_ext h
  refine ext_of_below ⟨hg.os.trans hb.1, hg.tape.trans hb.2, hg.output.trans hb.3, Nat.le_trans hb.size hg.size, fun k hk => ?_⟩
  rw [hg.block k (Nat.lt_of_lt_of_le hk hb.size) (fun e => by have := hrow k e.symm; omega)]
  exact hb.5 k hk
theorem cell_marked (w : World) (C : Array Value) (t : TypeId) (fr : Nat × Nat) (i k : Nat) (hk : k = w.heap.size) : (w.alloc (.cells C t fr)).cell? ⟨k, i, none⟩ = C[i]? := by
  subst hk
  exact cell_of_row _ _ _ _ _ _ (heap_alloc_new w _)
theorem row_ext {B e size : Nat} {w w' : World} {v : Value} {n : Nat} {xs : List Value} (h : w.ownsRow B e size v n xs) (he : Ext w w') : w'.ownsRow B e size v n xs :=
  h.kept (row := none) ⟨(below_of_ext he).1, (below_of_ext he).2, (below_of_ext he).3, he.size, fun k hk _ => (below_of_ext he).5 k hk⟩ (by cases hv : Value.ownBlock _ <;> simp)
theorem own_slice {B e size : Nat} {W : World} {v : Value} {n : Nat} {xs : List Value} (h : W.ownsRow B e size v n xs) : ∃ A cap, v = .slice A n cap := by
  rcases h.2 with ⟨e, h0⟩ | ⟨_, _, _, e, _⟩
  · exact ⟨none, 0, by rw [e, h0]⟩
  · exact ⟨_, _, e⟩
theorem own_some {B e size : Nat} {W : World} {A : Option Addr} {n cap : Nat} {xs : List Value} (h : W.ownsRow B e size (.slice A n cap) n xs) (hn : 0 < n) : ∃ g, A = some ⟨g, 0, none⟩ := by
  rcases h.2 with ⟨_, h0⟩ | ⟨g, c, cur, e, _⟩
  · omega
  · simp only [Value.slice.injEq] at e
    exact ⟨g, e.1⟩
theorem row_mono {b b' e size : Nat} {w : World} {v : Value} {n : Nat} {xs : List Value} (h : w.ownsRow b e size v n xs) (hb : b' ≤ b) : w.ownsRow b' e size v n xs := by
  refine ⟨h.1, ?_⟩
  rcases h.2 with h | ⟨g, c, cur, e, hg, rest⟩
  · exact .inl h
  · exact .inr ⟨g, c, cur, e, Nat.le_trans hb hg, rest⟩
/-- what lies behind does not hang on what lies ahead -/
theorem row_swap {w1 w2 : World} {g : Junk} {B e size : Nat} {v : Value} {n : Nat} {xs : List Value} (h : (w1.ext g).ownsRow B e size v n xs) (hs : w1.heap.size = w2.heap.size) (hB : w1.heap.size ≤ B) : (w2.ext g).ownsRow B e size v n xs := by
  refine ⟨h.1, ?_⟩
  rcases h.2 with h | ⟨g', c, cur, e, hg, hh, rest⟩
  · exact .inl h
  · refine .inr ⟨g', c, cur, e, hg, ?_, rest⟩
    rw [← hh]
    simp only [World.ext]
    rw [Array.getElem?_append_right (by omega), Array.getElem?_append_right (by omega), hs]
theorem setCell_heap {w : World} {g i k : Nat} {v : Value} (h : k ≠ g) : (w.setCell ⟨g, i, none⟩ v).heap[k]? = w.heap[k]? := by
  simp only [World.setCell, Array.getElem?_modify]
  rw [if_neg (Ne.symm h)]
theorem row_set {B e size : Nat} {w : World} {v u : Value} {n : Nat} {xs : List Value} {g i : Nat} (h : w.ownsRow B e size v n xs) (hg : g < B) : (w.setCell ⟨g, i, none⟩ u).ownsRow B e size v n xs := by
  refine ⟨h.1, ?_⟩
  rcases h.2 with h | ⟨g', c, cur, e, hb', hh, rest⟩
  · exact .inl h
  · exact .inr ⟨g', c, cur, e, hb', by rw [setCell_heap (by omega)]; exact hh, rest⟩
theorem cell_grown {w w' : World} {row : Option Nat} (h : w.grownBy w' row) {g i : Nat} (hg : g < w.heap.size) (hn : row ≠ some g) : w'.cell? ⟨g, i, none⟩ = w.cell? ⟨g, i, none⟩ := by
  simp only [World.cell?, h.block g hg (Ne.symm hn)]
theorem frozen_grown {w w' : World} {row : Option Nat} (h : w.grownBy w' row) {g i : Nat} (hg : g < w.heap.size) (hn : row ≠ some g) : w'.frozen? ⟨g, i, none⟩ = w.frozen? ⟨g, i, none⟩ := by
  simp only [World.frozen?, h.block g hg (Ne.symm hn)]
theorem Ext.heapAt {W W' : World} (h : Ext W W') {k : Nat} {o : Obj} (hk : W.heap[k]? = some o) : W'.heap[k]? = some o :=
  ((below_of_ext h).5 k (Array.getElem?_eq_some_iff.1 hk).1).trans hk

structure Keep (w w' : World) (S : Nat → Prop) : Prop where
  os : w'.os = w.os
  tape : w'.tape = w.tape
  output : w'.output = w.output
  size : w.heap.size ≤ w'.heap.size
  block : ∀ k, k < w.heap.size → ¬ S k → w'.heap[k]? = w.heap[k]?

theorem Keep.refl (w : World) (S : Nat → Prop) : Keep w w S := ⟨rfl, rfl, rfl, Nat.le_refl _, fun _ _ _ => rfl⟩

theorem Keep.trans {a b c : World} {S T : Nat → Prop} (h : Keep a b S) (k : Keep b c T) (hS : ∀ x, x < a.heap.size → T x → S x) : Keep a c S :=
  ⟨k.os.trans h.os, k.tape.trans h.tape, k.output.trans h.output, Nat.le_trans h.size k.size, fun x hx hn => (k.block x (Nat.lt_of_lt_of_le hx h.size) (fun t => hn (hS x hx t))).trans (h.block x hx hn)⟩

theorem Keep.mono {a b : World} {S T : Nat → Prop} (h : Keep a b S) (hS : ∀ x, S x → T x) : Keep a b T := ⟨h.os, h.tape, h.output, h.size, fun x hx hn => h.block x hx (fun s => hn (hS x s))⟩

theorem Keep.grown {w w' : World} {row : Option Nat} (h : w.grownBy w' row) : Keep w w' (fun k => row = some k) :=
  ⟨h.os, h.tape, h.output, h.size, fun k hk hn => h.block k hk (fun e => hn e.symm)⟩

theorem Keep.ofExt {w w' : World} (h : Ext w w') (S : Nat → Prop) : Keep w w' S :=
  ⟨(below_of_ext h).1, (below_of_ext h).2, (below_of_ext h).3, h.size, fun k hk _ => (below_of_ext h).5 k hk⟩

theorem Keep.ext {w w' : World} {S : Nat → Prop} (h : Keep w w' S) (hS : ∀ k, k < w.heap.size → ¬ S k) : Ext w w' :=
  ext_of_below ⟨h.os, h.tape, h.output, h.size, fun k hk => h.block k hk (hS k hk)⟩

theorem Keep.toExt {w0 w w' : World} {S : Nat → Prop} (h0 : Ext w0 w) (h : Keep w w' S) (hS : ∀ k, S k → w0.heap.size ≤ k) : Ext w0 w' :=
  ((Keep.ofExt h0 (fun _ => False)).trans ⟨h.os, h.tape, h.output, h.size, h.block⟩ (T := S) (fun x hx t => absurd (hS x t) (by omega))).ext (fun _ _ h => h)

theorem Keep.setCell {w : World} {g i : Nat} {v : Value} : Keep w (w.setCell ⟨g, i, none⟩ v) (fun k => k = g) := by
  refine ⟨rfl, rfl, rfl, by simp [World.setCell], fun k hk hn => ?_⟩
  simp only [World.setCell, Array.getElem?_modify]
  rw [if_neg (fun e => hn e.symm)]

theorem Keep.cell {w w' : World} {S : Nat → Prop} (h : Keep w w' S) {g i : Nat} (hg : g < w.heap.size) (hn : ¬ S g) : w'.cell? ⟨g, i, none⟩ = w.cell? ⟨g, i, none⟩ := by
  simp only [World.cell?, h.block g hg hn]

theorem Keep.frozen {w w' : World} {S : Nat → Prop} (h : Keep w w' S) {g i : Nat} (hg : g < w.heap.size) (hn : ¬ S g) : w'.frozen? ⟨g, i, none⟩ = w.frozen? ⟨g, i, none⟩ := by
  simp only [World.frozen?, h.block g hg hn]

theorem row_keep {B e size : Nat} {w w' : World} {v : Value} {n : Nat} {xs : List Value} {S : Nat → Prop} (h : w.ownsRow B e size v n xs) (hk : Keep w w' S) (hS : ∀ k, v.ownBlock = some k → ¬ S k) : w'.ownsRow B e size v n xs := by
  refine ⟨h.1, ?_⟩
  rcases h.2 with hn | ⟨g, c, cur, e, hb, hg, rest⟩
  · exact .inl hn
  · refine .inr ⟨g, c, cur, e, hb, ?_, rest⟩
    rw [hk.block g (Array.getElem?_eq_some_iff.1 hg).1 (hS g (by rw [e]; rfl)), hg]
end Go.Proofs.YtakebbphielbfaaDoor
