import Derived.Test.YtbpdjekibcbaaaaRows
import Derived.Test.YtbpdjekibcbaaaaFlow
import Derived.Laws.AppendOwn
import Derived.Laws.OwnMore
import Derived.Maps.AppendAt
import Derived.Deep.Slices
import Derived.Deep.CutBlock
import Derived.Deep.DeepCutAuto
import Derived.Laws.IdiomStrings
import Derived.Lib.SlBytesConst
namespace Go.Proofs.Ytbpdjekibcbaaaa
open Go.RowKit
set_option linter.unusedVariables false
set_option linter.unusedSimpArgs false

theorem Ext.cell {w w' : World} (h : Ext w w') {b i : Nat} (hb : b < w.heap.size) : w'.cell? ⟨b, i, none⟩ = w.cell? ⟨b, i, none⟩ := (below_of_ext h).cell (p := ⟨b, i, none⟩) hb
theorem Ext.frozen {w w' : World} (h : Ext w w') {b i : Nat} (hb : b < w.heap.size) : w'.frozen? ⟨b, i, none⟩ = w.frozen? ⟨b, i, none⟩ := (below_of_ext h).frozen (p := ⟨b, i, none⟩) hb
theorem Ext.grown {w0 w w' : World} {row : Option Nat} (h : Ext w0 w) (hg : w.grownBy w' row) (hrow : ∀ k, row = some k → w0.heap.size ≤ k) : Ext w0 w' := by
  have hb := below_of_ext h
  refine ext_of_below ⟨hg.os.trans hb.1, hg.tape.trans hb.2, hg.output.trans hb.3, Nat.le_trans hb.size hg.size, fun k hk => ?_⟩
  rw [hg.block k (Nat.lt_of_lt_of_le hk hb.size) (fun e => by have := hrow k e.symm; omega)]
  exact hb.5 k hk
theorem cell_marked (w : World) (C : Array Value) (t : TypeId) (fr : Nat × Nat) (i k : Nat) (hk : k = w.heap.size) : (w.alloc (.cells C t fr)).cell? ⟨k, i, none⟩ = C[i]? := by
  subst hk
  exact cell_of_row _ _ _ _ _ _ (heap_alloc_new w _)
theorem row_ext {B e size : Nat} {w w' : World} {v : Value} {n : Nat} {xs : List Value} (h : w.ownsRow B e size v n xs) (he : Ext w w') : w'.ownsRow B e size v n xs :=
  h.kept (row := none) ⟨(below_of_ext he).1, (below_of_ext he).2, (below_of_ext he).3, he.size, fun k hk _ => (below_of_ext he).5 k hk⟩ (by cases hv : Value.ownBlock _ <;> simp)
theorem own_slice {B e size : Nat} {W : World} {v : Value} {n : Nat} {xs : List Value} (h : W.ownsRow B e size v n xs) : ∃ A cap, v = .slice A n cap := by
  rcases h.2 with ⟨e, h0⟩ | ⟨_, _, _, e, _⟩
  · exact ⟨none, 0, by rw [e, h0]⟩
  · exact ⟨_, _, e⟩
theorem own_some {B e size : Nat} {W : World} {A : Option Addr} {n cap : Nat} {xs : List Value} (h : W.ownsRow B e size (.slice A n cap) n xs) (hn : 0 < n) : ∃ g, A = some ⟨g, 0, none⟩ := by
  rcases h.2 with ⟨_, h0⟩ | ⟨g, c, cur, e, _⟩
  · omega
  · simp only [Value.slice.injEq] at e
    exact ⟨g, e.1⟩
theorem row_mono {b b' e size : Nat} {w : World} {v : Value} {n : Nat} {xs : List Value} (h : w.ownsRow b e size v n xs) (hb : b' ≤ b) : w.ownsRow b' e size v n xs := by
  refine ⟨h.1, ?_⟩
  rcases h.2 with h | ⟨g, c, cur, e, hg, rest⟩
  · exact .inl h
  · exact .inr ⟨g, c, cur, e, Nat.le_trans hb hg, rest⟩
/-- what lies behind does not hang on what lies ahead -/
theorem row_swap {w1 w2 : World} {g : Junk} {B e size : Nat} {v : Value} {n : Nat} {xs : List Value} (h : (w1.ext g).ownsRow B e size v n xs) (hs : w1.heap.size = w2.heap.size) (hB : w1.heap.size ≤ B) : (w2.ext g).ownsRow B e size v n xs := by
  refine ⟨h.1, ?_⟩
  rcases h.2 with h | ⟨g', c, cur, e, hg, hh, rest⟩
  · exact .inl h
  · refine .inr ⟨g', c, cur, e, hg, ?_, rest⟩
    rw [← hh]
    simp only [World.ext]
    rw [Array.getElem?_append_right (by omega), Array.getElem?_append_right (by omega), hs]
theorem setCell_heap {w : World} {g i k : Nat} {v : Value} (h : k ≠ g) : (w.setCell ⟨g, i, none⟩ v).heap[k]? = w.heap[k]? := by
  simp only [World.setCell, Array.getElem?_modify]
  rw [if_neg (Ne.symm h)]
theorem row_set {B e size : Nat} {w : World} {v u : Value} {n : Nat} {xs : List Value} {g i : Nat} (h : w.ownsRow B e size v n xs) (hg : g < B) : (w.setCell ⟨g, i, none⟩ u).ownsRow B e size v n xs := by
  refine ⟨h.1, ?_⟩
  rcases h.2 with h | ⟨g', c, cur, e, hb', hh, rest⟩
  · exact .inl h
  · exact .inr ⟨g', c, cur, e, hb', by rw [setCell_heap (by omega)]; exact hh, rest⟩
theorem cell_grown {w w' : World} {row : Option Nat} (h : w.grownBy w' row) {g i : Nat} (hg : g < w.heap.size) (hn : row ≠ some g) : w'.cell? ⟨g, i, none⟩ = w.cell? ⟨g, i, none⟩ := by
  simp only [World.cell?, h.block g hg (Ne.symm hn)]
theorem frozen_grown {w w' : World} {row : Option Nat} (h : w.grownBy w' row) {g i : Nat} (hg : g < w.heap.size) (hn : row ≠ some g) : w'.frozen? ⟨g, i, none⟩ = w.frozen? ⟨g, i, none⟩ := by
  simp only [World.frozen?, h.block g hg (Ne.symm hn)]
theorem Ext.heapAt {W W' : World} (h : Ext W W') {k : Nat} {o : Obj} (hk : W.heap[k]? = some o) : W'.heap[k]? = some o :=
  ((below_of_ext h).5 k (Array.getElem?_eq_some_iff.1 hk).1).trans hk

/-- a slice of bytes, in memory -/
def Bytes (w : World) (v : Value) (l : List Nat) : Prop :=
  ∃ (A : Option Addr) (cap : Nat), v = .slice A l.length cap ∧ l.length ≤ cap ∧ cap ≤ 9223372036854775807 ∧ (A = none → cap = 0) ∧ (∀ i, l.getD i 0 < 256) ∧
    (0 < l.length → ∃ b off, A = some ⟨b, off, none⟩ ∧ b < w.heap.size ∧ ∀ i, i < l.length → w.cell? ⟨b, off + i, none⟩ = some (.int .u8 ((l.getD i 0 : Nat) : Int)))

theorem Bytes.ext {w w' : World} {v : Value} {l : List Nat} (h : Bytes w v l) (he : Ext w w') : Bytes w' v l := by
  obtain ⟨A, cap, h1, h2, h3, h4, h5, h6⟩ := h
  refine ⟨A, cap, h1, h2, h3, h4, h5, fun hn => ?_⟩
  obtain ⟨b, off, e1, e2, e3⟩ := h6 hn
  exact ⟨b, off, e1, Nat.lt_of_lt_of_le e2 he.size, fun i hi => by rw [he.cell e2]; exact e3 i hi⟩

def byteV (x : Nat) : Value := .int .u8 (x : Int)

/-- a slice of the call's own: its n bytes lie at the head of a block that is new -/
def Own (base : Nat) (w : World) (A : Option Addr) (n cap : Nat) (l : List Nat) : Prop :=
  n = l.length ∧ w.ownsRow base 5 1 (.slice A n cap) n (l.map byteV) ∧ ∀ i, l.getD i 0 < 256

theorem Own.bytes {base : Nat} {w : World} {A : Option Addr} {n cap : Nat} {l : List Nat} (h : Own base w A n cap l) : Bytes w (.slice A n cap) l := by
  obtain ⟨rfl, h, hb⟩ := h
  have hh := h
  rcases h.2 with ⟨h', h0⟩ | ⟨g, cap', cur, h', _, hg, hn, hm, hs, htake⟩
  · simp only [Value.slice.injEq] at h'
    obtain ⟨rfl, h1, rfl⟩ := h'
    exact ⟨none, 0, rfl, by omega, by omega, fun _ => rfl, hb, fun h => by omega⟩
  · simp only [Value.slice.injEq, true_and] at h'
    obtain ⟨rfl, rfl⟩ := h'
    refine ⟨_, cap, rfl, hn, hm, (fun h => by cases h), hb, fun _ => ⟨g, 0, rfl, (Array.getElem?_eq_some_iff.1 hg).1, fun i hi => ?_⟩⟩
    rw [Nat.zero_add, hh.cellAt i (by simpa using hi), List.getElem?_map, List.getD_eq_getElem?_getD, List.getElem?_eq_getElem hi]
    rfl

theorem own_of_row {base : Nat} {w : World} {v : Value} {n : Nat} {l : List Nat} (hn : n = l.length) (h : w.ownsRow base 5 1 v n (l.map byteV)) (hb : ∀ i, l.getD i 0 < 256) :
    ∃ A cap, v = .slice A n cap ∧ Own base w A n cap l := by
  rcases h.2 with ⟨rfl, h0⟩ | ⟨g, cap, cur, rfl, _⟩
  · subst h0; exact ⟨none, 0, rfl, hn, h, hb⟩
  · exact ⟨_, cap, rfl, hn, h, hb⟩

theorem infoU8 : (Try.prog.info? 5).map (fun i => (i.zero, i.size, i.bytes)) = some (some (.int .u8 0), 1, 1) := by kernel_rfl

theorem getD_append_lt {l m : List Nat} (hl : ∀ i, l.getD i 0 < 256) (hm : ∀ i, m.getD i 0 < 256) (i : Nat) : (l ++ m).getD i 0 < 256 := by
  rw [List.getD_eq_getElem?_getD, List.getElem?_append]
  split
  · have := hl i; rwa [List.getD_eq_getElem?_getD] at this
  · have := hm (i - l.length); rwa [List.getD_eq_getElem?_getD] at this

theorem run_app {base : Nat} {w : World} {A : Option Addr} {n cap : Nat} {l m : List Nat} {x : Value} (ty : TypeId) (hv : Own base w A n cap l) (hx : Bytes w x m) (hlen : l.length + m.length ≤ 70368744177664) (hbase : base ≤ w.heap.size) :
    ∃ A' n' cap' w', (Builtin.append_ #[24, 24] ty #[.slice A n cap, x]).run Try.prog w = .ok (.slice A' n' cap') w' ∧ Own base w' A' n' cap' (l ++ m) ∧ w.grownBy w' (Value.ownBlock (.slice A n cap)) := by
  obtain ⟨hn, hv, hb⟩ := hv
  obtain ⟨X, c, rfl, h2, h3, h4, h5, h6⟩ := hx
  obtain ⟨i0, hi, hz0, hz1, hz2⟩ := info_parts infoU8
  cases X with
  | none =>
    have hc := h4 rfl
    subst hc
    have hm : m = [] := List.eq_nil_of_length_eq_zero (by omega)
    subst hm
    have hr := run_append_owned_none (P := Try.prog) (w := w) base 24 ty 5 i0 1 Try.underlying24 hi _ n _ hv
    exact ⟨A, n, cap, w, hr, ⟨by simpa using hn, by simpa using hv, by simpa using hb⟩, ⟨rfl, rfl, rfl, Nat.le_refl _, fun _ _ _ => rfl⟩⟩
  | some a =>
    have hcells : ∀ j u, (m.map byteV)[j]? = some u → w.cell? (a.add j) = some u := by
      intro j u hj
      have hj1 : j < m.length := by have := (List.getElem?_eq_some_iff.1 hj).1; simpa using this
      obtain ⟨b, off, e1, e2, e3⟩ := h6 (by omega)
      simp only [Option.some.injEq] at e1
      subst e1
      have e4 := e3 j hj1
      rw [show (⟨b, off, none⟩ : Addr).add j = ⟨b, off + j, none⟩ by unfold Addr.add; split <;> simp_all]
      rw [e4, ← hj, List.getElem?_map, List.getD_eq_getElem?_getD, List.getElem?_eq_getElem hj1]
      rfl
    obtain ⟨v', w', hr, ho, hg, _⟩ := run_append_own (P := Try.prog) w base 24 ty 5 i0 (.int .u8 0) 1 1 Try.underlying24 hi hz0 hz1 hz2 rfl (by decide) _ n _ hv a m.length c (m.map byteV) (by simp) hcells
      (by intro u hu; obtain ⟨y, _, rfl⟩ := List.mem_map.1 hu; rfl) (by unfold maxLen; omega) (by omega) hbase
    rw [← List.map_append] at ho
    obtain ⟨A', cap', rfl, hO⟩ := own_of_row (by rw [List.length_append, hn]) ho (getD_append_lt hb h5)
    exact ⟨A', _, cap', w', hr, hO, hg⟩

theorem wpList_app {base : Nat} {w : World} {A : Option Addr} {n cap : Nat} {l m : List Nat} {x : Value} {ops : Array Oper} {rest : List Oper} {o : Oper} {a : Act} {Q : Exit → Act → World → Prop} (hgd : o.guard = none) (s y : Operand)
    (ho : o.op = .call { callee := .builtin .append, args := #[s, y], argTypes := #[24, 24] }) (hs : a.eval s = .slice A n cap) (hy : a.eval y = x)
    (hv : Own base w A n cap l) (hx : Bytes w x m) (hlen : l.length + m.length ≤ 70368744177664) (hbase : base ≤ w.heap.size)
    (h : ∀ A' n' cap' w', Own base w' A' n' cap' (l ++ m) → w.grownBy w' (Value.ownBlock (.slice A n cap)) → wpList Try.prog ops Q rest (a.put o.dst (.slice A' n' cap')) w') : wpList Try.prog ops Q (o :: rest) a w := by
  refine wpList_plain hgd fun K hK => ?_
  obtain ⟨A', n', cap', w', hr, h1, h2⟩ := run_app o.type hv hx hlen hbase
  unfold Oper.wp execOp
  simp only [ho, resolve, invoke, builtin, Sem.run_bind, Sem.run_pure, Result.andThen_ok, List.map_toArray, List.map_cons, List.map_nil, hs, hy, hr]
  exact hK _ _ (h A' n' cap' w' h1 h2)

theorem Own.ext {base : Nat} {w w' : World} {A : Option Addr} {n cap : Nat} {l : List Nat} (h : Own base w A n cap l) (he : Ext w w') : Own base w' A n cap l := by
  obtain ⟨h1, h2, h3⟩ := h
  exact ⟨h1, h2.kept (row := none) ⟨(below_of_ext he).1, (below_of_ext he).2, (below_of_ext he).3, he.size, fun k hk _ => (below_of_ext he).5 k hk⟩ (by cases hv : Value.ownBlock _ <;> simp), h3⟩

theorem Own.row {base : Nat} {w : World} {A : Option Addr} {n cap : Nat} {l : List Nat} (h : Own base w A n cap l) : ∀ k, Value.ownBlock (.slice A n cap) = some k → base ≤ k := fun k hk => (h.2.1.lt k hk).1

theorem Bytes.len {w : World} {A : Option Addr} {n c : Nat} {l : List Nat} (h : Bytes w (.slice A n c) l) : n = l.length := by
  obtain ⟨_, _, e, _⟩ := h
  simp only [Value.slice.injEq] at e
  exact e.2.1

theorem Own.nil (base : Nat) (w : World) : Own base w none 0 0 [] := ⟨rfl, World.ownsRow_nil w base 5 1, fun i => by simp⟩

theorem Own.fresh {w0 w : World} (h : Ext w0 w) (cs : List Nat) (hb : ∀ i, cs.getD i 0 < 256) (hm : cs.length ≤ 9223372036854775807) : Own w0.heap.size (w.alloc (.cells (cs.map byteV).toArray 5)) (some ⟨w.heap.size, 0, none⟩) cs.length cs.length cs := by
  refine ⟨rfl, ?_, hb⟩
  have := World.ownsRow_lit (e := 5) (size := 1) w (cs.map byteV).toArray cs.length h.size hm (by simp)
  simpa using this

theorem Own.mono {b b' : Nat} {w : World} {A : Option Addr} {n cap : Nat} {l : List Nat} (h : Own b w A n cap l) (hb : b' ≤ b) : Own b' w A n cap l := by
  obtain ⟨h1, h2, h3⟩ := h
  refine ⟨h1, ⟨h2.1, ?_⟩, h3⟩
  rcases h2.2 with h | ⟨g, c, cur, e, hg, rest⟩
  · exact .inl h
  · exact .inr ⟨g, c, cur, e, Nat.le_trans hb hg, rest⟩

theorem bytes_at {w : World} {g : Nat} {l : List Nat} (hg : g < w.heap.size) (hb : ∀ i, l.getD i 0 < 256) (hm : l.length ≤ 9223372036854775807) (h : ∀ i, i < l.length → w.cell? ⟨g, i, none⟩ = some (.int .u8 ((l.getD i 0 : Nat) : Int))) :
    Bytes w (.slice (some ⟨g, 0, none⟩) l.length l.length) l :=
  ⟨_, _, rfl, Nat.le_refl _, hm, fun h => (by cases h), hb, fun _ => ⟨g, 0, rfl, hg, fun i hi => by rw [Nat.zero_add]; exact h i hi⟩⟩

structure Keep (w w' : World) (S : Nat → Prop) : Prop where
  os : w'.os = w.os
  tape : w'.tape = w.tape
  output : w'.output = w.output
  size : w.heap.size ≤ w'.heap.size
  block : ∀ k, k < w.heap.size → ¬ S k → w'.heap[k]? = w.heap[k]?

theorem Keep.refl (w : World) (S : Nat → Prop) : Keep w w S := ⟨rfl, rfl, rfl, Nat.le_refl _, fun _ _ _ => rfl⟩

theorem Keep.trans {a b c : World} {S T : Nat → Prop} (h : Keep a b S) (k : Keep b c T) (hS : ∀ x, x < a.heap.size → T x → S x) : Keep a c S :=
  ⟨k.os.trans h.os, k.tape.trans h.tape, k.output.trans h.output, Nat.le_trans h.size k.size, fun x hx hn => (k.block x (Nat.lt_of_lt_of_le hx h.size) (fun t => hn (hS x hx t))).trans (h.block x hx hn)⟩

theorem Keep.mono {a b : World} {S T : Nat → Prop} (h : Keep a b S) (hS : ∀ x, S x → T x) : Keep a b T := ⟨h.os, h.tape, h.output, h.size, fun x hx hn => h.block x hx (fun s => hn (hS x s))⟩

theorem Keep.grown {w w' : World} {row : Option Nat} (h : w.grownBy w' row) : Keep w w' (fun k => row = some k) :=
  ⟨h.os, h.tape, h.output, h.size, fun k hk hn => h.block k hk (fun e => hn e.symm)⟩

theorem Keep.ofExt {w w' : World} (h : Ext w w') (S : Nat → Prop) : Keep w w' S :=
  ⟨(below_of_ext h).1, (below_of_ext h).2, (below_of_ext h).3, h.size, fun k hk _ => (below_of_ext h).5 k hk⟩

theorem Keep.ext {w w' : World} {S : Nat → Prop} (h : Keep w w' S) (hS : ∀ k, k < w.heap.size → ¬ S k) : Ext w w' :=
  ext_of_below ⟨h.os, h.tape, h.output, h.size, fun k hk => h.block k hk (hS k hk)⟩

theorem Keep.toExt {w0 w w' : World} {S : Nat → Prop} (h0 : Ext w0 w) (h : Keep w w' S) (hS : ∀ k, S k → w0.heap.size ≤ k) : Ext w0 w' :=
  ((Keep.ofExt h0 (fun _ => False)).trans ⟨h.os, h.tape, h.output, h.size, h.block⟩ (T := S) (fun x hx t => absurd (hS x t) (by omega))).ext (fun _ _ h => h)

theorem Keep.setCell {w : World} {g i : Nat} {v : Value} : Keep w (w.setCell ⟨g, i, none⟩ v) (fun k => k = g) := by
  refine ⟨rfl, rfl, rfl, by simp [World.setCell], fun k hk hn => ?_⟩
  simp only [World.setCell, Array.getElem?_modify]
  rw [if_neg (fun e => hn e.symm)]

theorem Keep.cell {w w' : World} {S : Nat → Prop} (h : Keep w w' S) {g i : Nat} (hg : g < w.heap.size) (hn : ¬ S g) : w'.cell? ⟨g, i, none⟩ = w.cell? ⟨g, i, none⟩ := by
  simp only [World.cell?, h.block g hg hn]

theorem Keep.frozen {w w' : World} {S : Nat → Prop} (h : Keep w w' S) {g i : Nat} (hg : g < w.heap.size) (hn : ¬ S g) : w'.frozen? ⟨g, i, none⟩ = w.frozen? ⟨g, i, none⟩ := by
  simp only [World.frozen?, h.block g hg hn]

theorem Own.keep {base : Nat} {w w' : World} {A : Option Addr} {n cap : Nat} {l : List Nat} {S : Nat → Prop} (h : Own base w A n cap l) (hk : Keep w w' S) (hS : ∀ k, Value.ownBlock (.slice A n cap) = some k → ¬ S k) : Own base w' A n cap l := by
  obtain ⟨h1, h2, h3⟩ := h
  refine ⟨h1, ⟨h2.1, ?_⟩, h3⟩
  rcases h2.2 with hn | ⟨g, c, cur, e, hb, hg, rest⟩
  · exact .inl hn
  · refine .inr ⟨g, c, cur, e, hb, ?_, rest⟩
    rw [hk.block g (Array.getElem?_eq_some_iff.1 hg).1 (hS g (by rw [e]; rfl)), hg]

theorem run_app2 {base : Nat} {w : World} {A : Option Addr} {n cap : Nat} {l m : List Nat} {x : Value} (ty : TypeId) (hv : Own base w A n cap l) (hx : Bytes w x m) (hlen : l.length + m.length ≤ 70368744177664) (hbase : base ≤ w.heap.size) :
    ∃ A' n' cap' w', (Builtin.append_ #[24, 24] ty #[.slice A n cap, x]).run Try.prog w = .ok (.slice A' n' cap') w' ∧ Own base w' A' n' cap' (l ++ m) ∧ w.grownBy w' (Value.ownBlock (.slice A n cap)) ∧ (A' = A ∨ A' = some ⟨w.heap.size, 0, none⟩) := by
  obtain ⟨A', n', cap', w', hr, hO, hg⟩ := run_app ty hv hx hlen hbase
  refine ⟨A', n', cap', w', hr, hO, hg, ?_⟩
  obtain ⟨hn, hv, hb⟩ := hv
  obtain ⟨X, c, rfl, h2, h3, h4, h5, h6⟩ := hx
  obtain ⟨i0, hi, hz0, hz1, hz2⟩ := info_parts infoU8
  cases X with
  | none =>
    have hc := h4 rfl
    subst hc
    have hm : m = [] := List.eq_nil_of_length_eq_zero (by omega)
    subst hm
    have hr2 := run_append_owned_none (P := Try.prog) (w := w) base 24 ty 5 i0 1 Try.underlying24 hi _ n _ hv
    rw [show ([] : List Nat).length = 0 from rfl] at hr
    rw [hr2] at hr
    simp only [Result.ok.injEq, Value.slice.injEq] at hr
    exact .inl hr.1.1.symm
  | some a =>
    have hcells : ∀ j u, (m.map byteV)[j]? = some u → w.cell? (a.add j) = some u := by
      intro j u hj
      have hj1 : j < m.length := by have := (List.getElem?_eq_some_iff.1 hj).1; simpa using this
      obtain ⟨b, off, e1, e2, e3⟩ := h6 (by omega)
      simp only [Option.some.injEq] at e1
      subst e1
      have e4 := e3 j hj1
      rw [show (⟨b, off, none⟩ : Addr).add j = ⟨b, off + j, none⟩ by unfold Addr.add; split <;> simp_all]
      rw [e4, ← hj, List.getElem?_map, List.getD_eq_getElem?_getD, List.getElem?_eq_getElem hj1]
      rfl
    have hone : ∀ u ∈ m.map byteV, u.oneCell' = true := by intro u hu; obtain ⟨y, _, rfl⟩ := List.mem_map.1 hu; rfl
    rcases hv.2 with ⟨hnil, hn0⟩ | ⟨g, cap1, cur, hsl, hb1, hg1, hnc, hcm, hcs, htake⟩
    · simp only [Value.slice.injEq] at hnil
      obtain ⟨rfl, hn1, rfl⟩ := hnil
      by_cases hm : m.length = 0
      · have hml : m = [] := List.eq_nil_of_length_eq_zero hm
        subst hml
        have hO' := hO.2.1.1
        have hO1 := hO.1
        have : n' = 0 := by simpa [List.eq_nil_of_length_eq_zero (l := l) (by omega)] using hO1
        rcases hO.2.1.2 with ⟨e, _⟩ | ⟨g, c', cur, e, _⟩
        · simp only [Value.slice.injEq] at e; exact .inl e.1
        · exfalso
          have hd : (Builtin.append_ #[24, 24] ty #[.slice none n 0, .slice (some a) ([] : List Nat).length c]).run Try.prog w = .ok (.slice none 0 0) w := by
            subst hn0
            simp [Builtin.append_, run_underlying Try.underlying24, sizeOf, typeInfo, hi, Builtin.lenOf, Builtin.firstCells, loadCells, loadCellsFrom]
          rw [hd] at hr
          simp only [Result.ok.injEq, Value.slice.injEq] at hr
          simp only [Value.slice.injEq] at e
          rw [e.1] at hr
          exact absurd hr.1.1 (by simp)
      · subst hn0
        have hr2 := run_append_nil (P := Try.prog) w 24 ty 5 i0 (.int .u8 0) Try.underlying24 hi hz0 a m.length c (m.map byteV) (by simp [hz1]) hcells (by omega) (by omega) (by rw [hz2]; omega)
        rw [hr2] at hr
        simp only [Result.ok.injEq, Value.slice.injEq] at hr
        exact .inr hr.1.1.symm
    · simp only [Value.slice.injEq, true_and] at hsl
      obtain ⟨rfl, rfl⟩ := hsl
      by_cases hroom : n + m.length ≤ cap
      · obtain ⟨w2, hr2, _⟩ := run_append_fits (P := Try.prog) (w := w) base 24 ty 5 i0 1 Try.underlying24 hi hz1 g n cap _ hv a m.length c (m.map byteV) (by simp) hcells hone hroom
        rw [hr2] at hr
        simp only [Result.ok.injEq, Value.slice.injEq] at hr
        exact .inl hr.1.1.symm
      · have hr2 := run_append_grow (P := Try.prog) w 24 ty 5 i0 (.int .u8 0) Try.underlying24 hi hz0 ⟨g, 0, none⟩ n cap (l.map byteV) (by simp [hz1]; omega) (hv.cells (g := g) rfl) a m.length c (m.map byteV) (by simp [hz1]) hcells (by omega) (by omega) (growslice_fits (by omega) (by rw [hz2]; omega))
        rw [hr2] at hr
        simp only [Result.ok.injEq, Value.slice.injEq] at hr
        exact .inr hr.1.1.symm

theorem wpList_app2 {base : Nat} {w : World} {A : Option Addr} {n cap : Nat} {l m : List Nat} {x : Value} {ops : Array Oper} {rest : List Oper} {o : Oper} {a : Act} {Q : Exit → Act → World → Prop} (hgd : o.guard = none) (s y : Operand)
    (ho : o.op = .call { callee := .builtin .append, args := #[s, y], argTypes := #[24, 24] }) (hs : a.eval s = .slice A n cap) (hy : a.eval y = x)
    (hv : Own base w A n cap l) (hx : Bytes w x m) (hlen : l.length + m.length ≤ 70368744177664) (hbase : base ≤ w.heap.size)
    (h : ∀ A' n' cap' w', Own base w' A' n' cap' (l ++ m) → w.grownBy w' (Value.ownBlock (.slice A n cap)) → (A' = A ∨ A' = some ⟨w.heap.size, 0, none⟩) → wpList Try.prog ops Q rest (a.put o.dst (.slice A' n' cap')) w') : wpList Try.prog ops Q (o :: rest) a w := by
  refine wpList_plain hgd fun K hK => ?_
  obtain ⟨A', n', cap', w', hr, h1, h2, h3⟩ := run_app2 o.type hv hx hlen hbase
  unfold Oper.wp execOp
  simp only [ho, resolve, invoke, builtin, Sem.run_bind, Sem.run_pure, Result.andThen_ok, List.map_toArray, List.map_cons, List.map_nil, hs, hy, hr]
  exact hK _ _ (h A' n' cap' w' h1 h2 h3)

/-- bytes as a text -/
def strOf (l : List Nat) : ByteArray := ⟨(l.map UInt8.ofNat).toArray⟩

set_option maxRecDepth 100000 in
theorem conv_bytes {w : World} {v : Value} {l : List Nat} (h : Bytes w v l) : (convert 24 9 v).run Try.prog w = .ok (.string (strOf l)) w := by
  obtain ⟨A, cap, rfl, hn, hcap, hnil, hb, hc⟩ := h
  cases A with
  | none =>
    have hc0 := hnil rfl
    subst hc0
    have : l = [] := List.eq_nil_of_length_eq_zero (by omega)
    subst this
    exact (fun w => (by kernel_rfl : (convert 24 9 (.slice none 0 0)).run Try.prog w = .ok (.string ⟨#[]⟩) w)) w
  | some a =>
    have h := run_convert_bytes_back (P := Try.prog) w 24 9 5 a cap (l.map UInt8.ofNat) Try.underlying24 Try.underlying5 Try.underlying9 (fun j hj => by
      have hj' : j < l.length := by simpa using hj
      obtain ⟨b, off, e1, e2, e3⟩ := hc (by omega)
      simp only [Option.some.injEq] at e1
      subst e1
      have e4 := e3 j hj'
      rw [show (⟨b, off, none⟩ : Addr).add j = ⟨b, off + j, none⟩ by unfold Addr.add; split <;> simp_all]
      rw [e4]
      have hbj := hb j
      rw [List.getD_eq_getElem?_getD, List.getElem?_eq_getElem hj'] at hbj ⊢
      simp only [Option.getD_some] at hbj ⊢
      simp [Nat.mod_eq_of_lt hbj])
    simpa [strOf] using h

theorem conv_const (w : World) (C : Array Value) (n c k : Nat) (hk : k = w.heap.size) : (convert 24 24 (.slice (some ⟨k, 0, none⟩) n c)).run Try.prog (w.alloc (.cells C 5)) = .ok (.slice (some ⟨k, 0, none⟩) n c) (w.alloc (.cells C 5 (C.size, C.size + 1))) := by
  subst hk
  exact Lib.run_convert_bytes_const (P := Try.prog) w 24 5 C n c Try.underlying24 Try.underlying5

theorem bytes_lit (w : World) (l : List Nat) (k : Nat) (fr : Nat × Nat) (hk : k = w.heap.size) (hb : ∀ i, l.getD i 0 < 256) (hm : l.length ≤ 9223372036854775807) :
    Bytes (w.alloc (.cells (l.map byteV).toArray 5 fr)) (.slice (some ⟨k, 0, none⟩) l.length l.length) l := by
  refine bytes_at (by subst hk; simp) hb hm fun i hi => ?_
  rw [cell_marked _ _ _ _ _ _ hk]
  simp [hi, byteV]

theorem lt_of_all {l : List Nat} (h : l.all (fun x => decide (x < 256)) = true) : ∀ i, l.getD i 0 < 256 := by
  intro i
  rw [List.getD_eq_getElem?_getD]
  by_cases hi : i < l.length
  · rw [List.getElem?_eq_getElem hi]
    have := List.all_eq_true.1 h _ (List.getElem_mem hi)
    simpa using this
  · rw [List.getElem?_eq_none (by omega)]; decide

theorem strOf_list (a : List Nat) : (strOf a).toList = a.map UInt8.ofNat := by
  rw [ByteArray.toList_eq]; simp [strOf]

theorem str_eq (a b : List Nat) (ha : ∀ i, a.getD i 0 < 256) (hb : ∀ i, b.getD i 0 < 256) : ((strOf a).toList == (strOf b).toList) = decide (a = b) := by
  rw [strOf_list, strOf_list]
  by_cases h : a = b
  · subst h; simp
  · have : ¬ a.map UInt8.ofNat = b.map UInt8.ofNat := by
      intro e
      apply h
      have hl : a.length = b.length := by have := congrArg List.length e; simpa using this
      apply List.ext_getElem hl
      intro i h1 h2
      have e1 := congrArg (fun l => (l.getD i 0).toNat) e
      have p1 := ha i
      have p2 := hb i
      simp only [List.getD_eq_getElem?_getD, List.getElem?_map, List.getElem?_eq_getElem h1, List.getElem?_eq_getElem h2, Option.map_some, Option.getD_some] at e1 p1 p2
      rw [UInt8.toNat_ofNat', UInt8.toNat_ofNat'] at e1
      omega
    simp [h, this]

theorem Bytes.cap {w : World} {A : Option Addr} {N c : Nat} {l : List Nat} (h : Bytes w (.slice A N c) l) (c' : Nat) (h1 : l.length ≤ c') (h2 : c' ≤ 9223372036854775807) : A ≠ none → Bytes w (.slice A N c') l := by
  intro hA
  obtain ⟨A', cap, e, h2', h3, h4, h5, h6⟩ := h
  simp only [Value.slice.injEq] at e
  obtain ⟨rfl, rfl, rfl⟩ := e
  exact ⟨A, c', rfl, h1, h2, fun e => absurd e hA, h5, h6⟩

theorem getD_drop (l : List Nat) (a j : Nat) : (l.drop a).getD j 0 = l.getD (a + j) 0 := by
  rw [List.getD_eq_getElem?_getD, List.getElem?_drop, ← List.getD_eq_getElem?_getD]

theorem Bytes.take {w : World} {A : Option Addr} {N c : Nat} {l : List Nat} (h : Bytes w (.slice A N c) l) (n : Nat) (hn : n ≤ l.length) : Bytes w (.slice A n n) (l.take n) := by
  obtain ⟨A', cap, e, h2, h3, h4, h5, h6⟩ := h
  simp only [Value.slice.injEq] at e
  obtain ⟨rfl, rfl, rfl⟩ := e
  have hl : (l.take n).length = n := by simp; omega
  refine ⟨A, n, by rw [hl], by omega, by omega, fun e => by have := h4 e; omega, fun i => ?_, fun hp => ?_⟩
  · rw [List.getD_eq_getElem?_getD, List.getElem?_take]
    split
    · rw [← List.getD_eq_getElem?_getD]; exact h5 i
    · decide
  · obtain ⟨b, off, rfl, q1, q2⟩ := h6 (by omega)
    refine ⟨b, off, rfl, q1, fun i hi => ?_⟩
    rw [q2 i (by omega), List.getD_eq_getElem?_getD, List.getD_eq_getElem?_getD, List.getElem?_take, if_pos (by omega)]

theorem Bytes.drop {w : World} {b off N c : Nat} {l : List Nat} (h : Bytes w (.slice (some ⟨b, off, none⟩) N c) l) (n : Nat) (hn : n ≤ l.length) :
    Bytes w (.slice (some ⟨b, off + n, none⟩) (N - n) (c - n)) (l.drop n) ∧ (c = n → Bytes w (.slice (some ⟨b, off, none⟩) (N - n) 0) (l.drop n)) := by
  obtain ⟨A, cap, e, h2, h3, h4, h5, h6⟩ := h
  simp only [Value.slice.injEq] at e
  obtain ⟨rfl, rfl, rfl⟩ := e
  have hl : (l.drop n).length = l.length - n := by simp
  have hb : ∀ i, (l.drop n).getD i 0 < 256 := fun i => by
    rw [List.getD_eq_getElem?_getD, List.getElem?_drop, ← List.getD_eq_getElem?_getD]; exact h5 _
  refine ⟨⟨_, _, by rw [hl], by omega, by omega, (fun h => by cases h), hb, fun hp => ?_⟩, fun hc => ⟨_, _, by rw [hl], by omega, by omega, (fun h => by cases h), hb, fun hp => by omega⟩⟩
  obtain ⟨b', off', e, q1, q2⟩ := h6 (by omega)
  simp only [Option.some.injEq, Addr.mk.injEq, and_true] at e
  obtain ⟨rfl, rfl⟩ := e
  refine ⟨b, off + n, rfl, q1, fun i hi => ?_⟩
  have := q2 (n + i) (by omega)
  rw [Nat.add_assoc, this, List.getD_eq_getElem?_getD, List.getD_eq_getElem?_getD, List.getElem?_drop]

theorem Bytes.sub {w : World} {b off N c : Nat} {l : List Nat} (h : Bytes w (.slice (some ⟨b, off, none⟩) N c) l) (lo len : Nat) (hl : lo + len ≤ l.length) :
    Bytes w (.slice (some ⟨b, off + lo, none⟩) len (c - lo)) ((l.drop lo).take len) := by
  have hN := h.len
  have hc : l.length ≤ c ∧ c ≤ 9223372036854775807 := by
    obtain ⟨A, cap, e, h2, h3, _⟩ := h
    simp only [Value.slice.injEq] at e
    obtain ⟨_, _, rfl⟩ := e
    exact ⟨h2, h3⟩
  exact ((h.drop lo (by omega)).1.take len (by simp; omega)).cap (c - lo) (by simp; omega) (by omega) (fun h => by cases h)

end Go.Proofs.Ytbpdjekibcbaaaa
