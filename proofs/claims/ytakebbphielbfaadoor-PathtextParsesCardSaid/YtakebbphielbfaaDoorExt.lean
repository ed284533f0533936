/- Worlds that differ by new blocks alone ('World.ext'), and regions that draw their order, walked once in the order of the text: every operation but a forced tail reads, reckons, or calls what only makes new blocks. Lemmas only. -/
import Derived.WalkKit
import Derived.WalkSpells
import Derived.WalkLawsBesides
import Derived.Deep.Quiet
import Derived.Deep.QuietTactic
import Derived.BigQuiet
import Derived.StillTail
import Derived.Lib.Hide
set_option linter.unusedVariables false
set_option linter.unusedSimpArgs false
namespace Go.Proofs.YtakebbphielbfaaDoor
open Go Go.RowKit

/-- What a call has left: new blocks, and a count of draws. -/
structure Junk where
  blocks : Array Obj
  count : Nat

instance : Inhabited Junk := ⟨⟨#[], 0⟩⟩

/-- w with blocks more behind its own, and another count of draws. -/
def _root_.Go.World.ext (w : World) (g : Junk) : World := { w with heap := w.heap ++ g.blocks, drawn := g.count }

/-- w' is w but for new blocks and draws. -/
def Ext (w w' : World) : Prop := ∃ g, w' = w.ext g

theorem ext_of_below {w w' : World} (h : Below w.heap.size w w') : Ext w w' := by
  refine ⟨⟨w'.heap.extract w.heap.size w'.heap.size, w'.drawn⟩, ?_⟩
  obtain ⟨h1, h2, h3, h4, h5⟩ := h
  obtain ⟨heap, tape, drawn, os, output⟩ := w
  obtain ⟨heap', tape', drawn', os', output'⟩ := w'
  simp only at h1 h2 h3 h4 h5
  subst h1 h2 h3
  simp only [World.ext]
  congr
  apply Array.ext_getElem?
  intro i
  by_cases hi : i < heap.size
  · rw [Array.getElem?_append_left hi, h5 i hi]
  · rw [Array.getElem?_append_right (by omega), Array.getElem?_extract]
    by_cases hi' : i < heap'.size
    · rw [if_pos (by omega)]; congr 1; omega
    · rw [if_neg (by omega), Array.getElem?_eq_none (by omega)]

theorem below_of_ext {w w' : World} (h : Ext w w') : Below w.heap.size w w' := by
  obtain ⟨g, rfl⟩ := h
  exact ⟨rfl, rfl, rfl, by simp [World.ext], fun k hk => by simp only [World.ext]; rw [Array.getElem?_append_left hk]⟩

theorem below_ext {B : Nat} {a w : World} (h : Below B a w) (hB : B ≤ w.heap.size) (g : Junk) : Below B a (w.ext g) :=
  h.trans ((below_of_ext ⟨g, rfl⟩).mono hB)

attribute [go_sem] Nat.add_assoc
@[go_sem] theorem lt_grow {a b c : Nat} (h : a < b) : (a < b + c) = True := eq_true (by omega)

section
variable (w : World) (g : Junk)
@[go_sem, simp] theorem ext_size : (w.ext g).heap.size = w.heap.size + g.blocks.size := by simp [World.ext]
@[go_sem, simp] theorem ext_tape : (w.ext g).tape = w.tape := rfl
@[go_sem, simp] theorem ext_block (k : Nat) (h : k < w.heap.size) : (w.ext g).heap[k]? = w.heap[k]? := by simp only [World.ext]; rw [Array.getElem?_append_left h]
@[go_sem, simp] theorem ext_cell (k i : Nat) (h : k < w.heap.size) : (w.ext g).cell? ⟨k, i, none⟩ = w.cell? ⟨k, i, none⟩ := by
  simp only [World.cell?, ext_block w g k h]
@[go_sem, simp] theorem ext_frozen (k i : Nat) (h : k < w.heap.size) : (w.ext g).frozen? ⟨k, i, none⟩ = w.frozen? ⟨k, i, none⟩ := by
  simp only [World.frozen?, ext_block w g k h]
@[go_sem, simp] theorem ext_shape (k : Nat) (h : k < w.heap.size) : (w.ext g).shape? k = w.shape? k := by
  simp only [World.shape?, ext_block w g k h]
@[go_sem, simp] theorem ext_drew : (w.ext g).drew = w.ext ⟨g.blocks, g.count + 1⟩ := rfl
@[go_sem, simp] theorem ext_drewN (m : Nat) : (w.ext g).drewN m = w.ext ⟨g.blocks, g.count + m⟩ := rfl
theorem ext_ext (g' : Junk) : (w.ext g).ext g' = w.ext ⟨g.blocks ++ g'.blocks, g'.count⟩ := by simp [World.ext, Array.append_assoc]
@[go_sem, simp] theorem drew_ext : w.drew.ext g = w.ext g := rfl
@[go_sem, simp] theorem ext_setCell (k i : Nat) (v : Value) (h : k < w.heap.size) : (w.ext g).setCell ⟨k, i, none⟩ v = (w.setCell ⟨k, i, none⟩ v).ext g := by
  simp only [World.ext, World.setCell]
  congr 1
  apply Array.ext_getElem?
  intro j
  rw [Array.getElem?_modify]
  by_cases hj : j < w.heap.size
  · rw [Array.getElem?_append_left hj, Array.getElem?_append_left (by simpa using hj), Array.getElem?_modify]
  · rw [Array.getElem?_append_right (by omega), Array.getElem?_append_right (by simp; omega)]
    have hkn : ¬ k = j := by omega
    simp [hkn]
end

theorem Ext.refl (w : World) : Ext w w := ⟨⟨#[], w.drawn⟩, by simp [World.ext]⟩
theorem Ext.drew (w : World) : Ext w w.drew := ⟨⟨#[], w.drawn + 1⟩, by show _ = { w with heap := w.heap ++ #[], drawn := w.drawn + 1 }; rw [Array.append_empty]; rfl⟩

theorem Ext.trans {a b c : World} (h : Ext a b) (k : Ext b c) : Ext a c :=
  ext_of_below ((below_of_ext h).trans ((below_of_ext k).mono (below_of_ext h).size))
theorem Ext.alloc {a w : World} (h : Ext a w) (o : Obj) : Ext a (w.alloc o) := ext_of_below ((below_of_ext h).alloc (below_of_ext h).size o)
theorem Ext.ext {a w : World} (h : Ext a w) (g : Junk) : Ext a (w.ext g) := h.trans ⟨g, rfl⟩
theorem Ext.drew' {a w : World} (h : Ext a w) : Ext a w.drew := h.trans (Ext.drew w)
theorem Ext.drewN {a w : World} (h : Ext a w) (n : Nat) : Ext a (w.drewN n) := h.trans ⟨⟨#[], w.drawn + n⟩, by show _ = { w with heap := w.heap ++ #[], drawn := w.drawn + n }; rw [Array.append_empty]; rfl⟩
theorem Ext.setCell {a w : World} (h : Ext a w) {p : Addr} (hp : a.heap.size ≤ p.block) (v : Value) : Ext a (w.setCell p v) :=
  ext_of_below ((below_of_ext h).setCell hp v)
theorem Ext.size {a w : World} (h : Ext a w) : a.heap.size ≤ w.heap.size := (below_of_ext h).size

/-! ### min and max of whole numbers, in Lean's own words -/
section
variable (P : Program) (w : World) (ts : Array TypeId) (t : TypeId) (k k1 k2 k3 : IntKind) (x y z u : Int)
theorem max_if : (if y > x then y else x) = max x y := by rw [Int.max_def]; split <;> split <;> omega
theorem max_if' : (if x < y then y else x) = max x y := max_if x y
theorem min_if : (if y < x then y else x) = min x y := by rw [Int.min_def]; split <;> split <;> omega
@[go_sem high] theorem run_max2_int : (Builtin.max_ ts t #[.int k x, .int k1 y]).run P w = .ok (.int k (max x y)) w := by
  rw [run_max_int2, max_if]
@[go_sem high] theorem run_min2_int : (Builtin.min_ ts t #[.int k x, .int k1 y]).run P w = .ok (.int k (min x y)) w := by
  simp [Builtin.min_, Builtin.min2, min_if]
@[go_sem high] theorem run_max3_int : (Builtin.max_ ts t #[.int k x, .int k1 y, .int k2 z]).run P w = .ok (.int k (max (max x y) z)) w := by
  simp [Builtin.max_, Builtin.max2, max_if']
@[go_sem high] theorem run_min3_int : (Builtin.min_ ts t #[.int k x, .int k1 y, .int k2 z]).run P w = .ok (.int k (min (min x y) z)) w := by
  simp [Builtin.min_, Builtin.min2, min_if]
@[go_sem high] theorem run_max4_int : (Builtin.max_ ts t #[.int k x, .int k1 y, .int k2 z, .int k3 u]).run P w = .ok (.int k (max (max (max x y) z) u)) w := by
  simp [Builtin.max_, Builtin.max2, max_if']
@[go_sem high] theorem run_min4_int : (Builtin.min_ ts t #[.int k x, .int k1 y, .int k2 z, .int k3 u]).run P w = .ok (.int k (min (min (min x y) z) u)) w := by
  simp [Builtin.min_, Builtin.min2, min_if]
end

/-! ### arrays of four whole numbers, compared -/
theorem eq_int {P : Program} (w : World) (d : Nat) (e : TypeId) (k : IntKind) (a b : Int) (he : P.underlying e = some (.int k)) : (Op.equalIn (d + 1) e (.int k a) (.int k b)).run P w = .ok (a == b) w := run_equalIn_int w d e k k a b he
theorem part_at {P : Program} {e : TypeId} (hg : ∀ w, (isAgg e).run P w = .ok false w) (cs : Array Value) (i : Nat) (v : Value) (hv : cs[i]? = some v) (w : World) : (part e cs i).run P w = .ok v w := by
  simp [part, hg, hv]
theorem run_equalIn_arr4 {P : Program} (w : World) (d : Nat) (t e : TypeId) (k : IntKind) (a0 a1 a2 a3 b0 b1 b2 b3 : Int) (ht : P.underlying t = some (.array 4 e)) (he : P.underlying e = some (.int k)) (hs : ∀ w, (sizeOf e).run P w = .ok 1 w) (hg : ∀ w, (isAgg e).run P w = .ok false w) :
    (Op.equalIn (d + 2) t (.agg #[.int k a0, .int k a1, .int k a2, .int k a3]) (.agg #[.int k b0, .int k b1, .int k b2, .int k b3])).run P w = .ok (a0 == b0 && (a1 == b1 && (a2 == b2 && a3 == b3))) w := by
  rw [Op.equalIn]
  simp only [Sem.run_bind, run_underlying ht, hs, Result.andThen_ok]
  simp only [Std.Legacy.Range.forIn_eq_forIn_range', Std.Legacy.Range.size, Nat.sub_zero, Nat.add_sub_cancel, Nat.div_one, List.range'_succ, List.range'_zero, List.forIn_cons, List.forIn_nil, Sem.run_bind]
  have p0 : ∀ w, (part e #[Value.int k a0, .int k a1, .int k a2, .int k a3] 0).run P w = .ok (.int k a0) w := part_at hg _ _ _ rfl
  have p1 : ∀ w, (part e #[Value.int k a0, .int k a1, .int k a2, .int k a3] 1).run P w = .ok (.int k a1) w := part_at hg _ _ _ rfl
  have p2 : ∀ w, (part e #[Value.int k a0, .int k a1, .int k a2, .int k a3] 2).run P w = .ok (.int k a2) w := part_at hg _ _ _ rfl
  have p3 : ∀ w, (part e #[Value.int k a0, .int k a1, .int k a2, .int k a3] 3).run P w = .ok (.int k a3) w := part_at hg _ _ _ rfl
  have q0 : ∀ w, (part e #[Value.int k b0, .int k b1, .int k b2, .int k b3] 0).run P w = .ok (.int k b0) w := part_at hg _ _ _ rfl
  have q1 : ∀ w, (part e #[Value.int k b0, .int k b1, .int k b2, .int k b3] 1).run P w = .ok (.int k b1) w := part_at hg _ _ _ rfl
  have q2 : ∀ w, (part e #[Value.int k b0, .int k b1, .int k b2, .int k b3] 2).run P w = .ok (.int k b2) w := part_at hg _ _ _ rfl
  have q3 : ∀ w, (part e #[Value.int k b0, .int k b1, .int k b2, .int k b3] 3).run P w = .ok (.int k b3) w := part_at hg _ _ _ rfl
  have E := fun w a b => eq_int w d e k a b he
  simp [p0, p1, p2, p3, q0, q1, q2, q3, E, -beq_iff_eq]
  by_cases h0 : a0 = b0 <;> by_cases h1 : a1 = b1 <;> by_cases h2 : a2 = b2 <;> by_cases h3 : a3 = b3 <;> simp [h0, h1, h2, h3]

/-! ### what is handed back -/
theorem ret_int {k : IntKind} {a b : Int} (h : a = b) : Ending.returned (.int k a) = .returned (.int k b) := by rw [h]
theorem ret_agg4 {k : IntKind} {a0 a1 a2 a3 b0 b1 b2 b3 : Int} (h0 : a0 = b0) (h1 : a1 = b1) (h2 : a2 = b2) (h3 : a3 = b3) :
    Ending.returned (.agg #[.int k a0, .int k a1, .int k a2, .int k a3]) = .returned (.agg #[.int k b0, .int k b1, .int k b2, .int k b3]) := by rw [h0, h1, h2, h3]
theorem bodyPost_agg4 {P : Program} {fn : Func} {a : Act} {w0 w : World} {k : IntKind} {a0 a1 a2 a3 b0 b1 b2 b3 : Int} (hr : (results fn a.tmps).run P w = .ok (.agg #[.int k a0, .int k a1, .int k a2, .int k a3]) w)
    (hd : a.defers = []) (h0 : a0 = b0) (h1 : a1 = b1) (h2 : a2 = b2) (h3 : a3 = b3) (he : Ext w0 w) :
    bodyPost P fn (fun e w' => e = .returned (.agg #[.int k b0, .int k b1, .int k b2, .int k b3]) ∧ Ext w0 w') .ret a w :=
  bodyPost_ret hr hd ⟨ret_agg4 h0 h1 h2 h3, he⟩
theorem ret_bool {a b : Bool} (h : a = b) : Ending.returned (.bool a) = .returned (.bool b) := by rw [h]

/-! ### A region: a head that is quiet in a class of worlds, and a forced tail -/
section
variable {P : Program} {md : Region.Mode} {ops : Array Oper} {C : World → Prop}

/-- f operations of the head are still to come; whichever comes up is of the head, and quiet in C. -/
def HeadQ (P : Program) (md : Region.Mode) (ops : Array Oper) (C : World → Prop) (n : Nat) (L : Array Bool → Act → Prop) : Nat → Array Bool → Act → Prop
  | 0, l, a => L l a
  | f + 1, l, a => Region.ready md ops l ≠ [] ∧ ∀ i ∈ Region.ready md ops l, i < n ∧ qOp P ops C i (HeadQ P md ops C n L f (l.setIfInBounds i true)) a

theorem HeadQ.any {n g : Nat} {L : Array Bool → Act → Prop} {Q : Exit → Act → World → Prop} (hL : ∀ l a w, C w → L l a → wpAny P md ops Q g l a w) (f : Nat) :
    ∀ (l : Array Bool) (a : Act) (w : World), C w → HeadQ P md ops C n L f l a → wpAny P md ops Q (f + g) l a w := by
  induction f with
  | zero => intro l a w hw h; rw [Nat.zero_add]; exact hL l a w hw h
  | succ f ih =>
    intro l a w hw h
    rw [Nat.add_right_comm]
    exact ⟨fun e => (h.1 e).elim, fun i hi => wpOp_of_qOp hw (fun a' w' hw' hk => ih _ _ _ hw' hk) (h.2 i hi).2⟩

theorem HeadQ.first {n i : Nat} {oi : Oper} {v : Value} {L : Array Bool → Act → Prop} (hi : ops[i]? = some oi) (hsel : Region.noSelect ops = true)
    (hs : Region.sinkB md ops n = true) (hc : Region.chainB md ops n = true) (hn : n < ops.size) (hin : i < n)
    (hdone : ∀ l a, L l a → ∀ j ∈ Region.ready md ops l, n ≤ j) (f : Nat) :
    ∀ (l : Array Bool) (a : Act), HeadInv md ops n l →
      (∀ j oj, ops[j]? = some oj → j ≠ i → l.getD j true = false → (∀ e ∈ oj.after, Region.binds md e = true → e.on ≠ i) → oi.apart ops oj = true) →
      i ∈ Region.ready md ops l → YieldsIn P ops C oi v a → HeadQ P md ops C n L f (l.setIfInBounds i true) (a.put oi.dst v) → HeadQ P md ops C n L (f + 1) l a := by
  have hsel' := Region.noSelect_spec hsel
  induction f with
  | zero =>
    intro l a inv _ hr hy H
    refine ⟨List.ne_nil_of_mem hr, fun j hj => ?_⟩
    have hjn : j < n := Nat.lt_of_not_le fun h => tail_waits hs hc hn inv _ i rfl hin (mem_ready.1 hr).1 j h hj
    refine ⟨hjn, ?_⟩
    rcases Decidable.em (j = i) with e | e
    · rw [e]; exact hy.qOp hi H
    · exact absurd (hdone _ _ H j (ready_mono hj e)) (by omega)
  | succ f ih =>
    intro l a inv hfree hr hy H
    refine ⟨List.ne_nil_of_mem hr, fun j hj => ?_⟩
    have hjn : j < n := Nat.lt_of_not_le fun h => tail_waits hs hc hn inv _ i rfl hin (mem_ready.1 hr).1 j h hj
    refine ⟨hjn, ?_⟩
    rcases Decidable.em (j = i) with e | e
    · rw [e]; exact hy.qOp hi H
    · obtain ⟨hun, oj, hoj, hall⟩ := mem_ready.1 hj
      have hnot : ∀ x ∈ oj.after, Region.binds md x = true → x.on ≠ i := by
        intro x hx hb hon
        have := hall x hx hb
        rw [hon, getD_both (mem_ready.1 hr).1] at this
        exact Bool.noConfusion this
      refine qOp_mono (fun a' h => ?_) (qOp_put hoj (hfree j oj hoj e hun hnot) (fun cs b => hsel' i oi cs b hi) (fun cs b => hsel' j oj cs b hoj) hy (H.2 j (ready_mono hj e)).2)
      refine ih _ _ (inv.set hj hjn) (fun k ok hk hki hu hno => hfree k ok hk hki ?_ hno) (ready_mono hr (Ne.symm e)) h.1 ?_
      · rcases Decidable.em (j = k) with e' | e'
        · rw [← e']; exact hun
        · rwa [getD_set_ne true e'] at hu
      · rw [Array.setIfInBounds_comm _ _ e]; exact h.2

/-- The head's first operations up to n in the order of the text, then a tail in which each waits for the one ahead. -/
def headLex (md : Region.Mode) (ops : Array Oper) (g n : Nat) : Nat → Nat → Array Bool → Bool
  | 0, _, l => Region.seqB md ops g n l
  | f + 1, k, l => (Region.ready md ops l).contains k && Region.free md ops l k && headLex md ops g n f (k + 1) (l.setIfInBounds k true)

theorem HeadQ.lex {n g : Nat} {T : Act → Prop} (hsel : Region.noSelect ops = true) (hs : Region.sinkB md ops n = true) (hc : Region.chainB md ops n = true) (hn : n < ops.size) (l : List Oper) :
    ∀ (k : Nat) (d : Array Bool) (a : Act), k + l.length = n → (∀ j, j < l.length → l[j]? = ops[k + j]?) → HeadInv md ops n d → headLex md ops g n l.length k d = true →
    wpQuiet P ops C T l a → HeadQ P md ops C n (fun d a => Region.seqB md ops g n d = true ∧ T a) l.length d a := by
  induction l with
  | nil => intro k d a _ _ _ hB h; exact ⟨hB, h⟩
  | cons o l ih =>
    intro k d a hk hl inv hB h
    have h0 : ops[k]? = some o := by simpa using (hl 0 (by simp)).symm
    simp only [List.length_cons, headLex, Bool.and_eq_true] at hB
    obtain ⟨⟨hr, hf⟩, hB⟩ := hB
    obtain ⟨v, hy, hK⟩ := yieldsIn_of_qOp (P := P) (C := C) (K := wpQuiet P ops C T l) h0 (by unfold qOp; simp only [h0]; exact h)
    have hkn : k < n := by simp only [List.length_cons] at hk; omega
    have hr' : k ∈ Region.ready md ops d := by simpa using hr
    exact HeadQ.first h0 hsel hs hc hn hkn (fun d a h => seqB_ready h.1) l.length d a inv (Region.free_spec h0 hf) hr' hy
      (ih (k + 1) _ _ (by simp only [List.length_cons] at hk; omega) (fun j hj => by have := hl (j + 1) (by simpa using hj); simpa [Nat.add_assoc, Nat.add_comm 1 j] using this) (inv.set hr' hkn) hB hK)

def tailB (md : Region.Mode) (ops : Array Oper) (n : Nat) : Bool :=
  Region.noSelect ops && decide (n < ops.size) && Region.sinkB md ops n && Region.chainB md ops n && headLex md ops (ops.size - n) n n 0 (Array.replicate ops.size false)

/-- ONE WALK: the first n operations quiet in the class of w's extensions, the others in their order, from any such world. -/
theorem region_tail {id : Nat} {Q : Exit → Act → World → Prop} {a : Act} {w : World} {l : List Oper} (n : Nat) (hm : P.follows .mixedOrders = true) (hB : tailB .any l.toArray n = true)
    (h : wpQuiet P l.toArray (fun w' => ∃ g, w' = w.ext g) (fun a' => ∀ w', Ext w w' → wpList P l.toArray Q (l.drop n) a' w') (l.take n) a) : (Code.region id l.toArray true).wp P Q a w := by
  simp only [tailB, Bool.and_eq_true, decide_eq_true_eq] at hB
  obtain ⟨⟨⟨⟨hsel, hn⟩, hs⟩, hc⟩, hlex⟩ := hB
  have hn' : n < l.length := by simpa using hn
  have htl : (l.take n).length = n := by simp; omega
  have hdl : (l.drop n).length = l.toArray.size - n := by simp
  have inv0 : HeadInv .any l.toArray n (Array.replicate l.toArray.size false) :=
    ⟨by simp, fun j oj _ hl => (by rw [getD_replicate_false] at hl; cases hl), fun t _ ht => getD_in (by simpa using ht) (getD_replicate_false _ _)⟩
  have H := HeadQ.lex (md := .any) (g := l.toArray.size - n) hsel hs hc hn (l.take n) 0 _ a (by omega) (fun j hj => by
    have hj' : j < n := by rw [htl] at hj; exact hj
    simp [hj']) inv0 (by rw [htl]; exact hlex) h
  refine wp_region_any hm ?_
  have := HeadQ.any (Q := Q) (g := l.toArray.size - n) (fun d a' w' hw' hL => by
    have := wpAny_of_seq (md := .any) (Q' := Q) (l.drop n) n d a' w' (fun j => by simp [List.getElem?_drop]) (by rw [hdl]; exact hL.1) (hL.2 w' hw')
    rwa [hdl] at this) _ _ _ _ (Ext.drew w) H
  rw [htl, show n + (l.toArray.size - n) = l.toArray.size by omega] at this
  exact this

/-- ONE WALK of the whole region. -/
theorem region_quiet {id : Nat} {Q : Exit → Act → World → Prop} {a : Act} {w : World} {l : List Oper} (hm : P.follows .mixedOrders = true) (hB : Region.lexB .any l.toArray = true)
    (h : wpQuiet P l.toArray (fun w' => ∃ g, w' = w.ext g) (fun a' => ∀ w', Ext w w' → Q .normal a' w') l a) : (Code.region id l.toArray true).wp P Q a w :=
  wp_region_quiet (C := fun w' => ∃ g, w' = w.ext g) hm hB (Ext.drew w) (by simpa [Ext] using h)
end

theorem calls_ext {P : Program} {f : FuncId} {args : Array Value} {w : World} {g : Junk} {v : Value}
    (h : Calls P f args (w.ext g) fun e w' => e = .returned v ∧ Ext (w.ext g) w') : Calls P f args (w.ext g) fun e w' => e = .returned v ∧ Ext w w' :=
  h.mono fun _ _ ⟨he, g', hg⟩ => ⟨he, ⟨g.blocks ++ g'.blocks, g'.count⟩, by rw [hg, ext_ext]⟩

end Go.Proofs.YtakebbphielbfaaDoor
