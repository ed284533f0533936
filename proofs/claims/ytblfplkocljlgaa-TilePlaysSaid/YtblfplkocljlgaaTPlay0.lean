import Derived.Test.YtblfplkocljlgaaTRefP2
import Derived.Test.YtblfplkocljlgaaTEq
namespace Go.Proofs.Ytblfplkocljlgaa
open Go.RowKit Go.ChangeMaps
set_option linter.unusedVariables false
set_option linter.unusedSimpArgs false

/-- one call of a script -/
structure OpT where
  kind : Int
  x : Int
  y : Int
  fill : Nat
  wide : Bool
  b0 : Int
  b1 : Int
  b2 : Int
  b3 : Int
def OpT.cells (o : OpT) : List Value := [.int .i64 o.kind, .int .i64 o.x, .int .i64 o.y, .int .u8 (o.fill : Int), .bool o.wide, .int .i64 o.b0, .int .i64 o.b1, .int .i64 o.b2, .int .i64 o.b3]
structure OpT.Ok (o : OpT) : Prop where
  kind : -9223372036854775808 ≤ o.kind ∧ o.kind ≤ 9223372036854775807
  key : inK (o.x, o.y)
  fill : o.fill ≤ 255
  b0 : -9223372036854775808 ≤ o.b0 ∧ o.b0 ≤ 9223372036854775807
  b1 : -9223372036854775808 ≤ o.b1 ∧ o.b1 ≤ 9223372036854775807
  b2 : -9223372036854775808 ≤ o.b2 ∧ o.b2 ≤ 9223372036854775807
  b3 : -9223372036854775808 ≤ o.b3 ∧ o.b3 ≤ 9223372036854775807

theorem Kys.keep {w w' : World} {v : Value} {l : List KK} {X : Nat → Prop} (h : Kys w v l) (hk : Keep w w' X) (hX : ∀ b, b < w.heap.size → v.ownBlock = some b → ¬ X b) : Kys w' v l := by
  obtain ⟨A, cap, h1, h2, h3, h4, h5, h6⟩ := h
  refine ⟨A, cap, h1, h2, h3, h4, h5, fun hn => ?_⟩
  obtain ⟨b, off, e1, e2, e3⟩ := h6 hn
  have nb : ¬ X b := hX b e2 (by rw [h1, e1]; rfl)
  exact ⟨b, off, e1, Nat.lt_of_lt_of_le e2 hk.size, fun i hi j hj => by rw [hk.cell e2 nb]; exact e3 i hi j hj⟩

/-- a cache, and a list of keys and a map beside it -/
structure PSh (w wr : World) (most cc : Nat) (m : TM) (S : Nat → Prop) (LV : Value) (K : List KK) (FB : Nat) (fl : List (KK × Value)) : Prop where
  tk : TK wr cc m S
  ok : m.Ok
  mo : m.most = most
  ls : Kys wr LV K
  lb : ∀ b, LV.ownBlock = some b → ¬ S b ∧ b ≠ FB ∧ b < wr.heap.size
  mp : MapAt wr FB fl
  fS : ¬ S FB
  flo : w.heap.size ≤ FB
  slo : ∀ b, S b → w.heap.size ≤ b
  ext : Ext w wr

/-- .. which are what the document's answer keeps -/
structure PSt (w wr : World) (most cc : Nat) (m : TM) (S : Nat → Prop) (LV : Value) (FB : Nat) (fl : List (KK × Value)) : Prop where
  sh : PSh w wr most cc m S LV m.keys FB fl
  fill : ∀ t ∈ m.l, ∃ n : Nat, n ≤ 255 ∧ t.2 = List.replicate 64 ((n, 0, 0, 255) : Px) ∧ lookK fl t.1 = some (.int .u8 (n : Int))

section
variable {w wr wr' : World} {most cc : Nat} {m m' : TM} {S S' : Nat → Prop} {LV LV' : Value} {K K' : List KK} {FB : Nat} {fl fl' : List (KK × Value)}

theorem PSh.grow (h : PSh w wr most cc m S LV K FB fl) (he : Ext wr wr') : PSh w wr' most cc m S LV K FB fl :=
  ⟨h.tk.ext he, h.ok, h.mo, h.ls.ext he, fun b hb => ⟨(h.lb b hb).1, (h.lb b hb).2.1, Nat.lt_of_lt_of_le (h.lb b hb).2.2 he.size⟩, h.mp.ext he, h.fS, h.flo, h.slo, h.ext.trans he⟩
theorem PSt.grow (h : PSt w wr most cc m S LV FB fl) (he : Ext wr wr') : PSt w wr' most cc m S LV FB fl := ⟨h.sh.grow he, h.fill⟩

/-- pixels of one's own are written -/
theorem PSh.own (h : PSh w wr most cc m S LV K FB fl) {g : Nat} (hk : Keep wr wr' (fun b => b = g)) (hg : w.heap.size ≤ g) (h1 : ¬ S g) (h2 : g ≠ FB) (h3 : LV.ownBlock ≠ some g) : PSh w wr' most cc m S LV K FB fl :=
  ⟨h.tk.keep hk (fun b hb e => h1 (e ▸ hb)), h.ok, h.mo, h.ls.keep hk (fun b hb e1 e2 => h3 (e2 ▸ e1)), fun b hb => ⟨(h.lb b hb).1, (h.lb b hb).2.1, Nat.lt_of_lt_of_le (h.lb b hb).2.2 hk.size⟩, h.mp.block (hk.block FB h.mp.lt (fun e => h2 e.symm)), h.fS, h.flo, h.slo, Keep.toExt h.ext hk (fun b e => by rw [e]; exact hg)⟩

/-- the cache has turned -/
theorem PSh.turn (h : PSh w wr most cc m S LV K FB fl) (hT : TK wr' cc m' S') (hok : m'.Ok) (hmo : m'.most = most) (hS : ∀ b, S' b → S b ∨ wr.heap.size ≤ b) (hk : Keep wr wr' S) : PSh w wr' most cc m' S' LV K FB fl :=
  ⟨hT, hok, hmo, h.ls.keep hk (fun b _ hb => (h.lb b hb).1), fun b hb => ⟨fun e => by
    rcases hS b e with h1 | h1
    · exact (h.lb b hb).1 h1
    · have := (h.lb b hb).2.2; omega, (h.lb b hb).2.1, Nat.lt_of_lt_of_le (h.lb b hb).2.2 hk.size⟩, h.mp.block (hk.block FB h.mp.lt h.fS), fun e => by
    rcases hS FB e with h1 | h1
    · exact h.fS h1
    · have := h.mp.lt; omega, h.flo, fun b hb => by
    rcases hS b hb with h1 | h1
    · exact h.slo b h1
    · exact Nat.le_trans h.ext.size h1, Keep.toExt h.ext hk (fun b hb => h.slo b hb)⟩

/-- another list of keys -/
theorem PSh.list (h : PSh w wr most cc m S LV K FB fl) (hL : Kys wr LV' K') (hlb : ∀ b, LV'.ownBlock = some b → ¬ S b ∧ b ≠ FB ∧ b < wr.heap.size) : PSh w wr most cc m S LV' K' FB fl :=
  ⟨h.tk, h.ok, h.mo, hL, hlb, h.mp, h.fS, h.flo, h.slo, h.ext⟩

/-- the map has turned -/
theorem PSh.put (h : PSh w wr most cc m S LV K FB fl) (hM : MapAt wr' FB fl') (hk : Keep wr wr' (fun b => b = FB)) : PSh w wr' most cc m S LV K FB fl' :=
  ⟨h.tk.keep hk (fun b hb e => h.fS (e ▸ hb)), h.ok, h.mo, h.ls.keep hk (fun b _ hb e => (h.lb b hb).2.1 e), fun b hb => ⟨(h.lb b hb).1, (h.lb b hb).2.1, Nat.lt_of_lt_of_le (h.lb b hb).2.2 hk.size⟩, hM, h.fS, h.flo, h.slo, Keep.toExt h.ext hk (fun b e => by rw [e]; exact h.flo)⟩
end

theorem own_cells {κ : IntKind} {T : TypeId} {base : Nat} {w : World} {A : Option Addr} {n c : Nat} {l : List Px} (h : OwnP κ T base w (.slice A n c) l) (hn : 0 < n) : ∃ g cur, A = some ⟨g, 0, none⟩ ∧ w.heap[g]? = some (.cells cur T (0, 0)) ∧ n * 4 ≤ cur.size ∧ base ≤ g ∧ g < w.heap.size := by
  rcases h.1.2 with ⟨e, _⟩ | ⟨g, cap, cur, e, hb, hg, h1, h2, h3, h4⟩
  · simp at e; omega
  · simp only [Value.slice.injEq] at e
    obtain ⟨rfl, rfl, rfl⟩ := e
    exact ⟨g, cur, rfl, hg, by rw [h3]; exact Nat.mul_le_mul_right _ h1, hb, (Array.getElem?_eq_some_iff.1 hg).1⟩

theorem find_mem (m : TM) (k : KK) : (m.find k).isSome = decide (k ∈ m.keys) := by
  unfold TM.find TM.keys
  rw [Option.isSome_map]
  cases hf : m.l.find? (fun t => decide (t.1 = k)) with
  | none =>
    symm
    rw [Option.isSome_none, decide_eq_false_iff_not]
    intro h
    obtain ⟨t, ht, e⟩ := List.mem_map.1 h
    have := List.find?_eq_none.1 hf t ht
    simp [e] at this
  | some t =>
    symm
    rw [Option.isSome_some, decide_eq_true_eq]
    have := List.find?_some hf
    simp only [decide_eq_true_eq] at this
    exact List.mem_map.2 ⟨t, List.mem_of_find?_eq_some hf, this⟩

theorem find_at (m : TM) (k : KK) {px : List Px} (h : m.find k = some px) : ∃ t ∈ m.l, t.1 = k ∧ t.2 = px := by
  unfold TM.find at h
  cases hf : m.l.find? (fun t => decide (t.1 = k)) with
  | none => rw [hf] at h; cases h
  | some t =>
    rw [hf] at h
    simp only [Option.map_some, Option.some.injEq] at h
    have := List.find?_some hf
    simp only [decide_eq_true_eq] at this
    exact ⟨t, List.mem_of_find?_eq_some hf, this, h⟩

theorem dropK_head (l : List KK) (hn : l.Nodup) (h : 0 < l.length) : dropK l (l.getD 0 noK) = l.tail := by
  cases l with
  | nil => simp at h
  | cons a l =>
    obtain ⟨h1, h2⟩ := List.nodup_cons.1 hn
    unfold dropK
    simp only [List.getD_cons_zero, List.tail_cons]
    rw [List.filter_cons_of_neg (by simp)]
    exact List.filter_eq_self.2 (fun b hb => by
      simp only [decide_eq_true_eq]
      exact fun e => h1 (e ▸ hb))

theorem put_keys (m : TM) (k : KK) (p : List Px) (hn : m.keys.Nodup) : (m.put k p).keys = putL m.keys k m.most := by
  have h1 : ((m.gone k).add k p).keys = dropK m.keys k ++ [k] := by rw [TM.keys_add, TM.keys_gone]
  have hnd : (dropK m.keys k ++ [k]).Nodup := by
    rw [List.nodup_append]
    refine ⟨List.Pairwise.filter _ hn, by simp, fun a ha b hb e => ?_⟩
    simp only [List.mem_singleton] at hb
    have := (List.mem_filter.1 ha).2
    simp only [decide_eq_true_eq] at this
    exact this (e.trans hb)
  have hl : ((m.gone k).add k p).l.length = (dropK m.keys k ++ [k]).length := by rw [← h1, keys_len]
  unfold TM.put TM.trim putL
  rw [hl]
  show TM.keys (if m.most < _ then _ else _) = _
  split
  · rw [TM.keys_gone, h1, dropK_head _ hnd (by simp)]
  · exact h1

theorem put_mem (m : TM) (k : KK) (p : List Px) : ∀ t ∈ (m.put k p).l, (t ∈ m.l ∧ t.1 ≠ k) ∨ t = (k, p) := by
  intro t ht
  have h : t ∈ ((m.gone k).add k p).l := by
    unfold TM.put TM.trim at ht
    split at ht
    · exact (List.mem_filter.1 ht).1
    · exact ht
  rcases List.mem_append.1 h with h | h
  · exact .inl ⟨(List.mem_filter.1 h).1, by simpa using (List.mem_filter.1 h).2⟩
  · exact .inr (List.mem_singleton.1 h)

theorem look_put (l : List (KK × Value)) (k j : KK) (v : Value) : lookK (putK l k v) j = if j = k then some v else lookK l j := by
  unfold putK
  by_cases ha : l.any (fun p => decide (p.1 = k)) = true
  · rw [if_pos ha]
    unfold lookK
    rw [List.find?_map]
    have e : ((fun p : KK × Value => decide (p.1 = j)) ∘ fun p => if p.1 = k then (k, v) else p) = fun p => decide (p.1 = j) := by
      funext p
      simp only [Function.comp]
      by_cases h : p.1 = k
      · simp [h]
      · simp [h]
    rw [e]
    cases hf : l.find? (fun p => decide (p.1 = j)) with
    | none =>
      by_cases hj : j = k
      · subst hj
        exfalso
        obtain ⟨p, hp, hq⟩ := List.any_eq_true.1 ha
        have := List.find?_eq_none.1 hf p hp
        exact this hq
      · rw [if_neg hj]; rfl
    | some p =>
      have := List.find?_some hf
      simp only [decide_eq_true_eq] at this
      by_cases hj : j = k
      · rw [if_pos hj]
        simp only [Option.map_some]
        rw [if_pos (this.trans hj)]
      · rw [if_neg hj]
        simp only [Option.map_some]
        rw [if_neg (fun e => hj (this.symm.trans e))]
  · rw [if_neg ha]
    unfold lookK
    rw [List.find?_append]
    by_cases hj : j = k
    · rw [if_pos hj]
      have hn : l.find? (fun p => decide (p.1 = j)) = none := by
        rw [List.find?_eq_none]
        intro p hp hq
        exact ha (List.any_eq_true.2 ⟨p, hp, by simpa [hj] using hq⟩)
      rw [hn]
      simp [hj]
    · rw [if_neg hj]
      have : ([(k, v)] : List (KK × Value)).find? (fun p => decide (p.1 = j)) = none := by simp; exact fun e => hj e.symm
      rw [this, Option.or_none]

theorem putK_len (l : List (KK × Value)) (k : KK) (v : Value) : (putK l k v).length ≤ l.length + 1 := by
  unfold putK
  split <;> simp

end Go.Proofs.Ytblfplkocljlgaa
