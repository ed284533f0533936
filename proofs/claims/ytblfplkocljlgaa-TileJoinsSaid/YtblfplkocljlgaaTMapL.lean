import Derived.Test.YtblfplkocljlgaaTNum2
import Derived.Maps.Own
import Derived.DeepKeys4
namespace Go.Proofs.Ytblfplkocljlgaa
open Go.RowKit Go.ChangeMaps
set_option linter.unusedVariables false
set_option linter.unusedSimpArgs false

theorem laidOut' : laidOutB Try.prog = true := by kernel_rfl

/-- what a key type of maps is -/
structure MapK (k : TypeId) : Prop where
  law : Maps.Keyed Try.prog k
  lit : ∀ x : KK, inK x → ∃ l, keyOf Try.prog k (keyV x) = some l

theorem wf64 (x : Int) (h : -9223372036854775808 ≤ x ∧ x ≤ 9223372036854775807) : (Lit.int .i64 x).wf = true := by
  simp [Lit.wf, IntKind.min, IntKind.max, IntKind.signed, IntKind.bits]; omega

theorem types_some : ∃ m, Try.prog.types.size = m + 1 := by
  have h : 0 < Try.prog.types.size := of_decide_eq_true (by kernel_rfl)
  exact ⟨Try.prog.types.size - 1, by omega⟩
theorem cells_int : Try.prog.cellsOf 3 = 1 := by kernel_rfl
theorem kt_Key : Try.prog.keyType 23 = true := by kernel_rfl
theorem cells_Key : Try.prog.cellsOf 23 = 2 := by kernel_rfl
theorem lits_Key (x y : Int) (m : Nat) (h1 : (Lit.int .i64 x).wf = true) (h2 : (Lit.int .i64 y).wf = true) : Try.prog.keyLits (m + 2) 23 [.int .i64 x, .int .i64 y] = some [.int .i64 x, .int .i64 y] := by
  simp [Program.keyLits, Try.underlying23, Try.underlying3, cells_Key, cells_int, h1, h2]
theorem mapK_Key : MapK 23 where
  law := Maps.Keyed.of_law (deep_law_laid laidOut' (m := 2) (by omega) (of_decide_eq_true (by kernel_rfl)) (by kernel_rfl) (by rw [Try.underlying23]))
  lit x hx := by
    have h1 := wf64 x.1 ⟨hx.1, hx.2.1⟩
    have h2 := wf64 x.2 ⟨hx.2.2.1, hx.2.2.2⟩
    obtain ⟨m, hm⟩ := types_some
    have hf : (Value.agg #[.int .i64 x.1, .int .i64 x.2]).formed Try.prog 23 = true := by simp [Value.formed, Try.underlying23, cells_Key]
    simp [keyV, keyOf, Try.underlying23, kt_Key, hf, hm, Value.cells, lits_Key x.1 x.2 m h1 h2]

theorem kt_RKey : Try.prog.keyType 28 = true := by kernel_rfl
theorem cells_RKey : Try.prog.cellsOf 28 = 2 := by kernel_rfl
theorem lits_RKey (x y : Int) (m : Nat) (h1 : (Lit.int .i64 x).wf = true) (h2 : (Lit.int .i64 y).wf = true) : Try.prog.keyLits (m + 2) 28 [.int .i64 x, .int .i64 y] = some [.int .i64 x, .int .i64 y] := by
  simp [Program.keyLits, Try.underlying28, Try.underlying3, cells_RKey, cells_int, h1, h2]
theorem mapK_RKey : MapK 28 where
  law := Maps.Keyed.of_law (deep_law_laid laidOut' (m := 2) (by omega) (of_decide_eq_true (by kernel_rfl)) (by kernel_rfl) (by rw [Try.underlying28]))
  lit x hx := by
    have h1 := wf64 x.1 ⟨hx.1, hx.2.1⟩
    have h2 := wf64 x.2 ⟨hx.2.2.1, hx.2.2.2⟩
    obtain ⟨m, hm⟩ := types_some
    have hf : (Value.agg #[.int .i64 x.1, .int .i64 x.2]).formed Try.prog 28 = true := by simp [Value.formed, Try.underlying28, cells_RKey]
    simp [keyV, keyOf, Try.underlying28, kt_RKey, hf, hm, Value.cells, lits_RKey x.1 x.2 m h1 h2]

theorem keyV_inj {a b : KK} (h : keyV a = keyV b) : a = b := by
  unfold keyV at h
  simp at h
  exact Prod.ext h.1 h.2

/-- a map in memory: its keys and what they hold, in the order in which they came -/
def MapAt (w : World) (B : Nat) (l : List (KK × Value)) : Prop :=
  ∃ es clock, w.heap[B]? = some (.map es clock) ∧ es.toList.map (fun e => (e.key, e.val)) = l.map (fun p => (keyV p.1, p.2)) ∧ (l.map (·.1)).Nodup ∧ ∀ p ∈ l, inK p.1

def lookK (l : List (KK × Value)) (k : KK) : Option Value := (l.find? (fun p => decide (p.1 = k))).map (·.2)

theorem MapAt.lt {w : World} {B : Nat} {l : List (KK × Value)} (h : MapAt w B l) : B < w.heap.size := by
  obtain ⟨es, clock, hb, _⟩ := h
  exact (Array.getElem?_eq_some_iff.1 hb).1

theorem MapAt.block {w w' : World} {B : Nat} {l : List (KK × Value)} (h : MapAt w B l) (hb : w'.heap[B]? = w.heap[B]?) : MapAt w' B l := by
  obtain ⟨es, clock, h1, h2⟩ := h
  exact ⟨es, clock, hb.trans h1, h2⟩

theorem MapAt.ext {w w' : World} {B : Nat} {l : List (KK × Value)} (h : MapAt w B l) (he : Ext w w') : MapAt w' B l := by
  obtain ⟨es, clock, h1, h2⟩ := h
  exact ⟨es, clock, he.heapAt h1, h2⟩

theorem MapAt.made (w : World) : MapAt (w.alloc (.map #[] 0)) w.heap.size [] := ⟨#[], 0, heap_alloc_new _ _, rfl, by simp, by simp⟩

theorem pairs_at {es : List MapEntry} {l : List (KK × Value)} (h : es.map (fun e => (e.key, e.val)) = l.map (fun p => (keyV p.1, p.2))) (j : Nat) :
    (es[j]?).map (fun e => (e.key, e.val)) = (l[j]?).map (fun p => (keyV p.1, p.2)) := by
  rw [← List.getElem?_map, ← List.getElem?_map, h]

theorem pairs_keys {es : List MapEntry} {l : List (KK × Value)} (h : es.map (fun e => (e.key, e.val)) = l.map (fun p => (keyV p.1, p.2))) {e : MapEntry} (he : e ∈ es) : ∃ p ∈ l, e.key = keyV p.1 ∧ e.val = p.2 := by
  have : (e.key, e.val) ∈ l.map (fun p => (keyV p.1, p.2)) := h ▸ List.mem_map.2 ⟨e, he, rfl⟩
  obtain ⟨p, hp, hq⟩ := List.mem_map.1 this
  simp only [Prod.mk.injEq] at hq
  exact ⟨p, hp, hq.1.symm, hq.2.symm⟩

/-- what a search finds -/
theorem find_key {K : TypeId} (hK : MapK K) {w : World} {es : Array MapEntry} {l : List (KK × Value)} (h : es.toList.map (fun e => (e.key, e.val)) = l.map (fun p => (keyV p.1, p.2))) (hn : (l.map (·.1)).Nodup) (hin : ∀ p ∈ l, inK p.1) (k : KK) (hk : inK k) :
    ((Instr.findKey K (keyV k) es.toList).run Try.prog w = .ok none w ∧ (∀ p ∈ l, p.1 ≠ k)) ∨ ∃ j v, j < l.length ∧ (Instr.findKey K (keyV k) es.toList).run Try.prog w = .ok (some (j, v)) w ∧ l[j]? = some (k, v) := by
  obtain ⟨lx, hlx⟩ := hK.lit k hk
  rcases hK.law.find w hlx es.toList (fun e he => by
    obtain ⟨p, hp, h1, _⟩ := pairs_keys h he
    rw [h1]; exact hK.lit p.1 (hin p hp)) with ⟨h1, h2⟩ | ⟨j, e, h1, h2, h3⟩
  · refine .inl ⟨h1, fun p hp e => ?_⟩
    subst e
    have : (keyV p.1, p.2) ∈ es.toList.map (fun e => (e.key, e.val)) := h ▸ List.mem_map.2 ⟨p, hp, rfl⟩
    obtain ⟨e, he, hq⟩ := List.mem_map.1 this
    simp only [Prod.mk.injEq] at hq
    exact h2 e he hq.1
  · have hj := pairs_at h j
    rw [h2] at hj
    simp only [Option.map_some] at hj
    cases hl : l[j]? with
    | none => rw [hl] at hj; cases hj
    | some p =>
      rw [hl] at hj
      simp only [Option.map_some, Option.some.injEq, Prod.mk.injEq] at hj
      have : p.1 = k := keyV_inj (hj.1.symm.trans h3)
      obtain ⟨p1, p2⟩ := p
      simp only at this hj
      subst this
      exact .inr ⟨j, e.val, (List.getElem?_eq_some_iff.1 hl).1, h1, by rw [hj.2]; exact hl⟩

theorem lookK_none {l : List (KK × Value)} {k : KK} (h : ∀ p ∈ l, p.1 ≠ k) : lookK l k = none := by
  unfold lookK
  rw [List.find?_eq_none.2 (fun p hp => by simpa using h p hp)]; rfl

theorem nodup_at {l : List (KK × Value)} (hn : (l.map (·.1)).Nodup) {i j : Nat} {k : KK} {v u : Value} (hi : l[i]? = some (k, v)) (hj : l[j]? = some (k, u)) : i = j := by
  have hi' : (l.map (·.1))[i]? = some k := by rw [List.getElem?_map, hi]; rfl
  have hj' : (l.map (·.1))[j]? = some k := by rw [List.getElem?_map, hj]; rfl
  obtain ⟨a, ha⟩ := List.getElem?_eq_some_iff.1 hi'
  obtain ⟨b, hb⟩ := List.getElem?_eq_some_iff.1 hj'
  rcases Nat.lt_trichotomy i j with h | h | h
  · exact absurd (ha.trans hb.symm) (List.pairwise_iff_getElem.1 hn i j a b h)
  · exact h
  · exact absurd (hb.trans ha.symm) (List.pairwise_iff_getElem.1 hn j i b a h)

theorem lookK_some {l : List (KK × Value)} (hn : (l.map (·.1)).Nodup) {j : Nat} {k : KK} {v : Value} (h : l[j]? = some (k, v)) : lookK l k = some v := by
  unfold lookK
  cases hf : l.find? (fun p => decide (p.1 = k)) with
  | none =>
    have := List.find?_eq_none.1 hf (k, v) (List.mem_of_getElem? h)
    simp at this
  | some q =>
    obtain ⟨i, hi, hq, _⟩ := List.find?_eq_some_iff_getElem.1 hf |>.2
    have hk := (List.find?_eq_some_iff_getElem.1 hf).1
    simp only [decide_eq_true_eq] at hk
    obtain ⟨q1, q2⟩ := q
    simp only at hk
    subst hk
    have := nodup_at hn (by rw [List.getElem?_eq_getElem hi, hq]) h
    subst this
    rw [List.getElem?_eq_getElem hi, hq] at h
    simp only [Option.some.injEq, Prod.mk.injEq, true_and] at h
    rw [h]; rfl

/-- 'm[k]' and 'v, ok := m[k]' -/
theorem run_look {t K E : TypeId} (hK : MapK K) (ht : Try.prog.underlying t = some (.map K E)) {z : Value} (hz : ∀ w, (zeroValue E).run Try.prog w = .ok z w) {w : World} {B : Nat} {l : List (KK × Value)} (h : MapAt w B l) (c : Bool) (k : KK) (hk : inK k) :
    (Instr.lookup t (.map (some B)) (keyV k) c).run Try.prog w = .ok (if c then .tuple #[(lookK l k).getD z, .bool (lookK l k).isSome] else (lookK l k).getD z) w := by
  obtain ⟨es, clock, hb, h1, hn, hin⟩ := h
  obtain ⟨lx, hlx⟩ := hK.lit k hk
  rcases find_key hK (w := w) h1 hn hin k hk with ⟨h2, h3⟩ | ⟨j, v, hj, h2, h3⟩
  · rw [lookK_none h3]
    cases c <;> simp [Instr.lookup, run_underlying ht, MapKept.run_getObj_map hb, hK.law.check w _ hlx, h2, hz, Result.andThen]
  · rw [lookK_some hn h3]
    cases c <;> simp [Instr.lookup, run_underlying ht, MapKept.run_getObj_map hb, hK.law.check w _ hlx, h2, Result.andThen]

def putK (l : List (KK × Value)) (k : KK) (v : Value) : List (KK × Value) := if l.any (fun p => decide (p.1 = k)) then l.map (fun p => if p.1 = k then (k, v) else p) else l ++ [(k, v)]
def delK (l : List (KK × Value)) (k : KK) : List (KK × Value) := l.filter (fun p => decide (p.1 ≠ k))

theorem setBlock_keep {w : World} {B : Nat} {o : Obj} : Keep w (setBlock w B o) (fun k => k = B) :=
  ⟨rfl, rfl, rfl, by simp [setBlock], fun k _ hk => by simp only [setBlock, Array.getElem?_setIfInBounds]; rw [if_neg (fun e => hk e.symm)]⟩

theorem set_eq_map {l : List (KK × Value)} (hn : (l.map (·.1)).Nodup) {j : Nat} {k : KK} {v u : Value} (hj : l[j]? = some (k, v)) : l.set j (k, u) = l.map (fun p => if p.1 = k then (k, u) else p) := by
  apply List.ext_getElem?
  intro i
  rw [List.getElem?_set, List.getElem?_map]
  by_cases e : j = i
  · subst e
    rw [if_pos rfl, hj, if_pos (List.getElem?_eq_some_iff.1 hj).1]; simp
  · rw [if_neg e]
    cases hi : l[i]? with
    | none => rfl
    | some p =>
      obtain ⟨p1, p2⟩ := p
      simp only [Option.map_some, Option.some.injEq]
      rw [if_neg]
      rintro rfl
      exact e (nodup_at hn hj hi)

/-- 'm[k] = v' -/
theorem run_put {t K E : TypeId} (hK : MapK K) (ht : Try.prog.underlying t = some (.map K E)) {w : World} {B : Nat} {l : List (KK × Value)} (h : MapAt w B l) (k : KK) (hk : inK k) (v : Value) (hsz : l.length < 1000000) :
    ∃ w', (Instr.mapUpdate t (.map (some B)) (keyV k) v).run Try.prog w = .ok () w' ∧ MapAt w' B (putK l k v) ∧ Keep w w' (fun b => b = B) := by
  obtain ⟨es, clock, hb, h1, hn, hin⟩ := h
  obtain ⟨lx, hlx⟩ := hK.lit k hk
  rcases find_key hK (w := w) h1 hn hin k hk with ⟨h2, h3⟩ | ⟨j, u, hj, h2, h3⟩
  · refine ⟨setBlock w B (.map (es.push ⟨keyV k, v, clock⟩) (clock + 1)), ?_, ?_, setBlock_keep⟩
    · simp [Instr.mapUpdate, run_underlying ht, MapKept.run_getObj_map hb, hK.law.check w false hlx, h2, MapKept.run_setObj_map _ hb, Result.andThen, setBlock]
    · have ha : l.any (fun p => decide (p.1 = k)) = false := by rw [List.any_eq_false]; intro p hp; simpa using h3 p hp
      unfold putK
      rw [if_neg (by rw [ha]; simp)]
      refine ⟨_, _, heap_setBlock_same hb _, by simp [h1], ?_, ?_⟩
      · rw [List.map_append, List.nodup_append]
        refine ⟨hn, by simp, fun a ha b hb e => ?_⟩
        obtain ⟨p, hp, rfl⟩ := List.mem_map.1 ha
        simp only [List.map_cons, List.map_nil, List.mem_singleton] at hb
        exact h3 p hp (e.trans hb)
      · intro p hp
        rcases List.mem_append.1 hp with hp | hp
        · exact hin p hp
        · rw [List.mem_singleton.1 hp]; exact hk
  · have hjl : j < es.toList.length := by have := congrArg List.length h1; simp at this; simp; omega
    have he := pairs_at h1 j
    rw [h3, List.getElem?_eq_getElem hjl] at he
    simp only [Option.map_some, Option.some.injEq, Prod.mk.injEq] at he
    have hj' : es[j]? = some es.toList[j] := by rw [← Array.getElem?_toList, List.getElem?_eq_getElem hjl]
    have hgl := List.getElem?_eq_getElem hjl
    obtain ⟨e0, he0⟩ : ∃ e0, es.toList[j] = e0 := ⟨_, rfl⟩
    rw [he0] at he hj' hgl
    clear he0
    have ha : l.any (fun p => decide (p.1 = k)) = true := List.any_eq_true.2 ⟨(k, u), List.mem_of_getElem? h3, by simp⟩
    refine ⟨setBlock w B (.map (es.modify j (fun e' => { e' with key := keyV k, val := v })) clock), ?_, ?_, setBlock_keep⟩
    · simp [Instr.mapUpdate, run_underlying ht, MapKept.run_getObj_map hb, hK.law.check w false hlx, h2, hj', he.1, hK.law.stays w hlx, MapKept.run_setObj_map _ hb, Result.andThen, setBlock]
    · unfold putK
      rw [if_pos ha, ← set_eq_map hn h3 (u := v)]
      refine ⟨_, _, heap_setBlock_same hb _, ?_, ?_, ?_⟩
      · rw [Array.toList_modify, modify_eq_set _ _ _ _ hgl, List.map_set, List.map_set, h1]
      · rw [List.map_set]
        have : (l.map (·.1)).set j k = l.map (·.1) := by
          apply List.ext_getElem?
          intro i
          rw [List.getElem?_set]
          by_cases e : j = i
          · subst e
            rw [if_pos rfl, List.getElem?_map, h3, if_pos (by simpa using hj)]; rfl
          · rw [if_neg e]
        show ((l.map (·.1)).set j k).Nodup
        rw [this]; exact hn
      · intro p hp
        rcases List.mem_or_eq_of_mem_set hp with hp | rfl
        · exact hin p hp
        · exact hk

theorem filter_erase {l : List (KK × Value)} (hn : (l.map (·.1)).Nodup) {j : Nat} {k : KK} {v : Value} (hj : l[j]? = some (k, v)) : l.eraseIdx j = delK l k := by
  induction l generalizing j with
  | nil => simp at hj
  | cons p l ih =>
    obtain ⟨h1, h2⟩ := List.nodup_cons.1 hn
    cases j with
    | zero =>
      simp only [List.getElem?_cons_zero, Option.some.injEq] at hj
      subst hj
      unfold delK
      simp only [List.eraseIdx_cons_zero, ne_eq, not_true, decide_false, List.filter_cons_of_neg, Bool.false_eq_true, not_false_eq_true]
      rw [List.filter_eq_self.2]
      intro q hq
      simp only [decide_eq_true_eq]
      exact fun e => h1 (List.mem_map.2 ⟨q, hq, e⟩)
    | succ j =>
      simp only [List.getElem?_cons_succ] at hj
      have hne : p.1 ≠ k := fun e => h1 (List.mem_map.2 ⟨(k, v), List.mem_of_getElem? hj, e.symm⟩)
      have hi := ih h2 hj
      unfold delK at hi ⊢
      rw [List.eraseIdx_cons_succ, hi, List.filter_cons_of_pos (by simpa using hne)]

/-- 'delete(m, k)' -/
theorem run_del {t K E : TypeId} (ty : TypeId) (hK : MapK K) (ht : Try.prog.underlying t = some (.map K E)) {w : World} {B : Nat} {l : List (KK × Value)} (h : MapAt w B l) (k : KK) (hk : inK k) :
    ∃ w', (Builtin.delete_ #[t, K] ty #[.map (some B), keyV k]).run Try.prog w = .ok (.tuple #[]) w' ∧ MapAt w' B (delK l k) ∧ Keep w w' (fun b => b = B) := by
  obtain ⟨es, clock, hb, h1, hn, hin⟩ := h
  obtain ⟨lx, hlx⟩ := hK.lit k hk
  rcases find_key hK (w := w) h1 hn hin k hk with ⟨h2, h3⟩ | ⟨j, u, hj, h2, h3⟩
  · refine ⟨setBlock w B (.map es clock), ?_, ?_, setBlock_keep⟩
    · simp [Builtin.delete_, run_underlying ht, MapKept.run_getObj_map hb, hK.law.check w _ hlx, h2, MapKept.run_setObj_map _ hb, Result.andThen, setBlock]
    · have : delK l k = l := List.filter_eq_self.2 (fun p hp => by simpa using h3 p hp)
      rw [this]
      exact ⟨_, _, heap_setBlock_same hb _, h1, hn, hin⟩
  · have hjl : j < es.toList.length := by have := congrArg List.length h1; simp at this; simp; omega
    have hjs : j < es.size := by simpa using hjl
    have hsub : (es.eraseIdxIfInBounds j).toList = es.toList.eraseIdx j := by
      unfold Array.eraseIdxIfInBounds
      rw [dif_pos hjs]
      simp
    refine ⟨setBlock w B (.map (es.eraseIdxIfInBounds j) clock), ?_, ?_, setBlock_keep⟩
    · simp [Builtin.delete_, run_underlying ht, MapKept.run_getObj_map hb, hK.law.check w _ hlx, h2, MapKept.run_setObj_map _ hb, Result.andThen, setBlock]
    · refine ⟨_, _, heap_setBlock_same hb _, ?_, ?_, fun p hp => hin p (List.mem_filter.1 hp).1⟩
      · rw [hsub, map_eraseIdx, h1, ← map_eraseIdx, filter_erase hn h3]
      · exact (List.Sublist.map _ List.filter_sublist).nodup hn

/-- 'clear(m)' -/
theorem run_clearM {t K E : TypeId} (ty : TypeId) (ht : Try.prog.underlying t = some (.map K E)) {w : World} {B : Nat} {l : List (KK × Value)} (h : MapAt w B l) :
    ∃ w', (Builtin.clear_ #[t] ty #[.map (some B)]).run Try.prog w = .ok (.tuple #[]) w' ∧ MapAt w' B [] ∧ Keep w w' (fun b => b = B) := by
  obtain ⟨es, clock, hb, h1, hn, hin⟩ := h
  refine ⟨setBlock w B (.map #[] clock), ?_, ⟨_, _, heap_setBlock_same hb _, rfl, by simp, by simp⟩, setBlock_keep⟩
  simp [Builtin.clear_, run_underlying ht, MapKept.run_getObj_map hb, MapKept.run_setObj_map _ hb, Result.andThen, setBlock]

end Go.Proofs.Ytblfplkocljlgaa
