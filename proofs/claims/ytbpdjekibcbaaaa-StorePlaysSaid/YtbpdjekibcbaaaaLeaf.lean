/- What comes in, opened down to its cells, whatever structs and arrays it is made of. Lemmas only. -/
import Derived.Test.YtbpdjekibcbaaaaOpen
import Derived.Deep.Slices
set_option linter.unusedVariables false
set_option linter.unusedSimpArgs false
namespace Go.Proofs.Ytbpdjekibcbaaaa
open Go Go.ChangeShapes Go.WideShapes Go.ChangeAt Go.RowKit Go.Deep

section
variable {H : Type} {enc : TypeId × Value → H} {P : Program} {w : World} {base : Nat} {sp : Nat → Bool} {held : Bool}

/-- The types of a type's cells, one by one. -/
def structLeafs (P : Program) (f : TypeId → Option (List TypeId)) : Nat → List Field → Option (List TypeId)
  | _, [] => some []
  | off, x :: xs => if x.offset = off then (f x.type).bind fun a => if P.cellsOf x.type = a.length then (structLeafs P f (off + a.length) xs).map fun b => a ++ b else none else none

def leafs (P : Program) : Nat → TypeId → Option (List TypeId)
  | 0, _ => none
  | m + 1, t => match P.underlying t with
    | some (.struct fs) => structLeafs P (leafs P m) 0 fs.toList
    | some (.array n e) => (leafs P m e).bind fun a => if P.cellsOf e = a.length then some (List.replicate n a).flatten else none
    | _ => some [t]

theorem trod_single {t : TypeId} {fuel : Nat} {cs : List Value} {x : DataW H × List MemPlace} (ht : ∀ fs, P.underlying t ≠ some (.struct fs)) (ha : ∀ n e, P.underlying t ≠ some (.array n e))
    (h : DataW.trod enc P w base sp held fuel t cs = some x) : ∃ v, cs = [v] := by
  cases fuel with
  | zero => simp [DataW.trod] at h
  | succ n =>
    unfold DataW.trod at h
    split at h
    all_goals first | exact ⟨_, rfl⟩ | exact absurd ‹_› (ht _) | exact absurd ‹_› (ha _ _) | (simp at h)

/-- each cell reads as its type says -/
def LeafsRead (enc : TypeId × Value → H) (P : Program) (w : World) (base : Nat) (sp : Nat → Bool) (held : Bool) (ts : List TypeId) (cs : List Value) : Prop :=
  cs.length = ts.length ∧ ∀ (j : Nat) (t : TypeId), ts[j]? = some t → ∃ v, cs[j]? = some v ∧ ∃ (n : Nat) (y : DataW H × List MemPlace), DataW.trod enc P w base sp held n t [v] = some y

theorem LeafsRead.append {ts us : List TypeId} {cs ds : List Value} (h1 : LeafsRead enc P w base sp held ts cs) (h2 : LeafsRead enc P w base sp held us ds) :
    LeafsRead enc P w base sp held (ts ++ us) (cs ++ ds) := by
  obtain ⟨l1, r1⟩ := h1
  obtain ⟨l2, r2⟩ := h2
  refine ⟨by simp [l1, l2], fun j t hj => ?_⟩
  by_cases hlt : j < ts.length
  · rw [List.getElem?_append_left hlt] at hj
    rw [List.getElem?_append_left (by omega)]
    exact r1 j t hj
  · rw [List.getElem?_append_right (by omega)] at hj
    rw [List.getElem?_append_right (by omega), l1]
    exact r2 _ t hj

theorem leafs_read (m : Nat) : ∀ {t : TypeId} {fuel : Nat} {cs : List Value} {x : DataW H × List MemPlace} {ts : List TypeId}, leafs P m t = some ts →
    DataW.trod enc P w base sp held fuel t cs = some x → cs.length = P.cellsOf t → P.cellsOf t = ts.length → LeafsRead enc P w base sp held ts cs := by
  induction m with
  | zero => intro t fuel cs x ts h; simp [leafs] at h
  | succ m ih =>
    intro t fuel cs x ts hl h hlen hc
    unfold leafs at hl
    split at hl
    · rename_i fs hu
      obtain ⟨xs, n, rfl, -, hcl, hxl, hf⟩ := DataW.trod_struct hu h
      -- field by field
      have key : ∀ (l : List Field) (off k : Nat) (us : List TypeId), (∀ i, l[i]? = fs[k + i]?) → structLeafs P (leafs P m) off l = some us → off + us.length ≤ cs.length →
          LeafsRead enc P w base sp held us ((cs.drop off).take us.length) := by
        intro l
        induction l with
        | nil => intro off k us _ h1 _; simp [structLeafs] at h1; subst h1; exact ⟨by simp, fun j t hj => by simp at hj⟩
        | cons f l ihl =>
          intro off k us hk h1 hle
          simp only [structLeafs] at h1
          split at h1
          case isFalse => cases h1
          rename_i hoff
          obtain ⟨a, ha, h1⟩ := Option.bind_eq_some_iff.1 h1
          split at h1
          case isFalse => cases h1
          rename_i hca
          obtain ⟨b, hb, hus⟩ := Option.map_eq_some_iff.1 h1
          subst hus
          have hfk : fs[k]? = some f := by have := hk 0; simpa using this.symm
          have hlt : k < fs.size := (Array.getElem?_eq_some_iff.1 hfk).1
          have h2 := hf k f hfk
          rw [List.getElem?_eq_getElem (by omega)] at h2
          simp only [List.length_append] at hle
          have h3 := ih ha h2 (by rw [hoff, hca]; simp; omega) hca
          have h4 := ihl (off + a.length) (k + 1) b (fun i => by have := hk (i + 1); simpa [Nat.add_assoc, Nat.add_comm 1 i] using this) hb (by omega)
          rw [hoff, hca] at h3
          have e : (cs.drop off).take (a ++ b).length = (cs.drop off).take a.length ++ ((cs.drop (off + a.length)).take b.length) := by
            rw [List.length_append, List.take_add, List.drop_drop]
          rw [e]
          exact h3.append h4
      have := key fs.toList 0 0 ts (fun i => by simp) hl (by omega)
      rwa [List.drop_zero, List.take_of_length_le (by omega)] at this
    · rename_i n e hu
      obtain ⟨xs, n', rfl, -, hcl, hxl, hf⟩ := DataW.trod_array hu h
      obtain ⟨a, ha, hl⟩ := Option.bind_eq_some_iff.1 hl
      split at hl
      case isFalse => cases hl
      rename_i hca
      have hts := Option.some.inj hl
      have hlenr : ∀ k, (List.replicate k a).flatten.length = k * a.length := fun k => by simp
      have key : ∀ k, k ≤ n → LeafsRead enc P w base sp held (List.replicate k a).flatten (cs.take (k * a.length)) := by
        intro k
        induction k with
        | zero => intro _; exact ⟨by simp, fun j t hj => by simp at hj⟩
        | succ k ihk =>
          intro hk
          have h1 := ihk (by omega)
          have h2 := hf k (by omega)
          rw [List.getElem?_eq_getElem (by omega), hca] at h2
          have hle : (k + 1) * a.length ≤ cs.length := by
            have : (k + 1) * a.length ≤ n * a.length := Nat.mul_le_mul_right _ hk
            have e2 := hlenr n
            rw [hts] at e2
            omega
          rw [Nat.add_mul, Nat.one_mul] at hle
          have h3 := ih ha h2 (by rw [hca]; simp; omega) hca
          rw [List.replicate_succ', List.flatten_append, List.flatten_singleton, Nat.add_mul, Nat.one_mul, List.take_add]
          exact h1.append h3
      have := key n (Nat.le_refl _)
      have e2 := hlenr n
      rw [hts] at this e2
      rwa [List.take_of_length_le (by omega)] at this
    · rename_i h1 h2
      simp only [Option.some.injEq] at hl
      subst hl
      obtain ⟨v, rfl⟩ := trod_single (fun fs e => h1 fs e) (fun n e e' => h2 n e e') h
      refine ⟨rfl, fun j t' hj => ?_⟩
      have hj0 : j = 0 := by
        have := (List.getElem?_eq_some_iff.1 hj).1
        simpa using this
      subst hj0
      simp only [List.getElem?_cons_zero, Option.some.injEq] at hj
      subst hj
      exact ⟨v, rfl, fuel, x, h⟩

theorem addr_add (b o i : Nat) : (⟨b, o, none⟩ : Addr).add i = ⟨b, o + i, none⟩ := by
  unfold Addr.add
  split
  · rename_i h; subst h; rfl
  · rfl

/-- A slice, opened down to the cells of its elements. -/
theorem open_leafs_of {t e : TypeId} {v : Value} {d : DataW H} {ps : List MemPlace} {ts : List TypeId} (ht : P.underlying t = some (.slice e)) (m : Nat) (hl : leafs P m e = some ts) (hc : P.cellsOf e = ts.length) (hz : 0 < ts.length)
    (hform : ∃ A n cap, v = .slice A n cap) (h : DataW.Trod enc P w 0 (fun _ => true) true t v d ps) :
    ∃ (A : Option Addr) (n cap : Nat), v = .slice A n cap ∧ n ≤ cap ∧ cap ≤ maxLen ∧ (0 < n → ∃ b off, A = some ⟨b, off, none⟩ ∧ b < w.heap.size ∧
      ∀ i, i < n → ∃ cs, LeafsRead enc P w 0 (fun _ => true) true ts cs ∧ ∀ j, j < ts.length → w.cell? ⟨b, off + (i * ts.length + j), none⟩ = cs[j]?) ∧ (A = none → cap = 0) := by
  obtain ⟨A, n, cap, rfl⟩ := hform
  obtain ⟨fuel, hf⟩ := h
  rcases open_slice ht hf with ⟨hcs, _⟩ | ⟨a, len, cap', mm, nn, D, Pl, hcs, hb, hlen, hcap, hm, _, hx⟩
  · simp [Value.cells] at hcs
    obtain ⟨rfl, rfl, rfl⟩ := hcs
    exact ⟨none, 0, 0, rfl, Nat.le_refl _, Nat.zero_le _, fun h => by omega, fun _ => rfl⟩
  · simp [Value.cells] at hcs
    obtain ⟨rfl, rfl, rfl⟩ := hcs
    refine ⟨some a, n, cap, rfl, hlen, hcap, fun hn => ?_, fun h => by cases h⟩
    simp only [if_true] at hm
    · obtain ⟨cs0, h0, h1⟩ := hx 0 (by omega)
      obtain ⟨_, hl0, hc0⟩ := World.cells?_some h0
      have hcell := hc0 0 (by omega)
      rw [List.getElem?_eq_getElem (by omega)] at hcell
      obtain ⟨b, off, spot⟩ := a
      have hspot : spot = none := by simpa [Addr.add] using World.cell?_spot hcell
      subst hspot
      refine ⟨b, off, rfl, by simpa [Addr.add] using block_lt_of_cell hcell, fun i hi => ?_⟩
      obtain ⟨cs, h2, h3⟩ := hx i (by omega)
      obtain ⟨_, hl2, hc2⟩ := World.cells?_some h2
      refine ⟨cs, leafs_read m hl h3 (by omega) hc, fun j hj => ?_⟩
      have := hc2 j (by omega)
      rw [hc] at this
      rw [addr_add, addr_add, Nat.add_assoc] at this
      exact this
/-- A slice, opened down to the cells of its elements. -/
theorem open_leafs {t e : TypeId} {v : Value} {d : DataW H} {ps : List MemPlace} {ts : List TypeId} (ht : P.underlying t = some (.slice e)) (m : Nat) (hl : leafs P m e = some ts) (hc : P.cellsOf e = ts.length) (hz : 0 < ts.length)
    (hval : Value.okWide P w .any base t v) (h : DataW.Trod enc P w 0 (fun _ => true) true t v d ps) :
    ∃ (A : Option Addr) (n cap : Nat), v = .slice A n cap ∧ n ≤ cap ∧ cap ≤ maxLen ∧ (0 < n → ∃ b off, A = some ⟨b, off, none⟩ ∧ b < w.heap.size ∧
      ∀ i, i < n → ∃ cs, LeafsRead enc P w 0 (fun _ => true) true ts cs ∧ ∀ j, j < ts.length → w.cell? ⟨b, off + (i * ts.length + j), none⟩ = cs[j]?) ∧ (A = none → cap = 0) :=
  open_leafs_of ht m hl hc hz (okWide_slice ht hval) h

theorem leaf_slice {ts us : List TypeId} {cs : List Value} {e : TypeId} (h : LeafsRead enc P w 0 (fun _ => true) true ts cs) (j : Nat) (t : TypeId) (hj : ts[j]? = some t) (ht : P.underlying t = some (.slice e)) (m : Nat) (hl : leafs P m e = some us) (hc : P.cellsOf e = us.length) (hz : 0 < us.length) :
    ∃ (A : Option Addr) (n cap : Nat), cs[j]? = some (.slice A n cap) ∧ n ≤ cap ∧ cap ≤ maxLen ∧ (0 < n → ∃ b off, A = some ⟨b, off, none⟩ ∧ b < w.heap.size ∧
      ∀ i, i < n → ∃ cs, LeafsRead enc P w 0 (fun _ => true) true us cs ∧ ∀ j, j < us.length → w.cell? ⟨b, off + (i * us.length + j), none⟩ = cs[j]?) ∧ (A = none → cap = 0) := by
  obtain ⟨v, hv, n, y, hy⟩ := h.2 j t hj
  obtain ⟨A, l, c, e⟩ : ∃ A l c, v = .slice A l c := by
    rcases open_slice ht hy with ⟨hcs, _⟩ | ⟨a', len', cap', m, n, D, Pl, hcs, _⟩
    · simp at hcs; exact ⟨_, _, _, hcs⟩
    · simp at hcs; exact ⟨_, _, _, hcs⟩
  subst e
  obtain ⟨A', n', cap', e, rest⟩ := open_leafs_of (v := .slice A l c) (d := y.1) (ps := y.2) ht m hl hc hz ⟨A, l, c, rfl⟩ ⟨n, by simpa [Value.cells] using hy⟩
  exact ⟨A', n', cap', by rw [hv, e], rest⟩

theorem leaf_int {ts : List TypeId} {cs : List Value} {k : IntKind}
    (h : LeafsRead enc P w base sp held ts cs) (j : Nat) (t : TypeId) (hj : ts[j]? = some t) (hu : P.underlying t = some (.int k)) : ∃ n : Int, cs[j]? = some (.int k n) ∧ (Lit.int k n).wf = true := by
  obtain ⟨v, hv, n, y, hy⟩ := h.2 j t hj
  obtain ⟨x, e, _, wf⟩ := DataW.trod_int hu hy
  simp at e
  subst e
  exact ⟨x, hv, wf⟩

/-- A struct or an array by value, opened down to its cells. -/
theorem open_value {t : TypeId} {v : Value} {d : DataW H} {ps : List MemPlace} {ts : List TypeId} (hagg : ∃ cs, v = .agg cs ∧ cs.size = P.cellsOf t) (m : Nat) (hl : leafs P m t = some ts) (hc : P.cellsOf t = ts.length)
    (h : DataW.Trod enc P w base sp held t v d ps) : ∃ cs : List Value, v = .agg cs.toArray ∧ LeafsRead enc P w base sp held ts cs := by
  obtain ⟨cs, rfl, hsz⟩ := hagg
  obtain ⟨fuel, hf⟩ := h
  exact ⟨cs.toList, by simp, leafs_read m hl (by simpa [Value.cells] using hf) (by simpa using hsz) hc⟩
end
end Go.Proofs.Ytbpdjekibcbaaaa
