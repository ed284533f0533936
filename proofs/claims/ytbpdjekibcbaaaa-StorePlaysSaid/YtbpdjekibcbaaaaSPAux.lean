import Derived.Test.YtbpdjekibcbaaaaSPOps
namespace Go.Proofs.Ytbpdjekibcbaaaa
open Go.RowKit
set_option linter.unusedVariables false
set_option linter.unusedSimpArgs false

/-- bytes in a block of bytes -/
def Byt8 (w : World) (A : Option Addr) (n c : Nat) (l : List Nat) : Prop := Bytes w (.slice A n c) l ∧ ∀ k, Value.ownBlock (.slice A n c) = some k → ∃ cs f, w.heap[k]? = some (.cells cs 5 f)
theorem Own.byt8 {base : Nat} {w : World} {A : Option Addr} {n c : Nat} {l : List Nat} (h : Own base w A n c l) : Byt8 w A n c l :=
  ⟨h.bytes, fun k hk => by obtain ⟨cur, hc⟩ := row_type h.2.1 hk; exact ⟨cur, _, hc⟩⟩
theorem Byt8.ext {w w' : World} {A : Option Addr} {n c : Nat} {l : List Nat} (h : Byt8 w A n c l) (he : Ext w w') : Byt8 w' A n c l :=
  ⟨h.1.ext he, fun k hk => by obtain ⟨cs, f, hc⟩ := h.2 k hk; exact ⟨cs, f, he.heapAt hc⟩⟩
theorem Byt8.keep {base : Nat} {w w' : World} {A : Option Addr} {n c : Nat} {l : List Nat} (h : Byt8 w A n c l) (hk : Keep w w' (TchS base w)) : Byt8 w' A n c l := by
  have hn : ∀ k, Value.ownBlock (.slice A n c) = some k → k < w.heap.size ∧ ¬ TchS base w k := fun k hk' => by
    obtain ⟨cs, f, hc⟩ := h.2 k hk'
    refine ⟨(Array.getElem?_eq_some_iff.1 hc).1, ?_⟩
    rintro (⟨_, c2, t, f2, hh, ht⟩ | ⟨_, c2, f2, hh⟩)
    · have := type_ne hc hh
      subst this
      exact absurd ht (by decide)
    · exact absurd (type_ne hc hh) (by decide)
  refine ⟨?_, fun k hk' => ?_⟩
  · obtain ⟨X, cap, e, h2, h3, h4, h5, h6⟩ := h.1
    refine ⟨X, cap, e, h2, h3, h4, h5, fun hp => ?_⟩
    obtain ⟨b, off, e1, e2, e3⟩ := h6 hp
    simp only [Value.slice.injEq] at e
    obtain ⟨rfl, -, rfl⟩ := e
    subst e1
    obtain ⟨k1, k2⟩ := hn b rfl
    exact ⟨b, off, rfl, Nat.lt_of_lt_of_le e2 hk.size, fun i hi => by rw [hk.cell k1 k2]; exact e3 i hi⟩
  · obtain ⟨k1, k2⟩ := hn k hk'
    obtain ⟨cs, f, hc⟩ := h.2 k hk'
    exact ⟨cs, f, by rw [hk.block k k1 k2]; exact hc⟩

/-- bytes put behind a slice without room -/
theorem run_app_full {w : World} {A : Option Addr} {n : Nat} {l m : List Nat} {x : Value} (ty : TypeId) (hv : Byt8 w A n n l) (hx : Bytes w x m) (hlen : l.length + m.length ≤ 1000000) :
    ∃ A' n' cap' w', (Builtin.append_ #[24, 24] ty #[.slice A n n, x]).run Try.prog w = .ok (.slice A' n' cap') w' ∧ Byt8 w' A' n' cap' (l ++ m) ∧ Ext w w' := by
  have hn : n = l.length := hv.1.len
  obtain ⟨X, c, rfl, h2, h3, h4, h5, h6⟩ := hx
  obtain ⟨i0, hi, hz0, hz1, hz2⟩ := info_parts infoU8
  by_cases hm : m.length = 0
  · have hml : m = [] := List.eq_nil_of_length_eq_zero hm
    subst hml
    rw [List.append_nil]
    refine ⟨A, n, n, w, ?_, hv, Ext.refl w⟩
    cases A <;> cases X <;> simp [Builtin.append_, run_underlying Try.underlying24, sizeOf, typeInfo, hi, Builtin.lenOf, Builtin.firstCells, loadCells, loadCellsFrom, storeCells]
  · cases X with
    | none => have := h4 rfl; omega
    | some a =>
      have hcells : ∀ j u, (m.map byteV)[j]? = some u → w.cell? (a.add j) = some u := by
        intro j u hj
        have hj1 : j < m.length := by have := (List.getElem?_eq_some_iff.1 hj).1; simpa using this
        obtain ⟨b, off, e1, e2, e3⟩ := h6 (by omega)
        simp only [Option.some.injEq] at e1
        subst e1
        have e4 := e3 j hj1
        rw [addr_add' b off j, e4, ← hj, List.getElem?_map, List.getD_eq_getElem?_getD, List.getElem?_eq_getElem hj1]
        rfl
      have hbt : ∀ i, (l ++ m).getD i 0 < 256 := getD_append_lt (by obtain ⟨_, _, _, _, _, _, h, _⟩ := hv.1; exact h) h5
      cases A with
      | none =>
        have hl0 : l = [] := by
          obtain ⟨X', c', e, _, _, k4, _⟩ := hv.1
          simp only [Value.slice.injEq] at e
          obtain ⟨rfl, e2, rfl⟩ := e
          have := k4 rfl
          exact List.eq_nil_of_length_eq_zero (by omega)
        subst hl0
        obtain rfl : n = 0 := by simpa using hn
        have hO : Own 0 w none 0 0 [] := Own.nil 0 w
        obtain ⟨A', n', cap', w', hr, hO2, hg⟩ := run_app ty hO ⟨some a, c, rfl, h2, h3, h4, h5, h6⟩ (by simpa using (by omega : m.length ≤ 70368744177664)) (Nat.zero_le _)
        exact ⟨A', n', cap', w', hr, hO2.byt8, Keep.toExt (Ext.refl w) (Keep.grown hg) (by simp [Value.ownBlock])⟩
      | some p =>
        have hold : ∀ j u, (l.map byteV)[j]? = some u → w.cell? (p.add j) = some u := by
          intro j u hj
          have hj1 : j < l.length := by have := (List.getElem?_eq_some_iff.1 hj).1; simpa using this
          obtain ⟨X', c', e, _, _, _, _, k6⟩ := hv.1
          obtain ⟨b, off, e1, e2, e3⟩ := k6 (by omega)
          simp only [Value.slice.injEq] at e
          obtain ⟨rfl, _, _⟩ := e
          simp only [Option.some.injEq] at e1
          subst e1
          have e4 := e3 j hj1
          rw [addr_add' b off j, e4, ← hj, List.getElem?_map, List.getD_eq_getElem?_getD, List.getElem?_eq_getElem hj1]
          rfl
        have hr := run_append_grow (P := Try.prog) w 24 ty 5 i0 (.int .u8 0) Try.underlying24 hi hz0 p n n (l.map byteV) (by simp [hz1]; omega) hold a m.length c (m.map byteV) (by simp [hz1]) hcells (by omega) (by omega) (growslice_fits (by omega) (by rw [hz2]; omega))
        have hge := grownCap_ge w (n + m.length) n 5
        have hle := grownCap_le_maxLen w (n + m.length) n 5 (by unfold maxLen; omega)
        obtain ⟨K, hK⟩ : ∃ K, grownCap w (n + m.length) n 5 = K := ⟨_, rfl⟩
        rw [hK] at hr hge hle
        refine ⟨_, _, _, _, hr, ?_, (Ext.drew w).alloc _⟩
        have hrow := heap_alloc_new w.drew (.cells ((l.map byteV).toArray ++ (m.map byteV).toArray ++ Builtin.zeroCells (Value.int .u8 0).cells (K - (n + m.length))) 5)
        refine ⟨⟨some ⟨w.heap.size, 0, none⟩, K, by rw [List.length_append, hn], by rw [List.length_append]; omega, hle, (fun h => by cases h), hbt, fun _ => ⟨w.heap.size, 0, rfl, by simp, fun i hi' => ?_⟩⟩, fun k hk => ?_⟩
        · rw [Nat.zero_add]
          refine (cell_of_row _ w.drew.heap.size i _ _ (0, 0) hrow).trans ?_
          have hi2 : i < ((l.map byteV).toArray ++ (m.map byteV).toArray).size := by simp at hi' ⊢; omega
          rw [Array.getElem?_append_left hi2]
          have e9 : (l.map byteV).toArray ++ (m.map byteV).toArray = ((l ++ m).map byteV).toArray := by simp
          rw [e9, List.getElem?_toArray, List.getElem?_map, List.getElem?_eq_getElem hi', List.getD_eq_getElem?_getD, List.getElem?_eq_getElem hi']
          rfl
        · simp only [Value.ownBlock, Option.some.injEq] at hk
          subst hk
          exact ⟨_, _, hrow⟩

end Go.Proofs.Ytbpdjekibcbaaaa
