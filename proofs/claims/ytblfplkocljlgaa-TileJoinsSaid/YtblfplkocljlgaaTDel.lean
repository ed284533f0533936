import Derived.Test.YtblfplkocljlgaaTMapL
namespace Go.Proofs.Ytblfplkocljlgaa
open Go.RowKit Go.ChangeMaps
set_option linter.unusedVariables false
set_option linter.unusedSimpArgs false

theorem gone1_any (a k : KK) (g : Nat) (w : World) (k0 : w.cell? ⟨g, 0, none⟩ = some (.int .i64 k.1)) (k1 : w.cell? ⟨g, 1, none⟩ = some (.int .i64 k.2)) (hg : g < w.heap.size) :
    Calls Try.prog 47 #[.agg #[.int .i64 a.1, .int .i64 a.2], .pointer (some ⟨g, 0, none⟩)] w fun e w' => e = .returned (.bool (decide (a = k))) ∧ Ext w w' := by
  obtain ⟨x, y⟩ := a
  obtain ⟨u, v⟩ := k
  simp only at k0 k1
  by_cases hx : x = u
  · by_cases hy : y = v
    · subst hx hy
      go_enter Try.func47, Try.ntmps47
      go_wp2
      go_ret
      exact ⟨ret_bool (by simp), by ((repeat (first | exact Ext.refl _ | apply Ext.alloc)))⟩
    · subst hx
      go_enter Try.func47, Try.ntmps47
      go_wp2
      go_ret
      exact ⟨ret_bool (by simp [hy]), by ((repeat (first | exact Ext.refl _ | apply Ext.alloc)))⟩
  · go_enter Try.func47, Try.ntmps47
    go_wp2
    go_ret
    exact ⟨ret_bool (by simp [hx]), by ((repeat (first | exact Ext.refl _ | apply Ext.alloc)))⟩

def firstK (k : KK) : Nat → List KK → Int
  | _, [] => -1
  | i, p :: l => if p = k then (i : Int) else firstK k (i + 1) l

theorem firstK_spec (k : KK) : ∀ (l : List KK) (i : Nat), (firstK k i l = -1 ∧ ∀ p ∈ l, p ≠ k) ∨ ∃ j : Nat, firstK k i l = ((i + j : Nat) : Int) ∧ j < l.length ∧ l.getD j noK = k ∧ ∀ p ∈ l.take j, p ≠ k := by
  intro l
  induction l with
  | nil => intro i; exact .inl ⟨rfl, by simp⟩
  | cons p l ih =>
    intro i
    simp only [firstK]
    by_cases h : p = k
    · rw [if_pos h]; exact .inr ⟨0, rfl, by simp, by simpa using h, by simp⟩
    · rw [if_neg h]
      rcases ih (i + 1) with ⟨h1, h2⟩ | ⟨j, h1, h2, h3, h4⟩
      · refine .inl ⟨h1, fun q hq => ?_⟩
        rcases List.mem_cons.1 hq with rfl | hq
        · exact h
        · exact h2 q hq
      · refine .inr ⟨j + 1, by rw [h1]; congr 1; omega, by simp; omega, by simpa using h3, fun q hq => ?_⟩
        rw [List.take_succ_cons] at hq
        rcases List.mem_cons.1 hq with rfl | hq
        · exact h
        · exact h4 q hq

set_option maxRecDepth 100000 in
set_option maxHeartbeats 1600000 in
theorem kindex_any (v : Value) (l : List KK) (k : KK) (g : Nat) (w : World) (hl : Kys w v l) (k0 : w.cell? ⟨g, 0, none⟩ = some (.int .i64 k.1)) (k1 : w.cell? ⟨g, 1, none⟩ = some (.int .i64 k.2)) (hg : g < w.heap.size) :
    Calls Try.prog 52 #[v, .func (.func 47) #[] #[.pointer (some ⟨g, 0, none⟩)]] w fun e w' => e = .returned (.int .i64 (firstK k 0 l)) ∧ Ext w w' := by
  have P := Lib.hid hl
  have KC := Lib.hid (And.intro hg (And.intro k0 k1))
  obtain ⟨A, cap, rfl, hn, hcap, _⟩ := hl
  obtain ⟨N, hN⟩ : ∃ N, l.length = N := ⟨_, rfl⟩
  rw [hN] at P hn
  rw [hN]
  have HN := Lib.hid hN
  clear hN k0 k1 hg
  have hN2 : N ≤ 9223372036854775807 := by omega
  go_enter Try.func52, Try.ntmps52
  go_wp2
  go_loopw [8] (fun t8 wr => ∃ i : Nat, i ≤ N ∧ t8 = .int .i64 (i : Int) ∧ Hid (firstK k 0 l = firstK k i (l.drop i) ∧ Ext w wr)) (fun t8 _ => N - (intOf t8).toNat)
  case atStart => exact ⟨0, by omega, rfl, Lib.hid ⟨by simp, Ext.refl w⟩⟩
  case round =>
    obtain ⟨i, hi, rfl, HI⟩ := hrel
    by_cases hlt : i < N
    · have hlt' : (i : Int) < (N : Int) := by omega
      obtain ⟨b, off, x, y, rfl, hbs, hp, hpb, c0, c1⟩ := (P.out.ext HI.out.2).at hlt
      have HP := Lib.hid (And.intro hp hpb)
      have HD := Lib.hid (drop_cons l i noK (by have := HN.out; omega))
      have HW : Hid (Calls Try.prog 47 #[.agg #[.int .i64 x, .int .i64 y], .pointer (some ⟨g, 0, none⟩)] wr fun e w' => e = .returned (.bool (decide ((x, y) = k))) ∧ Ext wr w') := Lib.hid
        (gone1_any (x, y) k g wr ((HI.out.2.cell KC.out.1).trans KC.out.2.1) ((HI.out.2.cell KC.out.1).trans KC.out.2.2) (Nat.lt_of_lt_of_le KC.out.1 HI.out.2.size))
      clear hp hpb
      by_cases hr : (x, y) = k
      · have HS : Hid (firstK k 0 l = (i : Int)) := Lib.hid (by
          rw [HI.out.1, HD.out, HP.out.1, firstK, if_pos hr])
        have hr' : decide ((x, y) = k) = true := by simpa using hr
        rw [hr'] at HW
        clear hr hr'
        go_wp2_with fail
        refine HW.out.mono ?_
        rintro e w1 ⟨rfl, g1, rfl⟩
        go_wp2
        go_ret
        exact ⟨ret_int HS.out.symm, HI.out.2.ext g1⟩
      · have HS : Hid (firstK k 0 l = firstK k (i + 1) (l.drop (i + 1))) := Lib.hid (by
          rw [HI.out.1, HD.out, HP.out.1, firstK, if_neg hr])
        have hr' : decide ((x, y) = k) = false := by simpa using hr
        rw [hr'] at HW
        clear hr hr'
        go_wp2_with fail
        refine HW.out.mono ?_
        rintro e w1 ⟨rfl, g1, rfl⟩
        go_wp2
        go_roundw
        case rel => exact ⟨i + 1, by omega, by go_num, Lib.hid ⟨HS.out, HI.out.2.ext g1⟩⟩
        case measure => simp [intOf]; omega
    · have hlt' : ¬ (i : Int) < (N : Int) := by omega
      have HS : Hid (firstK k 0 l = -1) := Lib.hid (by
        rw [HI.out.1, List.drop_eq_nil_of_le (by have := HN.out; omega)]; rfl)
      go_wp2
      go_ret
      exact ⟨ret_int HS.out.symm, HI.out.2⟩

/-- a row of keys, all of its block -/
def RowK (w : World) (g : Nat) (L : List KK) (tl : List Value) : Prop := w.heap[g]? = some (.cells (L.flatMap cellsK ++ tl).toArray 23 (0, 0))

theorem RowK.cell {w : World} {g : Nat} {L : List KK} {tl : List Value} (h : RowK w g L tl) {i : Nat} (hi : i < L.length) : w.cell? ⟨g, i * 2, none⟩ = some (.int .i64 (L.getD i noK).1) ∧ w.cell? ⟨g, i * 2 + 1, none⟩ = some (.int .i64 (L.getD i noK).2) := by
  have hl := flat2_len L
  constructor
  · rw [cell_of_row w g _ _ _ (0, 0) h]
    have := flat2 L i 0 hi (by omega)
    rw [Nat.add_zero] at this
    simp only [List.getElem?_toArray]
    rw [List.getElem?_append_left (by omega), this]; rfl
  · rw [cell_of_row w g _ _ _ (0, 0) h]
    have := flat2 L i 1 hi (by omega)
    simp only [List.getElem?_toArray]
    rw [List.getElem?_append_left (by omega), this]; rfl

theorem RowK.frozen {w : World} {g : Nat} {L : List KK} {tl : List Value} (h : RowK w g L tl) (i : Nat) : w.frozen? ⟨g, i, none⟩ = false := by
  have h' : w.heap[g]? = some (.cells (L.flatMap cellsK ++ tl).toArray 23 (0, 0)) := h
  simp [World.frozen?, h']

theorem flat_set (L : List KK) (i : Nat) (k : KK) (hi : i < L.length) : ((L.flatMap cellsK).set (i * 2) (.int .i64 k.1)).set (i * 2 + 1) (.int .i64 k.2) = (L.set i k).flatMap cellsK := by
  induction L generalizing i with
  | nil => simp at hi
  | cons x L ih =>
    cases i with
    | zero => simp [cellsK]
    | succ i =>
      have := ih i (by simpa using hi)
      rw [List.set_cons_succ, List.flatMap_cons, List.flatMap_cons, ← this]
      simp [cellsK, show (i + 1) * 2 = i * 2 + 2 by omega]

theorem RowK.set {w : World} {g : Nat} {L : List KK} {tl : List Value} (h : RowK w g L tl) {i : Nat} (hi : i < L.length) (k : KK) : RowK ((w.setCell ⟨g, i * 2, none⟩ (.int .i64 k.1)).setCell ⟨g, i * 2 + 1, none⟩ (.int .i64 k.2)) g (L.set i k) tl := by
  have h1 := heap_setCell_same w g (i * 2) _ 23 (.int .i64 k.1) h
  have h2 := heap_setCell_same _ g (i * 2 + 1) _ 23 (.int .i64 k.2) h1
  unfold RowK
  rw [h2]
  have hl := flat2_len L
  congr 2
  rw [← flat_set L i k hi]
  simp only [List.setIfInBounds_toArray]
  rw [List.set_append_left _ _ (by omega), List.set_append_left _ _ (by rw [List.length_set]; omega)]

theorem OwnK.rowK {base : Nat} {w : World} {A : Option Addr} {n c : Nat} {l : List KK} (h : OwnK 23 base w (.slice A n c) l) (hn : 0 < n) : ∃ g tl, A = some ⟨g, 0, none⟩ ∧ n = l.length ∧ base ≤ g ∧ n ≤ c ∧ c ≤ maxLen ∧ RowK w g l tl ∧ l.length * 2 + tl.length = c * 2 := by
  rcases h.1.2 with ⟨e, _⟩ | ⟨g', cap, cur, e, hb, hg, h1, h2, h3, h4⟩
  · simp at e; omega
  · simp only [Value.slice.injEq] at e
    obtain ⟨rfl, rfl, rfl⟩ := e
    refine ⟨g', cur.toList.drop (l.length * 2), rfl, rfl, hb, h1, h2, ?_, ?_⟩
    · unfold RowK
      rw [hg, ← h4, List.take_append_drop]
    · simp; omega

theorem RowK.own {base : Nat} {w : World} {g n c : Nat} {l m : List KK} {tl : List Value} (h : RowK w g (l ++ m) tl) (hb : base ≤ g) (hn : n = l.length) (hc : (l.length + m.length) * 2 + tl.length = c * 2) (hm : c ≤ maxLen) (hk : ∀ i, inK (l.getD i noK)) : OwnK 23 base w (.slice (some ⟨g, 0, none⟩) n c) l := by
  subst hn
  refine ⟨⟨flat2_len l, .inr ⟨g, c, _, rfl, hb, h, by omega, hm, ?_, ?_⟩⟩, hk⟩
  · simp only [List.size_toArray, List.length_append]; rw [flat2_len]; simp; omega
  · simp only [List.flatMap_append, List.append_assoc]
    rw [List.take_append_of_le_length (by rw [flat2_len]; omega), List.take_of_length_le (by rw [flat2_len]; omega)]

/-- the tail is cleared -/
theorem RowK.clear {w : World} {g : Nat} {l m : List KK} {tl : List Value} (h : RowK w g (l ++ m) tl) (hm : 0 < m.length) (c : Nat) (ty : TypeId) :
    ∃ w', (Builtin.clear_ #[33] ty #[.slice (some ⟨g, l.length * 2, none⟩) m.length c]).run Try.prog w = .ok (.tuple #[]) w' ∧ RowK w' g (l ++ List.replicate m.length noK) tl ∧ Keep w w' (fun k => k = g) := by
  have hl := flat2_len l
  have hml := flat2_len m
  have hrl := flat2_len (List.replicate m.length noK)
  rw [List.length_replicate] at hrl
  have hst := run_storeCells_at Try.prog g (l.length * 2) 23 ((List.replicate m.length noK).flatMap cellsK) 0 _ w h (by simp only [List.size_toArray, List.length_append, List.flatMap_append]; omega)
    (by intro u hu; obtain ⟨y, _, hy⟩ := List.mem_flatMap.1 hu; simp [cellsK] at hy; rcases hy with rfl | rfl <;> rfl)
  have hzc : (Builtin.zeroCells (Value.agg #[.int .i64 0, .int .i64 0]).cells m.length).toList = (List.replicate m.length noK).flatMap cellsK := by
    apply List.ext_getElem?
    intro i
    by_cases hi : i < m.length * 2
    · have := flat2 (List.replicate m.length noK) (i / 2) (i % 2) (by simp; omega) (by omega)
      rw [show i / 2 * 2 + i % 2 = i by omega] at this
      rw [this]
      rw [List.getElem?_eq_getElem (by simp [Builtin.zeroCells, Value.cells]; omega)]
      rw [List.getD_eq_getElem?_getD, List.getElem?_replicate, if_pos (by omega)]
      simp only [Builtin.zeroCells, Value.cells]
      rcases (show i % 2 = 0 ∨ i % 2 = 1 by omega) with e | e <;> simp [e, cellsK, noK]
    · rw [List.getElem?_eq_none (by simp [Builtin.zeroCells, Value.cells]; omega), List.getElem?_eq_none (by omega)]
  have hv : ∀ w, (zeroValue 23).run Try.prog w = .ok (.agg #[.int .i64 0, .int .i64 0]) w := fun w => by kernel_rfl
  refine ⟨w.setRow g ((l ++ List.replicate m.length noK).flatMap cellsK ++ tl).toArray, ?_, ?_, ?_⟩
  · have e : (l ++ List.replicate m.length noK).flatMap cellsK ++ tl = ((l ++ m).flatMap cellsK ++ tl).take (l.length * 2 + 0) ++ (List.replicate m.length noK).flatMap cellsK ++ ((l ++ m).flatMap cellsK ++ tl).drop (l.length * 2 + 0 + ((List.replicate m.length noK).flatMap cellsK).length) := by
      rw [hrl]
      simp only [List.flatMap_append, List.append_assoc, Nat.add_zero]
      rw [List.take_append_of_le_length (by omega), List.take_of_length_le (by omega)]
      rw [List.drop_append, List.drop_eq_nil_of_le (by omega), List.nil_append, show l.length * 2 + m.length * 2 - (l.flatMap cellsK).length = m.length * 2 by omega]
      rw [List.drop_append, List.drop_eq_nil_of_le (by omega), List.nil_append, show m.length * 2 - (m.flatMap cellsK).length = 0 by omega]
      rfl
    rw [e]
    obtain ⟨n, hn⟩ : ∃ n, m.length = n + 1 := ⟨m.length - 1, by omega⟩
    rw [hn] at hzc hst ⊢
    generalize w.setRow g _ = W at hst ⊢
    simp [Builtin.clear_, run_underlying Try.underlying33, hv, hzc, hst]
  · exact setRow_heap _ _ _ _ _ _ h
  · exact ⟨rfl, rfl, rfl, by simp [World.setRow], fun k hk hn => by
        simp only [World.setRow]
        rw [Array.getElem?_modify, if_neg (fun h => hn h.symm)]⟩

end Go.Proofs.Ytblfplkocljlgaa
