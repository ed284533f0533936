import Derived.Test.YtbpdjekibcbaaaaSBack
namespace Go.Proofs.Ytbpdjekibcbaaaa
open Go.RowKit Go.Shelf
set_option linter.unusedVariables false
set_option linter.unusedSimpArgs false
attribute [local go_sem] Oper.semAt_some

/-- what a sector reads as: the last of the writes to it, or what is safe -/
def nowOf (d : Sec) (i : Nat) : List (Nat × Sec) → Sec
  | [] => d
  | (j, x) :: r => nowOf (if j = i then x else d) i r
theorem nowOf_snoc (i : Nat) (y : Nat × Sec) : ∀ (r : List (Nat × Sec)) (d : Sec), nowOf d i (r ++ [y]) = if y.1 = i then y.2 else nowOf d i r := by
  intro r
  induction r with
  | nil => intro d; obtain ⟨j, x⟩ := y; rfl
  | cons z r ih => intro d; obtain ⟨j, x⟩ := z; exact ih _
/-- no write from p on is to i -/
def noneFrom (i p : Nat) (l : List (Nat × Sec)) : Prop := ∀ q (h : q < l.length), p ≤ q → (l[q]).1 ≠ i
theorem nowOf_hit {i : Nat} {d : Sec} : ∀ {l : List (Nat × Sec)} {p : Nat} (hp : p < l.length), (l[p]).1 = i → noneFrom i (p + 1) l → nowOf d i l = (l[p]).2 := by
  intro l
  induction l generalizing d with
  | nil => intro p hp; simp at hp
  | cons z l ih =>
    intro p hp h1 h2
    obtain ⟨j, x⟩ := z
    cases p with
    | zero =>
      simp only [List.getElem_cons_zero] at h1 ⊢
      simp only [nowOf, if_pos h1]
      have : ∀ (l : List (Nat × Sec)) (d : Sec), (∀ q (h : q < l.length), (l[q]).1 ≠ i) → nowOf d i l = d := by
        intro l
        induction l with
        | nil => intro d _; rfl
        | cons z l ih2 =>
          intro d h
          obtain ⟨j, x⟩ := z
          have h0 := h 0 (by simp)
          simp only [List.getElem_cons_zero] at h0
          simp only [nowOf, if_neg h0]
          exact ih2 d (fun q hq => by have := h (q + 1) (by simpa using hq); simpa using this)
      exact this l x (fun q hq => by have := h2 (q + 1) (by simpa using hq) (by omega); simpa using this)
    | succ p =>
      simp only [List.getElem_cons_succ] at h1 ⊢
      exact ih (by simpa using hp) h1 (fun q hq hpq => by have := h2 (q + 1) (by simpa using hq) (by omega); simpa using this)
theorem nowOf_miss {i : Nat} {d : Sec} {l : List (Nat × Sec)} (h : noneFrom i 0 l) : nowOf d i l = d := by
  induction l generalizing d with
  | nil => rfl
  | cons z l ih =>
    obtain ⟨j, x⟩ := z
    have h0 := h 0 (by simp) (by omega)
    simp only [List.getElem_cons_zero] at h0
    simp only [nowOf, if_neg h0]
    exact ih (fun q hq _ => by have := h (q + 1) (by simpa using hq) (by omega); simpa using this)

def DS.now (S : DS) (i : Nat) : Sec := nowOf (S.safe.getD i (none, 0, [])) i S.wait

/-- what `now` has made, between two rounds: the sector's number in its box, the answer's box, the slice's box, the deferred, the loop -/
structure NSt (w W : World) (i : Nat) (V B : Value) (L1 : Obj) : Prop where
  ext : Ext w W
  sz : w.heap.size + 5 ≤ W.heap.size
  ci : W.cell? ⟨w.heap.size, 0, none⟩ = some (.int .i64 (i : Int))
  ca : W.cell? ⟨w.heap.size + 1, 0, none⟩ = some B
  fa : W.frozen? ⟨w.heap.size + 1, 0, none⟩ = false
  cw : W.cell? ⟨w.heap.size + 2, 0, none⟩ = some V
  dl : W.heap[w.heap.size + 3]? = some (.deferred (some []))
  ll : W.heap[w.heap.size + 4]? = some L1

theorem NSt.grow {w W W' : World} {i : Nat} {V B : Value} {L1 : Obj} (h : NSt w W i V B L1) (he : Ext W W') : NSt w W' i V B L1 := by
  have := h.sz
  exact ⟨h.ext.trans he, Nat.le_trans h.sz he.size, (he.cell (by omega)).trans h.ci, (he.cell (by omega)).trans h.ca, (he.frozen (by omega)).trans h.fa, (he.cell (by omega)).trans h.cw, he.heapAt h.dl, he.heapAt h.ll⟩
theorem NSt.put {w W : World} {i : Nat} {V B : Value} {L1 L2 : Obj} (h : NSt w W i V B L1) : NSt w (W.putObj (w.heap.size + 4) L2) i V B L2 := by
  have K : Keep W (W.putObj (w.heap.size + 4) L2) (fun k => k = w.heap.size + 4) := Keep.putObj
  have := h.sz
  exact ⟨K.toExt h.ext (fun k e => by omega), by have := K.size; omega, (K.cell (by omega) (by omega)).trans h.ci, (K.cell (by omega) (by omega)).trans h.ca, (K.frozen (by omega) (by omega)).trans h.fa, (K.cell (by omega) (by omega)).trans h.cw, (K.block _ (by omega) (by omega)).trans h.dl, World.putObj_heap_same (by omega)⟩
theorem NSt.set {w W : World} {i : Nat} {V B B' : Value} {L1 : Obj} (h : NSt w W i V B L1) : NSt w (W.setCell ⟨w.heap.size + 1, 0, none⟩ B') i V B' L1 := by
  have K : Keep W (W.setCell ⟨w.heap.size + 1, 0, none⟩ B') (fun k => k = w.heap.size + 1) := Keep.setCell
  have := h.sz
  exact ⟨K.toExt h.ext (fun k e => by omega), by have := K.size; omega, (K.cell (by omega) (by omega)).trans h.ci, by simp [go_sem, h.ca], by simp [go_sem, h.fa], (K.cell (by omega) (by omega)).trans h.cw, (K.block _ (by omega) (by omega)).trans h.dl, (K.block _ (by omega) (by omega)).trans h.ll⟩

set_option maxRecDepth 100000 in
set_option maxHeartbeats 6400000 in
theorem now_any {base : Nat} {D : Nat} {SA : Option Addr} {sc : Nat} {WA : Option Addr} {wc : Nat} {RA : Option Addr} {rc : Nat} {S : DS} (i : Nat) (w : World) (h : DiskAt base w D SA sc WA wc RA rc S) (hi : i < S.safe.length) (hs : S.safe.length ≤ 10000) (hw : S.wait.length ≤ 1000) :
    Calls Try.prog 44 #[.pointer (some ⟨D, 0, none⟩), .int .i64 (i : Int)] w fun e w' => e = .returned (secV (S.now i)) ∧ Ext w w' := by
  have H := Lib.hid h
  have c0 := h.cell 0
  have c2 := h.cell 2
  simp only [fields, List.getElem?_toArray, List.getElem?_cons_zero, List.getElem?_cons_succ] at c0 c2
  have hDl := h.lt
  obtain ⟨M, hM⟩ : ∃ M, S.wait.length = M := ⟨_, rfl⟩
  rw [hM] at c2 hw
  have HM := Lib.hid hM
  clear h hM
  refine (callsIn_wide (n := 7)).1 ?_
  refine callsIn_of_wp_marks Try.func44 rfl trivial ?_ rfl
  simp only [Try.ntmps44, List.size_toArray, List.length_cons, List.length_nil, Nat.reduceAdd, Nat.reduceSub, Array.replicate_succ, Array.replicate_zero, List.push_toArray, List.append_toArray, List.nil_append, List.cons_append]
  gi_wp2
  refine ⟨trivial, (callsIn_wide.2 (backward_any WA M wc _)).mono ?_⟩
  rintro e w1 ⟨rfl, rfl⟩
  gi_wp2
  refine range_enter rfl (by decide) (gf := 47) (lb := #[.pointer (some ⟨w.heap.size + 2, 0, none⟩)]) (by simp [go_sem]) trivial (enters_of Try.func47 (by kernel_rfl) rfl) ?_
  intro fn hfn rec hrec
  have HR := Lib.hid hrec
  clear hrec
  simp only [World.size_alloc, Nat.add_assoc, Nat.reduceAdd]
  refine (back_in (w.heap.size + 4) (w.heap.size + 2) base WA wc S.wait (by have := HM.out; omega)
    (fun p Wx => NSt w Wx i (.slice WA M wc) (.slice none 0 0) (.loop (rec .ready none)) ∧ noneFrom i p S.wait)
    (fun Wx => NSt w Wx i (.slice WA M wc) (secV (S.now i)) (.loop (rec .done (some .ret))))
    ?hJ ?hY _ ?h0).mono ?after
  case hJ =>
    rintro p Wx ⟨hS, _⟩
    rw [HM.out]
    exact ⟨hS.cw, by have := row_ext H.out.waits hS.ext; rwa [HM.out] at this⟩
  case h0 =>
    refine ⟨⟨?_, ?_, ?_, ?_, ?_, ?_, ?_, ?_⟩, fun q hq h => by omega⟩
    · (repeat (first | exact Ext.refl _ | apply Ext.alloc | apply Ext.ext))
    · simp
    · simp [go_sem]
    · simp [go_sem]
    · simp [go_sem]
    · simp [go_sem]
    · refine Ext.heapAt ((Ext.refl _).alloc _) ?_
      have h := heap_alloc_new (((w.alloc (Obj.cells #[Value.int IntKind.i64 i] 3)).alloc (Obj.cells #[Value.slice none 0 0] 24)).alloc (Obj.cells #[Value.slice WA M wc] 65)) (.deferred (some []))
      simpa [Nat.add_assoc] using h
    · have h := heap_alloc_new ((((w.alloc (Obj.cells #[Value.int IntKind.i64 i] 3)).alloc (Obj.cells #[Value.slice none 0 0] 24)).alloc (Obj.cells #[Value.slice WA M wc] 65)).alloc (.deferred (some []))) (.loop (rec .ready none))
      simpa [Nat.add_assoc] using h
  case hY =>
    rintro p ⟨j, x⟩ hy Wx ⟨hS, hno⟩
    have HS := Lib.hid hS
    have HNO := Lib.hid hno
    have HY := Lib.hid (List.getElem?_eq_some_iff.1 hy)
    refine yield_round rec HR.out trivial hS.ll rfl ?_
    clear hS hno hy
    unfold secV
    gi_wp2
    refine ⟨((Ext.refl Wx).alloc _).heapAt HS.out.ll, ?_⟩
    obtain ⟨W1, hW1⟩ : ∃ W1, World.putObj (Wx.alloc (Obj.cells #[Value.int IntKind.i64 ↑j, Value.slice x.1 x.2.2.length x.2.1] 79)) (w.heap.size + 4) (Obj.loop (rec LoopState.busy none)) = W1 := ⟨_, rfl⟩
    rw [hW1]
    have hS1 := (HS.out.grow ((Ext.refl Wx).alloc (Obj.cells #[Value.int IntKind.i64 ↑j, Value.slice x.1 x.2.2.length x.2.1] 79))).put (L2 := Obj.loop (rec LoopState.busy none))
    rw [hW1] at hS1
    have hgc : Wx.heap.size ≠ w.heap.size + 4 := by have := HS.out.sz; omega
    have K1 : Keep (Wx.alloc (Obj.cells #[Value.int IntKind.i64 ↑j, Value.slice x.1 x.2.2.length x.2.1] 79)) W1 (fun k => k = w.heap.size + 4) := hW1 ▸ Keep.putObj
    have q0 : W1.cell? ⟨Wx.heap.size, 0, none⟩ = some (.int .i64 (j : Int)) := by rw [K1.cell (by simp) hgc]; simp [go_sem]
    have q1 : W1.cell? ⟨Wx.heap.size, 1, none⟩ = some (.slice x.1 x.2.2.length x.2.1) := by rw [K1.cell (by simp) hgc]; simp [go_sem]
    obtain ⟨gc, hgcc⟩ : ∃ gc, Wx.heap.size = gc := ⟨_, rfl⟩
    rw [hgcc] at q0 q1 ⊢
    clear hgcc hW1 K1 HS
    have S1 := Lib.hid hS1
    have ci := hS1.ci
    have ca := hS1.ca
    have fa := hS1.fa
    clear hS1
    by_cases hji : j = i
    · have hji' : (j : Int) = (i : Int) := by omega
      subst hji
      have HZ : Hid (S.now j = x) := Lib.hid (by
        obtain ⟨hp, hy⟩ := HY.out
        have e := nowOf_hit (d := S.safe.getD j (none, 0, [])) hp (by rw [hy]) HNO.out
        rw [hy] at e
        exact e)
      gi_wp2
      rw [show (.slice x.1 x.2.2.length x.2.1 : Value) = secV (S.now j) by rw [HZ.out]; rfl, show (.slice (S.now j).1 (S.now j).2.2.length (S.now j).2.1 : Value) = secV (S.now j) from rfl]
      have S2 := S1.out.set (B' := secV (S.now j))
      exact ⟨S2.ll, .inr ⟨rfl, S2.put⟩⟩
    · have hji' : ((j : Int) == (i : Int)) = false := by simp; omega
      gi_wp2
      refine ⟨S1.out.ll, .inl ⟨rfl, S1.out.put, fun q hq hpq => ?_⟩⟩
      by_cases e : q = p
      · subst e
        rw [HY.out.2]
        exact hji
      · exact HNO.out q hq (by omega)
  case after =>
    rintro e Wf ⟨⟨v0, rfl⟩, (⟨hS, hno⟩ | hS)⟩
    · refine ⟨⟨_, rfl⟩, .inl ⟨hS.ll, ?_⟩⟩
      have hS5 := hS.put (L2 := .loop (rec .exhausted none))
      have HN : Hid (S.now i = S.safe[i]) := Lib.hid (by unfold DS.now; rw [nowOf_miss hno]; simp [List.getD_eq_getElem?_getD, List.getElem?_eq_getElem hi])
      obtain ⟨W5, hW5⟩ : ∃ W5, Wf.putObj (w.heap.size + 4) (.loop (rec .exhausted none)) = W5 := ⟨_, rfl⟩
      rw [hW5] at hS5 ⊢
      have S5 := Lib.hid hS5
      have D5 := Lib.hid (H.out.ext hS5.ext)
      have ci := hS5.ci
      have ca := hS5.ca
      have fa := hS5.fa
      have k0 := D5.out.cell 0
      simp only [fields, List.getElem?_toArray, List.getElem?_cons_zero, List.getElem?_cons_succ] at k0
      have hDl5 := D5.out.lt
      obtain ⟨g, rfl⟩ := own_some D5.out.rows (by omega)
      have ks := D5.out.rows.cellAt i (by omega)
      rw [List.getElem?_map, List.getElem?_eq_getElem hi] at ks
      simp only [Option.map_some] at ks
      rw [← HN.out] at ks
      obtain ⟨n, hn⟩ : ∃ n, S.safe.length = n := ⟨_, rfl⟩
      rw [hn] at k0 hi hs c0
      have hi' : (i : Int) < (n : Int) := by omega
      have hgl := (D5.out.rows.lt g rfl).2
      have hrl : w.heap.size + 1 < W5.heap.size := by have := S5.out.sz; omega
      unfold secV at ks
      clear hW5 hS5 hS hno c0 c2
      gi_wp2
      rw [wpIn_wide]
      go_region
      all_goals (
        have S9 := Lib.hid ((S5.out.set (B' := secV (S.now i))).grow (Ext.drew _))
        unfold secV at S9
        obtain ⟨W9, hW9⟩ : ∃ W9, (W5.setCell ⟨w.heap.size + 1, 0, none⟩ (.slice (S.now i).1 (S.now i).2.2.length (S.now i).2.1)).drew = W9 := ⟨_, rfl⟩
        rw [hW9] at S9 ⊢
        clear hW9 ci ca fa k0 ks
        gi_wp2
        have K7 : Keep W9 (W9.putObj (w.heap.size + 3) (.deferred none)) (fun k => k = w.heap.size + 3) := Keep.putObj
        have hsz := S9.out.sz
        refine ⟨by simp, .inl ⟨_, _, rfl, run_takeDeferred S9.out.dl, ?_⟩⟩
        refine ⟨secV (S.now i), ?_, rfl, K7.toExt S9.out.ext (fun k e => by omega)⟩
        have ca9 := (K7.cell (g := w.heap.size + 1) (i := 0) (by omega) (by omega)).trans S9.out.ca
        simp [results, Try.results44, go_sem, ca9, secV])
    · refine ⟨⟨_, rfl⟩, .inr ⟨.ret, hS.ll, ?_⟩⟩
      have hS5 := hS.put (L2 := .loop (rec .exhausted (some .ret)))
      obtain ⟨W9, hW9⟩ : ∃ W9, Wf.putObj (w.heap.size + 4) (.loop (rec .exhausted (some .ret))) = W9 := ⟨_, rfl⟩
      rw [hW9] at hS5 ⊢
      have S9 := Lib.hid hS5
      clear hS5 hW9 hS
      gi_wp2
      · have K7 : Keep W9 (W9.putObj (w.heap.size + 3) (.deferred none)) (fun k => k = w.heap.size + 3) := Keep.putObj
        have hsz := S9.out.sz
        refine ⟨by simp, .inl ⟨_, _, rfl, run_takeDeferred S9.out.dl, ?_⟩⟩
        refine ⟨secV (S.now i), ?_, rfl, K7.toExt S9.out.ext (fun k e => by omega)⟩
        have ca9 := (K7.cell (g := w.heap.size + 1) (i := 0) (by omega) (by omega)).trans S9.out.ca
        simp [results, Try.results44, go_sem, ca9]

end Go.Proofs.Ytbpdjekibcbaaaa
