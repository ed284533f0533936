import Derived.Test.YtblfplkocljlgaaTChk
namespace Go.Proofs.Ytblfplkocljlgaa
open Go.RowKit
set_option linter.unusedVariables false
set_option linter.unusedSimpArgs false

/-- pixels of the call's own: at the head of a block that is new -/
def OwnP (κ : IntKind) (T : TypeId) (base : Nat) (w : World) (v : Value) (l : List Px) : Prop :=
  w.ownsRow base T 4 v l.length (l.flatMap (cellsP κ)) ∧ ∀ i, okP (l.getD i noP)

theorem OwnP.nil (κ : IntKind) (T : TypeId) (base : Nat) (w : World) : OwnP κ T base w (.slice none 0 0) [] := ⟨World.ownsRow_nil w base T 4, fun i => by simp [okP, noP]⟩

theorem OwnP.ext {κ : IntKind} {T : TypeId} {base : Nat} {w w' : World} {v : Value} {l : List Px} (h : OwnP κ T base w v l) (he : Ext w w') : OwnP κ T base w' v l := ⟨row_ext h.1 he, h.2⟩

theorem OwnP.row {κ : IntKind} {T : TypeId} {base : Nat} {w : World} {v : Value} {l : List Px} (h : OwnP κ T base w v l) : ∀ k, v.ownBlock = some k → base ≤ k := fun k hk => (h.1.lt k hk).1

theorem OwnP.mono {κ : IntKind} {T : TypeId} {b b' : Nat} {w : World} {v : Value} {l : List Px} (h : OwnP κ T b w v l) (hb : b' ≤ b) : OwnP κ T b' w v l := ⟨row_mono h.1 hb, h.2⟩

theorem OwnP.swap {κ : IntKind} {T : TypeId} {B : Nat} {w1 w2 : World} {g : Junk} {v : Value} {l : List Px} (h : OwnP κ T B (w1.ext g) v l) (hs : w1.heap.size = w2.heap.size) (hB : w1.heap.size ≤ B) : OwnP κ T B (w2.ext g) v l :=
  ⟨row_swap h.1 hs hB, h.2⟩

theorem flat4 (κ : IntKind) : ∀ (l : List Px) (i j : Nat), i < l.length → j < 4 → (l.flatMap (cellsP κ))[i * 4 + j]? = (cellsP κ (l.getD i noP))[j]? := by
  intro l
  induction l with
  | nil => intro i j h; simp at h
  | cons x l ih =>
    intro i j h hj
    cases i with
    | zero => rw [List.flatMap_cons, List.getElem?_append_left (by simp [cellsP]; omega)]; simp
    | succ i =>
      rw [List.flatMap_cons, List.getElem?_append_right (by simp [cellsP]; omega)]
      have := ih i j (by simpa using h) hj
      rw [show (x :: l).getD (i + 1) noP = l.getD i noP by simp, ← this]
      congr 1
      simp [cellsP]
      omega

theorem flat_len (κ : IntKind) (l : List Px) : (l.flatMap (cellsP κ)).length = l.length * 4 := by
  induction l with
  | nil => rfl
  | cons x l ih => rw [List.flatMap_cons, List.length_append, ih]; simp [cellsP]; omega

theorem OwnP.pix {κ : IntKind} {T : TypeId} {base : Nat} {w : World} {v : Value} {l : List Px} (h : OwnP κ T base w v l) : Pix κ w v l := by
  obtain ⟨h, hb⟩ := h
  have hh := h
  rcases h.2 with ⟨h', h0⟩ | ⟨g, cap, cur, h', _, hg, hn, hm, hs, htake⟩
  · exact ⟨none, 0, by rw [h', h0], by omega, by omega, fun _ => rfl, hb, fun h => by omega⟩
  · subst h'
    refine ⟨_, cap, rfl, hn, hm, (fun h => by cases h), hb, fun _ => ⟨g, 0, rfl, (Array.getElem?_eq_some_iff.1 hg).1, fun i hi j hj => ?_⟩⟩
    rw [Nat.zero_add, hh.cellAt _ (by omega)]
    exact flat4 κ l i j hi hj

theorem getD_ok {l m : List Px} (hl : ∀ i, okP (l.getD i noP)) (hm : ∀ i, okP (m.getD i noP)) (i : Nat) : okP ((l ++ m).getD i noP) := by
  rw [List.getD_eq_getElem?_getD, List.getElem?_append]
  split
  · have := hl i; rwa [List.getD_eq_getElem?_getD] at this
  · have := hm (i - l.length); rwa [List.getD_eq_getElem?_getD] at this

/-- what a slice type and its element type are -/
structure PxT (κ : IntKind) (S T : TypeId) : Prop where
  und : Try.prog.underlying S = some (.slice T)
  info : ∃ i : TypeInfo, Try.prog.info? T = some i ∧ (∃ z, i.zero = some z ∧ z.cells.size = 4) ∧ i.size = 4 ∧ i.bytes ≤ 32

theorem infoC : (Try.prog.info? 68).map (fun i => (i.zero, i.size, i.bytes)) = some (some (.agg #[.int .u8 0, .int .u8 0, .int .u8 0, .int .u8 0]), 4, 4) := by kernel_rfl
theorem pxC : PxT .u8 45 68 := by
  obtain ⟨i0, hi, hz0, hz1, hz2⟩ := info_parts infoC
  exact ⟨Try.underlying45, i0, hi, ⟨_, hz0, rfl⟩, hz1, by omega⟩

/-- pixels put behind pixels of the call's own -/
theorem run_pxs {κ : IntKind} {S T : TypeId} (ht : PxT κ S T) {base : Nat} {w : World} {v : Value} {l m : List Px} {x : Value} (ty : TypeId) (hv : OwnP κ T base w v l) (hx : Pix κ w x m) (hlen : l.length + m.length ≤ 1000000) (hbase : base ≤ w.heap.size) :
    ∃ v' w', (Builtin.append_ #[S, S] ty #[v, x]).run Try.prog w = .ok v' w' ∧ OwnP κ T base w' v' (l ++ m) ∧ w.grownBy w' v.ownBlock ∧ (v'.ownBlock = v.ownBlock ∨ v'.ownBlock = some w.heap.size) := by
  obtain ⟨hv, hb⟩ := hv
  obtain ⟨X, c, rfl, h2, h3, h4, h5, h6⟩ := hx
  obtain ⟨und, i0, hi, ⟨z, hz0, hz⟩, hz1, hz2⟩ := ht
  cases X with
  | none =>
    have hc := h4 rfl
    subst hc
    have hm : m = [] := List.eq_nil_of_length_eq_zero (by omega)
    subst hm
    obtain ⟨A, cap, rfl⟩ := own_slice hv
    have hr := run_append_owned_none (P := Try.prog) (w := w) base S ty T i0 4 und hi _ l.length _ hv
    exact ⟨_, w, hr, ⟨by simpa using hv, by simpa using hb⟩, ⟨rfl, rfl, rfl, Nat.le_refl _, fun _ _ _ => rfl⟩, .inl rfl⟩
  | some a =>
    have hcells : ∀ j u, (m.flatMap (cellsP κ))[j]? = some u → w.cell? (a.add j) = some u := by
      intro j u hj
      have hj1 : j < m.length * 4 := by have := (List.getElem?_eq_some_iff.1 hj).1; rwa [flat_len] at this
      obtain ⟨b, off, e1, e2, e3⟩ := h6 (by omega)
      simp only [Option.some.injEq] at e1
      subst e1
      have e4 := e3 (j / 4) (by omega) (j % 4) (by omega)
      rw [← flat4 κ m (j / 4) (j % 4) (by omega) (by omega), show j / 4 * 4 + j % 4 = j by omega] at e4
      rw [show (⟨b, off, none⟩ : Addr).add j = ⟨b, off + j, none⟩ by unfold Addr.add; split <;> simp_all]
      rw [e4, hj]
    obtain ⟨v', w', hr, ho, hg, _, h5'⟩ := run_append_own_at (P := Try.prog) w base S ty T i0 z 4 i0.bytes und hi hz0 hz1 rfl hz (by decide) _ l.length _ hv a m.length c (m.flatMap (cellsP κ)) (flat_len κ m) hcells
      (by intro u hu; obtain ⟨y, _, hy⟩ := List.mem_flatMap.1 hu; simp [cellsP] at hy; rcases hy with rfl | rfl | rfl | rfl <;> rfl) (by unfold maxLen; omega) (by
        have := Nat.mul_le_mul hlen hz2
        omega) hbase
    rw [← List.flatMap_append, ← List.length_append] at ho
    exact ⟨v', w', hr, ⟨ho, getD_ok hb h5⟩, hg, h5'⟩

/-- one pixel in a block of its own -/
theorem pix_one {κ : IntKind} {w : World} {g : Nat} {p : Px} (hg : g < w.heap.size) (hb : okP p) (h : ∀ j, j < 4 → w.cell? ⟨g, j, none⟩ = (cellsP κ p)[j]?) : Pix κ w (.slice (some ⟨g, 0, none⟩) 1 1) [p] :=
  ⟨_, 1, rfl, by simp, by omega, (fun h => by cases h), fun i => by
    match i with
    | 0 => simpa using hb
    | i + 1 => simp [okP, noP], fun _ => ⟨g, 0, rfl, hg, fun i hi j hj => by
    obtain rfl : i = 0 := by simpa using hi
    rw [Nat.zero_add, Nat.zero_mul, Nat.zero_add, h j hj]; rfl⟩⟩

theorem wpList_pxs {κ : IntKind} {S T : TypeId} (ht : PxT κ S T) {base : Nat} {w : World} {v : Value} {l m : List Px} {x : Value} {ops : Array Oper} {rest : List Oper} {o : Oper} {a : Act} {Q : Exit → Act → World → Prop} (hgd : o.guard = none) (s y : Operand)
    (ho : o.op = .call { callee := .builtin .append, args := #[s, y], argTypes := #[S, S] }) (hs : a.eval s = v) (hy : a.eval y = x)
    (hv : OwnP κ T base w v l) (hx : Pix κ w x m) (hlen : l.length + m.length ≤ 1000000) (hbase : base ≤ w.heap.size)
    (h : ∀ v' w', OwnP κ T base w' v' (l ++ m) → w.grownBy w' v.ownBlock → (v'.ownBlock = v.ownBlock ∨ v'.ownBlock = some w.heap.size) → wpList Try.prog ops Q rest (a.put o.dst v') w') : wpList Try.prog ops Q (o :: rest) a w := by
  refine wpList_plain hgd fun K hK => ?_
  obtain ⟨v', w', hr, h1, h2, h3⟩ := run_pxs ht o.type hv hx hlen hbase
  unfold Oper.wp execOp
  simp only [ho, resolve, invoke, builtin, Sem.run_bind, Sem.run_pure, Result.andThen_ok, List.map_toArray, List.map_cons, List.map_nil, hs, hy, hr]
  exact hK _ _ (h v' w' h1 h2 h3)

/-- at a step of a region that draws -/
theorem step_pxs {κ : IntKind} {S T : TypeId} (ht : PxT κ S T) {base : Nat} {w : World} {v : Value} {l m : List Px} {x : Value} {ops : Array Oper} {o : Oper} {a : Act} {K : Act → World → Prop} {Q : Exit → Act → World → Prop} {E : Prop} (hgd : o.guard = none) (s y : Operand)
    (ho : o.op = .call { callee := .builtin .append, args := #[s, y], argTypes := #[S, S] }) (hs : a.eval s = v) (hy : a.eval y = x)
    (hv : OwnP κ T base w v l) (hx : Pix κ w x m) (hlen : l.length + m.length ≤ 1000000) (hbase : base ≤ w.heap.size)
    (h : ∀ v' w', OwnP κ T base w' v' (l ++ m) → w.grownBy w' v.ownBlock → (v'.ownBlock = v.ownBlock ∨ v'.ownBlock = some w.heap.size) → K (a.put o.dst v') w') :
    if Region.wanted o (yielded ops a.tmps) = true then Oper.wp Try.prog o a w K Q else E := by
  have hw : Region.wanted o (yielded ops a.tmps) = true := by simp [Region.wanted, hgd]
  rw [if_pos hw]
  obtain ⟨v', w', hr, h1, h2, h3⟩ := run_pxs ht o.type hv hx hlen hbase
  unfold Oper.wp execOp
  simp only [ho, resolve, invoke, builtin, Sem.run_bind, Sem.run_pure, Result.andThen_ok, List.map_toArray, List.map_cons, List.map_nil, hs, hy, hr]
  exact h v' w' h1 h2 h3

end Go.Proofs.Ytblfplkocljlgaa
