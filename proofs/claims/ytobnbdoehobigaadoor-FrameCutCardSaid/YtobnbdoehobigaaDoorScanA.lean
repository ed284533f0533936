import Derived.Maps.AppendAt
import Derived.Test.YtobnbdoehobigaaDoorIter
namespace Go.Proofs.YtobnbdoehobigaaDoor
open Go.RowKit Go.Shelf
set_option linter.unusedVariables false
set_option linter.unusedSimpArgs false
attribute [local go_sem] Oper.semAt_some

/-- the records at the head of bytes, from a number on, and how many bytes they are -/
def scanF : Nat → List Nat → Int → List (Int × Nat × List Nat) × Nat
  | 0, _, _ => ([], 0)
  | f + 1, b, seq => match oneL b with
    | none => ([], 0)
    | some (s, k, d) => if wrap64 s < 0 ∨ wrap64 s ≠ seq then ([], 0) else
        ((seq, k, d) :: (scanF f (b.drop (d.length + 17)) (wrap64 (seq + 1))).1, d.length + 17 + (scanF f (b.drop (d.length + 17)) (wrap64 (seq + 1))).2)

/-- a record as it lies: number, kind, the value of its data, its data -/
abbrev Rec := Int × Nat × Value × List Nat
def recCells (r : Rec) : List Value := [.int .i64 r.1, .int .i64 (r.2.1 : Int), r.2.2.1]
def recPure (r : Rec) : Int × Nat × List Nat := (r.1, r.2.1, r.2.2.2)

/-- records of the call's own, with their data, each apart from the row -/
def Recs (B : Nat) (W : World) (v : Value) (rs : List Rec) : Prop :=
  W.ownsRow B 46 3 v rs.length (rs.flatMap recCells) ∧ ∀ r ∈ rs, ∃ A n c, r.2.2.1 = .slice A n c ∧ Bytes W (.slice A n c) r.2.2.2 ∧ ∀ a, A = some a → B ≤ a.block ∧ a.block < W.heap.size ∧ v.ownBlock ≠ some a.block

theorem Recs.keep {B : Nat} {W W' : World} {v : Value} {rs : List Rec} {S : Nat → Prop} (h : Recs B W v rs) (hk : Keep W W' S) (hS : ∀ k, B ≤ k → ¬ S k) : Recs B W' v rs := by
  obtain ⟨⟨h1, h2⟩, h3⟩ := h
  refine ⟨⟨h1, ?_⟩, fun r hr => ?_⟩
  · rcases h2 with hn | ⟨g, c, cur, e, hb, hg, rest⟩
    · exact .inl hn
    · exact .inr ⟨g, c, cur, e, hb, by rw [hk.block g (Array.getElem?_eq_some_iff.1 hg).1 (hS g hb), hg], rest⟩
  · obtain ⟨A, n, c, e, hB, ha⟩ := h3 r hr
    exact ⟨A, n, c, e, hB.keep hk (fun a e => hS _ (ha a e).1), fun a e => ⟨(ha a e).1, Nat.lt_of_lt_of_le (ha a e).2.1 hk.size, (ha a e).2.2⟩⟩

theorem Recs.nil (B : Nat) (W : World) : Recs B W (.slice none 0 0) [] := ⟨World.ownsRow_nil W B 46 3, fun r hr => by cases hr⟩

theorem info46 : (Tryd.prog.info? 46).map (fun i => (i.zero, i.size, i.bytes)) = some (some (.agg #[.int .i64 0, .int .i64 0, .slice none 0 0]), 3, 40) := by kernel_rfl

/-- a record more -/
theorem run_rec {B : Nat} {W W' : World} {v : Value} {rs : List Rec} {S : Nat → Prop} (ty : TypeId) (g : Nat) (r : Rec) (h : Recs B W v rs) (he : Keep W W' S) (hS : ∀ k, B ≤ k → ¬ S k) (hc : ∀ j u, (recCells r)[j]? = some u → W'.cell? ⟨g, j, none⟩ = some u)
    (h1 : (recCells r).all (fun u => u.oneCell') = true) (hlen : rs.length ≤ 1000000) (hB : B ≤ W.heap.size) (hd : ∃ A n c, r.2.2.1 = .slice A n c ∧ Bytes W' (.slice A n c) r.2.2.2 ∧ ∀ a, A = some a → W.heap.size ≤ a.block ∧ a.block < W'.heap.size) :
    ∃ A n c W2, (Builtin.append_ #[50, 50] ty #[v, .slice (some ⟨g, 0, none⟩) 1 1]).run Tryd.prog W' = .ok (.slice A n c) W2 ∧ Recs B W2 (.slice A n c) (rs ++ [r]) ∧ W'.grownBy W2 v.ownBlock := by
  have hrow := h.1
  obtain ⟨hrow', hdata⟩ := h.keep he hS
  obtain ⟨i0, hi, hz0, hz1, hz2⟩ := info_parts info46
  obtain ⟨v', W2, hr, h2, h3, _, h5⟩ := run_append_own_at (P := Tryd.prog) (w := W') B 50 ty 46 i0 _ 3 40 Tryd.underlying50 hi hz0 hz1 hz2 rfl (by decide) v rs.length _ hrow' ⟨g, 0, none⟩ 1 1 (recCells r) rfl
    (fun j u hj => by rw [show (⟨g, 0, none⟩ : Addr).add j = ⟨g, j, none⟩ by simp [Addr.add]; intro h; exact h.symm]; exact hc j u hj) (fun u hu => List.all_eq_true.1 h1 u hu) (by unfold maxLen; omega) (by omega) (by have := he.size; omega)
  obtain ⟨g', cap', e'⟩ := ownsRow_succ h2
  subst e'
  refine ⟨_, _, _, W2, hr, ⟨by simpa using h2, fun x hx => ?_⟩, h3⟩
  have KG := Keep.grown h3
  rcases List.mem_append.1 hx with hx | hx
  · obtain ⟨A, n, c, e, hb, ha⟩ := hdata x hx
    have hs := he.size
    refine ⟨A, n, c, e, hb.keep KG (fun a e => (ha a e).2.2), fun a e => ⟨(ha a e).1, by have := (ha a e).2.1; have := KG.size; omega, ?_⟩⟩
    rcases h5 with h5 | h5
    · rw [h5]; exact (ha a e).2.2
    · rw [h5]
      intro hh
      simp only [Option.some.injEq] at hh
      have := (ha a e).2.1
      omega
  · simp only [List.mem_singleton] at hx
    subst hx
    obtain ⟨A, n, c, e, hb, ha⟩ := hd
    have hown : ∀ a, A = some a → v.ownBlock ≠ some a.block := fun a e hh => by
      have := (hrow.lt _ hh).2
      have := (ha a e).1
      omega
    refine ⟨A, n, c, e, hb.keep KG hown, fun a e => ⟨by have := (ha a e).1; omega, by have := (ha a e).2; have := KG.size; omega, ?_⟩⟩
    rcases h5 with h5 | h5
    · rw [h5]; exact hown a e
    · rw [h5]
      intro hh
      simp only [Option.some.injEq] at hh
      have := (ha a e).2
      omega

/-- the same, as the walk in a round takes it -/
theorem wpListIn_rec {F : Fence} {m : Nat} {B : Nat} {W W' : World} {v : Value} {rs : List Rec} {S : Nat → Prop} {ops : Array Oper} {rest : List Oper} {o : Oper} {a : Act} {Q : Exit → Act → World → Prop} (hgd : o.guard = none) (s y : Operand)
    (ho : o.op = .call { callee := .builtin .append, args := #[s, y], argTypes := #[50, 50] }) (g : Nat) (r : Rec) (hs : a.eval s = v) (hy : a.eval y = .slice (some ⟨g, 0, none⟩) 1 1)
    (h : Recs B W v rs) (he : Keep W W' S) (hS : ∀ k, B ≤ k → ¬ S k) (hc : ∀ j u, (recCells r)[j]? = some u → W'.cell? ⟨g, j, none⟩ = some u)
    (h1 : (recCells r).all (fun u => u.oneCell') = true) (hlen : rs.length ≤ 1000000) (hB : B ≤ W.heap.size) (hd : ∃ A n c, r.2.2.1 = .slice A n c ∧ Bytes W' (.slice A n c) r.2.2.2 ∧ ∀ a, A = some a → W.heap.size ≤ a.block ∧ a.block < W'.heap.size)
    (hK : ∀ A n c W2, Recs B W2 (.slice A n c) (rs ++ [r]) → W'.grownBy W2 v.ownBlock → wpListIn F m Tryd.prog ops Q rest (a.put o.dst (.slice A n c)) W2) : wpListIn F m Tryd.prog ops Q (o :: rest) a W' := by
  refine wpListIn_plain hgd fun K hK' => ?_
  obtain ⟨A, n, c, W2, hr, h2, h3⟩ := run_rec o.type g r h he hS hc h1 hlen hB hd
  unfold Oper.wpIn
  refine ⟨?_, ?_⟩
  · simp [Oper.about, ho, resolve, Target.leads, Sem.run_pure]
  · rw [Oper.semAt_plain F _ _ (by rw [ho]; intro c hc'; cases hc')]
    simp [execOp, ho, resolve, invoke, builtin, hs, hy, hr, Result.andThen]
    exact hK' _ _ (hK A n c W2 h2 h3)

end Go.Proofs.YtobnbdoehobigaaDoor
