import Derived.Test.YtobnbdoehobigaaDoorScanLaw
namespace Go.Proofs.YtobnbdoehobigaaDoor
open Go.RowKit Go.Shelf
set_option linter.unusedVariables false
set_option linter.unusedSimpArgs false

/-- the document's records of the call's own -/
def RRecs (B : Nat) (W : World) (v : Value) (rs : List Rec) : Prop :=
  W.ownsRow B 58 3 v rs.length (rs.flatMap recCells) ∧ ∀ r ∈ rs, ∃ A n c, r.2.2.1 = .slice A n c ∧ Bytes W (.slice A n c) r.2.2.2 ∧ ∀ a, A = some a → B ≤ a.block ∧ a.block < W.heap.size ∧ v.ownBlock ≠ some a.block

theorem RRecs.keep {B : Nat} {W W' : World} {v : Value} {rs : List Rec} {S : Nat → Prop} (h : RRecs B W v rs) (hk : Keep W W' S) (hS : ∀ k, B ≤ k → ¬ S k) : RRecs B W' v rs := by
  obtain ⟨⟨h1, h2⟩, h3⟩ := h
  refine ⟨⟨h1, ?_⟩, fun r hr => ?_⟩
  · rcases h2 with hn | ⟨g, c, cur, e, hb, hg, rest⟩
    · exact .inl hn
    · exact .inr ⟨g, c, cur, e, hb, by rw [hk.block g (Array.getElem?_eq_some_iff.1 hg).1 (hS g hb), hg], rest⟩
  · obtain ⟨A, n, c, e, hB, ha⟩ := h3 r hr
    exact ⟨A, n, c, e, hB.keep hk (fun a e => hS _ (ha a e).1), fun a e => ⟨(ha a e).1, Nat.lt_of_lt_of_le (ha a e).2.1 hk.size, (ha a e).2.2⟩⟩

theorem RRecs.nil (B : Nat) (W : World) : RRecs B W (.slice none 0 0) [] := ⟨World.ownsRow_nil W B 58 3, fun r hr => by cases hr⟩

theorem info58 : (Tryd.prog.info? 58).map (fun i => (i.zero, i.size, i.bytes)) = some (some (.agg #[.int .i64 0, .int .i64 0, .slice none 0 0]), 3, 40) := by kernel_rfl

/-- a record more -/
theorem run_rrec {B : Nat} {W W' : World} {v : Value} {rs : List Rec} {S : Nat → Prop} (ty : TypeId) (g : Nat) (r : Rec) (h : RRecs B W v rs) (he : Keep W W' S) (hS : ∀ k, B ≤ k → ¬ S k) (hc : ∀ j u, (recCells r)[j]? = some u → W'.cell? ⟨g, j, none⟩ = some u)
    (h1 : (recCells r).all (fun u => u.oneCell') = true) (hlen : rs.length ≤ 1000000) (hB : B ≤ W.heap.size) (hd : ∃ A n c, r.2.2.1 = .slice A n c ∧ Bytes W' (.slice A n c) r.2.2.2 ∧ ∀ a, A = some a → W.heap.size ≤ a.block ∧ a.block < W'.heap.size) :
    ∃ A n c W2, (Builtin.append_ #[55, 55] ty #[v, .slice (some ⟨g, 0, none⟩) 1 1]).run Tryd.prog W' = .ok (.slice A n c) W2 ∧ RRecs B W2 (.slice A n c) (rs ++ [r]) ∧ W'.grownBy W2 v.ownBlock := by
  have hrow := h.1
  obtain ⟨hrow', hdata⟩ := h.keep he hS
  obtain ⟨i0, hi, hz0, hz1, hz2⟩ := info_parts info58
  obtain ⟨v', W2, hr, h2, h3, _, h5⟩ := run_append_own_at (P := Tryd.prog) (w := W') B 55 ty 58 i0 _ 3 40 Tryd.underlying55 hi hz0 hz1 hz2 rfl (by decide) v rs.length _ hrow' ⟨g, 0, none⟩ 1 1 (recCells r) rfl
    (fun j u hj => by rw [show (⟨g, 0, none⟩ : Addr).add j = ⟨g, j, none⟩ by simp [Addr.add]; intro h; exact h.symm]; exact hc j u hj) (fun u hu => List.all_eq_true.1 h1 u hu) (by unfold maxLen; omega) (by omega) (by have := he.size; omega)
  obtain ⟨g', cap', e'⟩ := ownsRow_succ h2
  subst e'
  refine ⟨_, _, _, W2, hr, ⟨by simpa using h2, fun x hx => ?_⟩, h3⟩
  have KG := Keep.grown h3
  rcases List.mem_append.1 hx with hx | hx
  · obtain ⟨A, n, c, e, hb, ha⟩ := hdata x hx
    have hs := he.size
    refine ⟨A, n, c, e, hb.keep KG (fun a e => (ha a e).2.2), fun a e => ⟨(ha a e).1, by have := (ha a e).2.1; have := KG.size; omega, ?_⟩⟩
    rcases h5 with h5 | h5
    · rw [h5]; exact (ha a e).2.2
    · rw [h5]
      intro hh
      simp only [Option.some.injEq] at hh
      have := (ha a e).2.1
      omega
  · simp only [List.mem_singleton] at hx
    subst hx
    obtain ⟨A, n, c, e, hb, ha⟩ := hd
    have hown : ∀ a, A = some a → v.ownBlock ≠ some a.block := fun a e hh => by
      have := (hrow.lt _ hh).2
      have := (ha a e).1
      omega
    refine ⟨A, n, c, e, hb.keep KG hown, fun a e => ⟨by have := (ha a e).1; omega, by have := (ha a e).2; have := KG.size; omega, ?_⟩⟩
    rcases h5 with h5 | h5
    · rw [h5]; exact hown a e
    · rw [h5]
      intro hh
      simp only [Option.some.injEq] at hh
      have := (ha a e).2
      omega

/-- at a step of a region that draws: a record more -/
theorem step_rrec {B : Nat} {W W' : World} {v : Value} {rs : List Rec} {S : Nat → Prop} {ops : Array Oper} {o : Oper} {a : Act} {K : Act → World → Prop} {Q : Exit → Act → World → Prop} {E : Prop} (hgd : o.guard = none) (s y : Operand)
    (ho : o.op = .call { callee := .builtin .append, args := #[s, y], argTypes := #[55, 55] }) (g : Nat) (r : Rec) (hs : a.eval s = v) (hy : a.eval y = .slice (some ⟨g, 0, none⟩) 1 1)
    (h : RRecs B W v rs) (he : Keep W W' S) (hS : ∀ k, B ≤ k → ¬ S k) (hc : ∀ j u, (recCells r)[j]? = some u → W'.cell? ⟨g, j, none⟩ = some u)
    (h1 : (recCells r).all (fun u => u.oneCell') = true) (hlen : rs.length ≤ 1000000) (hB : B ≤ W.heap.size) (hd : ∃ A n c, r.2.2.1 = .slice A n c ∧ Bytes W' (.slice A n c) r.2.2.2 ∧ ∀ a, A = some a → W.heap.size ≤ a.block ∧ a.block < W'.heap.size)
    (hK : ∀ A n c W2, RRecs B W2 (.slice A n c) (rs ++ [r]) → W'.grownBy W2 v.ownBlock → K (a.put o.dst (.slice A n c)) W2) :
    if Region.wanted o (yielded ops a.tmps) = true then Oper.wp Tryd.prog o a W' K Q else E := by
  have hw : Region.wanted o (yielded ops a.tmps) = true := by simp [Region.wanted, hgd]
  rw [if_pos hw]
  obtain ⟨A, n, c, W2, hr, h2, h3⟩ := run_rrec o.type g r h he hS hc h1 hlen hB hd
  unfold Oper.wp execOp
  simp only [ho, resolve, invoke, builtin, Sem.run_bind, Sem.run_pure, Result.andThen_ok, List.map_toArray, List.map_cons, List.map_nil, hs, hy, hr]
  exact hK A n c W2 h2 h3

/-- at a step of a region that draws: bytes behind bytes of the call's own -/
theorem step_app {base : Nat} {w : World} {A : Option Addr} {n cap : Nat} {l m : List Nat} {x : Value} {ops : Array Oper} {o : Oper} {a : Act} {K : Act → World → Prop} {Q : Exit → Act → World → Prop} {E : Prop} (hgd : o.guard = none) (s y : Operand)
    (ho : o.op = .call { callee := .builtin .append, args := #[s, y], argTypes := #[22, 22] }) (hs : a.eval s = .slice A n cap) (hy : a.eval y = x)
    (hv : Own base w A n cap l) (hx : Bytes w x m) (hlen : l.length + m.length ≤ 70368744177664) (hbase : base ≤ w.heap.size)
    (h : ∀ A' n' cap' w', Own base w' A' n' cap' (l ++ m) → w.grownBy w' (Value.ownBlock (.slice A n cap)) → K (a.put o.dst (.slice A' n' cap')) w') :
    if Region.wanted o (yielded ops a.tmps) = true then Oper.wp Tryd.prog o a w K Q else E := by
  have hw : Region.wanted o (yielded ops a.tmps) = true := by simp [Region.wanted, hgd]
  rw [if_pos hw]
  obtain ⟨A', n', cap', w', hr, h1, h2⟩ := run_app o.type hv hx hlen hbase
  unfold Oper.wp execOp
  simp only [ho, resolve, invoke, builtin, Sem.run_bind, Sem.run_pure, Result.andThen_ok, List.map_toArray, List.map_cons, List.map_nil, hs, hy, hr]
  exact h A' n' cap' w' h1 h2

end Go.Proofs.YtobnbdoehobigaaDoor
