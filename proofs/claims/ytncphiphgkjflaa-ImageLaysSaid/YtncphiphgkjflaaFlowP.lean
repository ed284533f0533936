/- Regions that draw their order, walked once, whose makers are known in pairs: what one makes is told from what another one made. Lemmas only. -/
import Derived.Test.YtncphiphgkjflaaFlow
set_option linter.unusedVariables false
set_option linter.unusedSimpArgs false
namespace Go.Proofs.Ytncphiphgkjflaa.Two
open Go Go.RowKit Go.Proofs.Ytncphiphgkjflaa

section
variable {P : Program} {md : Region.Mode} {ops : Array Oper} {w0 : World} {sp : List Tmp} {q : Tmp → Value → Prop} {R : Tmp → Value → World → Prop} {D : Tmp → Value → Tmp → Value → Prop}

def Makes (P : Program) (ops : Array Oper) (w0 : World) (q : Tmp → Value → Prop) (R : Tmp → Value → World → Prop) (D : Tmp → Value → Tmp → Value → Prop) (o : Oper) (a : Act) (d : Tmp) : Prop :=
  (∃ v, q d v) ∧ ∀ w, Ext w0 w → Facts ops q R o a w → madeUpon P (fun v w' => Ext w w' ∧ q d v ∧ R d v w' ∧ ∀ t' v', q t' v' → R t' v' w → D d v t' v') ((execOp a.eval o).run P w)

def FlowD (P : Program) (ops : Array Oper) (w0 : World) (sp : List Tmp) (q : Tmp → Value → Prop) (R : Tmp → Value → World → Prop) (D : Tmp → Value → Tmp → Value → Prop) (Fin : Act → Prop) : List Oper → Act → Prop
  | [], a => Fin a
  | o :: rest, a => if Region.wanted o (yielded ops a.tmps) = true then
      (if isSp sp o = true then ∃ d, o.dst = some d ∧ Makes P ops w0 q R D o a d ∧ ∀ v, q d v → FlowD P ops w0 sp q R D Fin rest (a.put o.dst v)
       else ∃ v, Plain P ops w0 q R o a v ∧ FlowD P ops w0 sp q R D Fin rest (a.put o.dst v))
      else FlowD P ops w0 sp q R D Fin rest (a.put o.dst undef)

/-- the same, shut -/
structure Flow (P : Program) (ops : Array Oper) (w0 : World) (sp : List Tmp) (q : Tmp → Value → Prop) (R : Tmp → Value → World → Prop) (D : Tmp → Value → Tmp → Value → Prop) (Fin : Act → Prop) (l : List Oper) (a : Act) : Prop where
  out : FlowD P ops w0 sp q R D Fin l a

/-- one operation, here and now -/
def StepAt (P : Program) (ops : Array Oper) (sp : List Tmp) (q : Tmp → Value → Prop) (R : Tmp → Value → World → Prop) (D : Tmp → Value → Tmp → Value → Prop) (w : World) (o : Oper) (K : Act → Prop) (a : Act) : Prop :=
  if Region.wanted o (yielded ops a.tmps) = true then
    (if isSp sp o = true then ∃ d, o.dst = some d ∧ madeUpon P (fun v w' => Ext w w' ∧ q d v ∧ R d v w' ∧ ∀ t' v', q t' v' → R t' v' w → D d v t' v') ((execOp a.eval o).run P w) ∧ ∀ v, q d v → K (a.put o.dst v)
     else ∃ v, plainUpon w v ((execOp a.eval o).run P w) ∧ K (a.put o.dst v))
    else K (a.put o.dst undef)


theorem StepAt.mono {w : World} {o : Oper} {K K' : Act → Prop} {a : Act} (h : ∀ u, K (a.put o.dst u) → K' (a.put o.dst u)) (k : StepAt P ops sp q R D w o K a) : StepAt P ops sp q R D w o K' a := by
  unfold StepAt at *
  split
  · rename_i hw
    rw [if_pos hw] at k
    split
    · rename_i hs
      rw [if_pos hs] at k
      obtain ⟨d, h1, h2, h3⟩ := k
      exact ⟨d, h1, h2, fun v hv => h _ (h3 v hv)⟩
    · rename_i hs
      rw [if_neg hs] at k
      obtain ⟨v, h1, h2⟩ := k
      exact ⟨v, h1, h _ h2⟩
  · rename_i hw
    rw [if_neg hw] at k
    exact h _ k

theorem StepAt.put {w : World} {oi oj : Oper} {v : Value} {K : Act → Prop} {a : Act} (hap : oi.apart ops oj = true) (hsj : ∀ cs b, oj.op ≠ .select cs b)
    (h : StepAt P ops sp q R D w oj K (a.put oi.dst v)) : StepAt P ops sp q R D w oj (fun a' => K (a'.put oi.dst v)) a := by
  obtain ⟨h1, h2, h3⟩ := Oper.apart_spec hap
  unfold StepAt at *
  rw [wanted_put oj a oi.dst v h1, execOp_put oj hsj a oi.dst v h1] at h
  split
  · rename_i hw
    rw [if_pos hw] at h
    split
    · rename_i hs
      rw [if_pos hs] at h
      obtain ⟨d, e1, e2, e3⟩ := h
      exact ⟨d, e1, e2, fun u hu => by have := e3 u hu; rw [Act.put_comm a v u h2] at this; exact this⟩
    · rename_i hs
      rw [if_neg hs] at h
      obtain ⟨u, e1, e2⟩ := h
      exact ⟨u, e1, by rw [Act.put_comm a v u h2] at e2; exact e2⟩
  · rename_i hw
    rw [if_neg hw] at h
    rw [Act.put_comm a v undef h2] at h
    exact h

theorem StepAt.all {w : World} {o : Oper} {p : Value → Prop} {K : Value → Act → Prop} {a : Act} (hp : ∃ v, p v) (h : ∀ v, p v → StepAt P ops sp q R D w o (K v) a) :
    StepAt P ops sp q R D w o (fun a' => ∀ v, p v → K v a') a := by
  obtain ⟨v0, hv0⟩ := hp
  have h0 := h v0 hv0
  unfold StepAt at *
  split
  · rename_i hw
    rw [if_pos hw] at h0
    split
    · rename_i hs
      rw [if_pos hs] at h0
      obtain ⟨d, e1, e2, _⟩ := h0
      refine ⟨d, e1, e2, fun u hu v hv => ?_⟩
      have := h v hv
      rw [if_pos hw, if_pos hs] at this
      obtain ⟨d', e1', _, e3'⟩ := this
      have : d' = d := Option.some.inj (e1'.symm.trans e1)
      subst this
      exact e3' u hu
    · rename_i hs
      rw [if_neg hs] at h0
      obtain ⟨u, e1, _⟩ := h0
      refine ⟨u, e1, fun v hv => ?_⟩
      have := h v hv
      rw [if_pos hw, if_neg hs] at this
      obtain ⟨u', e1', e2'⟩ := this
      rw [plainUpon_one e1 e1']
      exact e2'
  · rename_i hw
    intro v hv
    have := h v hv
    rwa [if_neg hw] at this


theorem Makes.put {oi oj : Oper} {a : Act} {v : Value} {d : Tmp} (hs : ∀ cs b, oj.op ≠ .select cs b) (h1 : ∀ d, oi.dst = some d → d ∉ oj.looksAt ops) (h : Makes P ops w0 q R D oj a d) : Makes P ops w0 q R D oj (a.put oi.dst v) d :=
  ⟨h.1, fun w he hf => by rw [execOp_put oj hs a oi.dst v h1]; exact h.2 w he ((Facts.put h1).1 hf)⟩

/-- an operation that hangs on none ahead of it may come first -/
theorem FlowD.pull {Fin : Act → Prop} {oj : Oper} {L2 : List Oper} {w : World} (hE : Ext w0 w) (hsj : ∀ cs b, oj.op ≠ .select cs b) (L1 : List Oper) :
    ∀ a, (∀ oi ∈ L1, oi.apart ops oj = true ∧ ∀ cs b, oi.op ≠ .select cs b) → Facts ops q R oj a w → FlowD P ops w0 sp q R D Fin (L1 ++ oj :: L2) a → StepAt P ops sp q R D w oj (FlowD P ops w0 sp q R D Fin (L1 ++ L2)) a := by
  induction L1 with
  | nil =>
    intro a _ hf h
    rw [List.nil_append, FlowD] at h
    unfold StepAt
    split
    · rename_i hw
      rw [if_pos hw] at h
      split
      · rename_i hs
        rw [if_pos hs] at h
        obtain ⟨d, e1, e2, e3⟩ := h
        exact ⟨d, e1, e2.2 w hE hf, e3⟩
      · rename_i hs
        rw [if_neg hs] at h
        obtain ⟨v, e1, e2⟩ := h
        exact ⟨v, e1 w hE hf, e2⟩
    · rename_i hw
      rwa [if_neg hw] at h
  | cons oi L1 ih =>
    intro a hL hf h
    obtain ⟨hap, hsi⟩ := hL oi (by simp)
    obtain ⟨h1, h2, h3⟩ := Oper.apart_spec hap
    have hL' : ∀ o ∈ L1, o.apart ops oj = true ∧ ∀ cs b, o.op ≠ .select cs b := fun o ho => hL o (by simp [ho])
    rw [List.cons_append, FlowD] at h
    have key : ∀ v, FlowD P ops w0 sp q R D Fin (L1 ++ oj :: L2) (a.put oi.dst v) → StepAt P ops sp q R D w oj (fun a' => FlowD P ops w0 sp q R D Fin (L1 ++ L2) (a'.put oi.dst v)) a := fun v hv =>
      StepAt.put hap hsj (ih (a.put oi.dst v) hL' ((Facts.put h1).2 hf) hv)
    by_cases hw : Region.wanted oi (yielded ops a.tmps) = true
    · rw [if_pos hw] at h
      by_cases hs : isSp sp oi = true
      · rw [if_pos hs] at h
        obtain ⟨d, e1, e2, e3⟩ := h
        refine StepAt.mono (fun u hu => ?_) (StepAt.all (p := q d) (K := fun v a' => FlowD P ops w0 sp q R D Fin (L1 ++ L2) (a'.put oi.dst v)) e2.1 (fun v hv => key v (e3 v hv)))
        rw [List.cons_append, FlowD, wanted_put oi a oj.dst u h3, if_pos hw, if_pos hs]
        exact ⟨d, e1, e2.put hsi h3, hu⟩
      · rw [if_neg hs] at h
        obtain ⟨v, e1, e2⟩ := h
        refine StepAt.mono (fun u hu => ?_) (key v e2)
        rw [List.cons_append, FlowD, wanted_put oi a oj.dst u h3, if_pos hw, if_neg hs]
        exact ⟨v, e1.put hsi h3, hu⟩
    · rw [if_neg hw] at h
      refine StepAt.mono (fun u hu => ?_) (key undef h)
      rw [List.cons_append, FlowD, wanted_put oi a oj.dst u h3, if_neg hw]
      exact hu


/-- each two that have been made -/
def Pairs (ops : Array Oper) (q : Tmp → Value → Prop) (D : Tmp → Value → Tmp → Value → Prop) (l : Array Bool) (a : Act) : Prop :=
  ∀ (i i' : Nat) (o o' : Oper) (d d' : Tmp), ops[i]? = some o → ops[i']? = some o' → l.getD i false = true → l.getD i' false = true → o.dst = some d → o'.dst = some d' → d ≠ d' → q d (a.eval (.tmp d)) → q d' (a.eval (.tmp d')) →
    D d (a.eval (.tmp d)) d' (a.eval (.tmp d')) ∨ D d' (a.eval (.tmp d')) d (a.eval (.tmp d))


theorem wpOp_of_step {Q : Exit → Act → World → Prop} {j : Nat} {o : Oper} {w : World} {K : Act → Prop} {K' : Act → World → Prop} {a : Act} (hj : ops[j]? = some o)
    (h : ∀ v w', Ext w w' → (∀ d, o.dst = some d → (isSp sp o = true ∧ R d v w' ∧ ∀ t' v', q t' v' → R t' v' w → D d v t' v') ∨ isSp sp o = false ∨ v = undef) → K (a.put o.dst v) → K' (a.put o.dst v) w') (k : StepAt P ops sp q R D w o K a) : wpOp P ops Q j K' a w := by
  unfold StepAt at k
  unfold wpOp
  simp only [hj]
  split
  · rename_i hw
    rw [if_pos hw] at k
    left
    split at k
    · rename_i hs
      obtain ⟨d, e1, e2, e3⟩ := k
      unfold Oper.wp
      generalize (execOp a.eval o).run P w = r at *
      cases r with
      | ok n w' =>
        cases n <;> simp only [madeUpon] at e2 <;> simp only [Oper.upon]
        case value v => exact h v w' e2.1 (fun d' hd => by rw [e1] at hd; injection hd with hd; subst hd; exact .inl ⟨hs, e2.2.2⟩) (e3 v e2.2.1)
        case enter f args =>
          refine e2.mono fun e w'' ⟨v, he, k1, k2, k3⟩ => ?_
          subst he
          exact h v w'' k1 (fun d' hd => by rw [e1] at hd; injection hd with hd; subst hd; exact .inl ⟨hs, k3⟩) (e3 v k2)
      | halt x w' => simp only [madeUpon] at e2
    · rename_i hs
      have hs' : isSp sp o = false := by simpa using hs
      obtain ⟨v, e1, e2⟩ := k
      unfold Oper.wp
      generalize (execOp a.eval o).run P w = r at *
      cases r with
      | ok n w' =>
        cases n <;> simp only [plainUpon] at e1 <;> simp only [Oper.upon]
        case value u =>
          obtain ⟨e1, rfl⟩ := e1
          rw [e1]
          exact h u w (Ext.refl w) (fun d hd => .inr (.inl hs')) e2
        case skip =>
          obtain ⟨e1, rfl⟩ := e1
          rw [e1]
          exact h undef w (Ext.refl w) (fun d hd => .inr (.inr rfl)) e2
      | halt x w' => simp only [plainUpon] at e1
  · rename_i hw
    rw [if_neg hw] at k
    exact h undef w (Ext.refl w) (fun d hd => .inr (.inr rfl)) k


theorem FlowD.any {Q : Exit → Act → World → Prop} {Fin : Act → Prop} {n : Nat} (ok : FlowOk md ops n sp) (hq : ∀ t v, q t v → t ∈ sp) (hu : ∀ t, ¬ q t undef) (hR : ∀ t v w w', q t v → R t v w → Ext w w' → R t v w')
    (hF : ∀ l a w, (∀ i, i < n → l.getD i false = true) → HeadInv md ops n l → Ext w0 w → Known ops q R l a w → Pairs ops q D l a → Fin a → wpAny P md ops Q (ops.size - n) l a w) (m : Nat) :
    ∀ (l : Array Bool) (a : Act) (w : World), (idxOf n l).length = m → HeadInv md ops n l → Ext w0 w → Known ops q R l a w → Pairs ops q D l a → FlowD P ops w0 sp q R D Fin ((idxOf n l).filterMap (ops[·]?)) a → wpAny P md ops Q (m + (ops.size - n)) l a w := by
  induction m with
  | zero =>
    intro l a w hm inv hE hK hPr h
    have h0 : idxOf n l = [] := List.eq_nil_of_length_eq_zero hm
    rw [h0] at h
    rw [Nat.zero_add]
    refine hF l a w (fun i hi => ?_) inv hE hK hPr h
    cases hl : l.getD i false with
    | true => rfl
    | false =>
      have hs : i < l.size := by have := inv.size; have := ok.le; omega
      have : i ∈ idxOf n l := mem_idx.2 ⟨hi, getD_in hs hl⟩
      rw [h0] at this; cases this
  | succ m ih =>
    intro l a w hm inv hE hK hPr h
    rw [Nat.add_right_comm]
    have hne : idxOf n l ≠ [] := by intro e; rw [e] at hm; simp at hm
    obtain ⟨i0, hi0⟩ : ∃ i, i ∈ idxOf n l := List.exists_mem_of_ne_nil _ hne
    -- the least that is still to come is ready
    have hready : Region.ready md ops l ≠ [] := by
      have : ∀ k i, i ≤ k → i ∈ idxOf n l → ∃ j, j ∈ Region.ready md ops l := by
        intro k
        induction k using Nat.strongRecOn with
        | _ k ihk =>
          intro i hik hi
          obtain ⟨hin, hun⟩ := mem_idx.1 hi
          have hsz : i < ops.size := Nat.lt_of_lt_of_le hin ok.le
          by_cases hr : i ∈ Region.ready md ops l
          · exact ⟨i, hr⟩
          · have : ¬ (∀ e ∈ (ops[i]).after, Region.binds md e = true → l.getD e.on false = true) := fun hall => hr (mem_ready.2 ⟨hun, ops[i], by simp [hsz], hall⟩)
            simp only [Classical.not_forall] at this
            obtain ⟨e, he, hb, hl⟩ := this
            have hlt := ok.topo i (ops[i]) e hin (by simp [hsz]) he hb
            have hs : e.on < l.size := by have := inv.size; omega
            exact ihk e.on (by omega) e.on (Nat.le_refl _) (mem_idx.2 ⟨by omega, getD_in hs (by simpa using hl)⟩)
      obtain ⟨j, hj⟩ := this i0 i0 (Nat.le_refl _) hi0
      exact List.ne_nil_of_mem hj
    refine ⟨fun e => absurd e hready, fun j hj => ?_⟩
    obtain ⟨hun, oj, hoj, hall⟩ := mem_ready.1 hj
    have hjs : j < ops.size := (Array.getElem?_eq_some_iff.1 hoj).1
    obtain ⟨hi0n, hi0u⟩ := mem_idx.1 hi0
    have hjn : j < n := by
      by_cases hn : n < ops.size
      · exact Nat.lt_of_not_le fun hle => tail_waits (ok.sink hn) (ok.chain hn) hn inv _ i0 rfl hi0n hi0u j hle hj
      · omega
    have hjm : j ∈ idxOf n l := mem_idx.2 ⟨hjn, hun⟩
    obtain ⟨L1, L2, hL⟩ := List.append_of_mem hjm
    have hL' := idxOf_set hL
    have hnd : (idxOf n l).Nodup := List.nodup_range.filter _
    have hsel := ok.sel
    -- what is ahead of it in the text is apart from it
    have hap : ∀ oi ∈ L1.filterMap (ops[·]?), oi.apart ops oj = true ∧ ∀ cs b, oi.op ≠ .select cs b := by
      intro oi hoi
      obtain ⟨i, hi, ei⟩ := List.mem_filterMap.1 hoi
      have him : i ∈ idxOf n l := by rw [hL]; simp [hi]
      obtain ⟨hin, hiu⟩ := mem_idx.1 him
      have hij : i ≠ j := fun e => by
        subst e
        rw [hL] at hnd
        exact (List.nodup_append.1 hnd).2.2 i hi i (by simp) rfl
      have hlt : i < j := by
        have hso : (idxOf n l).Pairwise (· < ·) := List.pairwise_lt_range.filter _
        rw [hL] at hso
        exact (List.pairwise_append.1 hso).2.2 i hi j (by simp)
      refine ⟨?_, fun cs b => hsel i oi cs b ei⟩
      have c1 : ∀ d, oi.dst = some d → d ∉ oj.looksAt ops := fun d hd hm' => by
        obtain ⟨_, hw⟩ := ok.looks j i oj oi d hjn hin hoj ei hd hm'
        obtain ⟨e, he, hb, hon⟩ := waits_of hw hoj
        have := hall e he hb
        rw [hon, getD_both hiu] at this
        cases this
      have c2 : ∀ d, oi.dst = some d → oj.dst ≠ some d := fun d hd hd' => hij (ok.same i j oi oj d hin hjn ei hoj hd hd')
      have c3 : ∀ d, oj.dst = some d → d ∉ oi.looksAt ops := fun d hd hm' => by
        obtain ⟨_, hw⟩ := ok.looks i j oi oj d hin hjn ei hoj hd hm'
        obtain ⟨e, he, hb, hon⟩ := waits_of hw ei
        have := ok.topo i oi e hin ei he hb
        omega
      unfold Oper.apart
      simp only [Bool.and_eq_true]
      constructor
      · split
        · rename_i d hd
          have := c1 d hd
          have := c2 d hd
          simp [*]
        · rfl
      · split
        · rename_i d hd
          have := c3 d hd
          simp [*]
        · rfl
    have hfacts : Facts ops q R oj a w := by
      intro t ht hqt
      obtain ⟨i, oi, hin, ei, ed⟩ := ok.spec t (hq t _ hqt)
      obtain ⟨_, hw⟩ := ok.looks j i oj oi t hjn hin hoj ei ed ht
      obtain ⟨e, he, hb, hon⟩ := waits_of hw hoj
      have := hall e he hb
      rw [hon] at this
      exact hK i oi t ei this ed hqt
    rw [hL, List.filterMap_append, List.filterMap_cons, hoj] at h
    have hst := FlowD.pull hE (fun cs b => hsel j oj cs b hoj) _ a hap hfacts h
    refine wpOp_of_step hoj (fun v w' he hd hfl => ?_) hst
    refine ih _ _ _ ?_ (inv.set hj hjn) (hE.trans he) ?_ ?_ ?_
    · rw [hL']
      rw [hL] at hm
      simp at hm ⊢
      omega
    · intro i o d hi hl' hd' hqd
      by_cases hij : i = j
      · subst hij
        have : o = oj := Option.some.inj (hi.symm.trans hoj)
        subst this
        rw [hd'] at hqd ⊢
        rcases eval_put_same (a := a) (d := d) (v := v) with e | e
        · rw [e] at hqd ⊢
          rcases hd d hd' with ⟨_, h⟩ | h | h
          · exact h.1
          · have hsp := hq d _ hqd
            simp [isSp, hd', hsp] at h
          · subst h; exact absurd hqd (hu d)
        · rw [e] at hqd; exact absurd hqd (hu d)
      · rw [getD_set_ne false (Ne.symm hij)] at hl'
        have hne : ∀ e, oj.dst = some e → (Operand.tmp d) ≠ .tmp e := fun e he' hx => by
          injection hx with hx
          subst hx
          have hin : i < n := by
            have hs : i < ops.size := (Array.getElem?_eq_some_iff.1 hi).1
            rcases Nat.lt_or_ge i n with h | h
            · exact h
            · rw [getD_both (inv.tail i h hs)] at hl'; cases hl'
          exact hij (ok.same i j o oj d hin hjn hi hoj hd' he')
        rw [Act.eval_put (fun e he' => hne e he')] at hqd ⊢
        exact hR d _ _ _ hqd (hK i o d hi hl' hd' hqd) he
    · -- pairs
      have hold : ∀ i o d, ops[i]? = some o → l.getD i false = true → o.dst = some d → i ≠ j → (a.put oj.dst v).eval (.tmp d) = a.eval (.tmp d) := by
        intro i o d hi hl' hd' hij
        refine Act.eval_put (fun e he' hx => ?_)
        injection hx with hx
        subst hx
        have hin : i < n := by
          have hs : i < ops.size := (Array.getElem?_eq_some_iff.1 hi).1
          rcases Nat.lt_or_ge i n with h | h
          · exact h
          · rw [getD_both (inv.tail i h hs)] at hl'; cases hl'
        exact hij (ok.same i j o oj d hin hjn hi hoj hd' he')
      have hnew : ∀ d t' v', oj.dst = some d → q d ((a.put oj.dst v).eval (.tmp d)) → q t' v' → R t' v' w → D d ((a.put oj.dst v).eval (.tmp d)) t' v' := by
        intro d t' v' hd' hqd hq' hR'
        rw [hd'] at hqd ⊢
        rcases eval_put_same (a := a) (d := d) (v := v) with e | e
        · rw [e] at hqd ⊢
          rcases hd d hd' with ⟨_, h⟩ | h | h
          · exact h.2 t' v' hq' hR'
          · have hsp := hq d _ hqd
            simp [isSp, hd', hsp] at h
          · subst h; exact absurd hqd (hu d)
        · rw [e] at hqd; exact absurd hqd (hu d)
      intro i i' o o' d d' hi hi' hl1 hl2 hd1 hd2 hne hq1 hq2
      by_cases e1 : i = j
      · subst e1
        obtain rfl : o = oj := Option.some.inj (hi.symm.trans hoj)
        by_cases e2 : i' = i
        · subst e2
          obtain rfl : o' = o := Option.some.inj (hi'.symm.trans hi)
          exact absurd (Option.some.inj (hd1.symm.trans hd2)) hne
        · rw [getD_set_ne false (Ne.symm e2)] at hl2
          rw [hold i' o' d' hi' hl2 hd2 e2] at hq2 ⊢
          exact .inl (hnew d d' _ hd1 hq1 hq2 (hK i' o' d' hi' hl2 hd2 hq2))
      · rw [getD_set_ne false (Ne.symm e1)] at hl1
        rw [hold i o d hi hl1 hd1 e1] at hq1 ⊢
        by_cases e2 : i' = j
        · subst e2
          obtain rfl : o' = oj := Option.some.inj (hi'.symm.trans hoj)
          exact .inr (hnew d' d _ hd2 hq2 hq1 (hK i o d hi hl1 hd1 hq1))
        · rw [getD_set_ne false (Ne.symm e2)] at hl2
          rw [hold i' o' d' hi' hl2 hd2 e2] at hq2 ⊢
          exact hPr i i' o o' d d' hi hi' hl1 hl2 hd1 hd2 hne hq1 hq2
    · rw [hL', List.filterMap_append]
      exact hfl


/-- ONE WALK: the first n operations in the order of the text; the others, in their order, from any world that is as they may have left it. -/
theorem region_two_any {Q : Exit → Act → World → Prop} {a : Act} {w : World} {l : List Oper} (n : Nat) (sp : List Tmp) (q : Tmp → Value → Prop) (R : Tmp → Value → World → Prop) (D : Tmp → Value → Tmp → Value → Prop) (hB : flowB .any l.toArray n sp = true)
    (hq : ∀ t v, q t v → t ∈ sp) (hu : ∀ t, ¬ q t undef) (hR : ∀ t v w w', q t v → R t v w → Ext w w' → R t v w')
    (h : Flow P l.toArray w sp q R D (fun a' => ∀ w', Ext w w' → (∀ t, t ∈ sp → q t (a'.eval (.tmp t)) → R t (a'.eval (.tmp t)) w') → (∀ t t', t ∈ sp → t' ∈ sp → t ≠ t' → q t (a'.eval (.tmp t)) → q t' (a'.eval (.tmp t')) → D t (a'.eval (.tmp t)) t' (a'.eval (.tmp t')) ∨ D t' (a'.eval (.tmp t')) t (a'.eval (.tmp t))) → wpList P l.toArray Q (l.drop n) a' w') (l.take n) a) : wpAny P .any l.toArray Q l.toArray.size (Array.replicate l.toArray.size false) a w.drew := by
  have ok := flowB_ok hB
  have hle : n ≤ l.length := by simpa using ok.le
  have inv0 : HeadInv .any l.toArray n (Array.replicate l.toArray.size false) :=
    ⟨by simp, fun j oj _ hl => (by rw [getD_replicate_false] at hl; cases hl), fun t _ ht => getD_in (by simpa using ht) (getD_replicate_false _ _)⟩
  have hidx : idxOf n (Array.replicate l.toArray.size false) = List.range n := by
    unfold idxOf
    rw [List.filter_eq_self]
    intro i hi
    have hi' : i < l.length := by have := List.mem_range.1 hi; omega
    simp [hi']
  have := FlowD.any (P := P) (Q := Q) (w0 := w) ok hq hu hR (Fin := fun a' => ∀ w', Ext w w' → (∀ t, t ∈ sp → q t (a'.eval (.tmp t)) → R t (a'.eval (.tmp t)) w') → (∀ t t', t ∈ sp → t' ∈ sp → t ≠ t' → q t (a'.eval (.tmp t)) → q t' (a'.eval (.tmp t')) → D t (a'.eval (.tmp t)) t' (a'.eval (.tmp t')) ∨ D t' (a'.eval (.tmp t')) t (a'.eval (.tmp t))) → wpList P l.toArray Q (l.drop n) a' w') (fun lst a' w' hl inv hE hK hPr hFin => by
    have hlst : lst = Array.ofFn (n := l.toArray.size) fun i => decide (i.val < n) := by
      apply Array.ext
      · simp [inv.size]
      · intro i h1 h2
        have hi : i < l.toArray.size := by rw [← inv.size]; exact h1
        by_cases hin : i < n
        · have := hl i hin
          simp [h1] at this
          simp [this, hin]
        · have := inv.tail i (by omega) hi
          simp [h1] at this
          simp [this, hin]
    have hfin := hFin w' hE (fun t ht hqt => by
      obtain ⟨i, o, hin, ei, ed⟩ := ok.spec t ht
      exact hK i o t ei (hl i hin) ed hqt) (fun t t' ht ht' hne hqt hqt' => by
      obtain ⟨i, o, hin, ei, ed⟩ := ok.spec t ht
      obtain ⟨i', o', hin', ei', ed'⟩ := ok.spec t' ht'
      exact hPr i i' o o' t t' ei ei' (hl i hin) (hl i' hin') ed ed' hne hqt hqt')
    have := wpAny_of_seq (md := .any) (Q' := Q) (P := P) (l.drop n) n lst a' w' (fun j => by simp [List.getElem?_drop]) (by rw [hlst]; simpa using ok.seq) hfin
    simpa using this) _ (Array.replicate l.toArray.size false) a w.drew rfl inv0 (Ext.drew w) (fun i o d _ hl => by rw [getD_replicate_false] at hl; cases hl) (fun i i' o o' d d' _ _ hl => by rw [getD_replicate_false] at hl; cases hl) (by rw [hidx, range_filterMap l n hle]; exact h.out)
  rw [hidx] at this
  rw [List.length_range, show n + (l.toArray.size - n) = l.toArray.size by have := ok.le; omega] at this
  exact this

theorem region_two {id : Nat} {Q : Exit → Act → World → Prop} {a : Act} {w : World} {l : List Oper} (n : Nat) (sp : List Tmp) (q : Tmp → Value → Prop) (R : Tmp → Value → World → Prop) (D : Tmp → Value → Tmp → Value → Prop) (hm : P.follows .mixedOrders = true) (hB : flowB .any l.toArray n sp = true)
    (hq : ∀ t v, q t v → t ∈ sp) (hu : ∀ t, ¬ q t undef) (hR : ∀ t v w w', q t v → R t v w → Ext w w' → R t v w')
    (h : Flow P l.toArray w sp q R D (fun a' => ∀ w', Ext w w' → (∀ t, t ∈ sp → q t (a'.eval (.tmp t)) → R t (a'.eval (.tmp t)) w') → (∀ t t', t ∈ sp → t' ∈ sp → t ≠ t' → q t (a'.eval (.tmp t)) → q t' (a'.eval (.tmp t')) → D t (a'.eval (.tmp t)) t' (a'.eval (.tmp t')) ∨ D t' (a'.eval (.tmp t')) t (a'.eval (.tmp t))) → wpList P l.toArray Q (l.drop n) a' w') (l.take n) a) : (Code.region id l.toArray true).wp P Q a w :=
  wp_region_any hm (region_two_any n sp q R D hB hq hu hR h)


theorem Flow.plain {Fin : Act → Prop} {o : Oper} {rest : List Oper} {a : Act} (hne : noEnter o.op = true) (hns : isSp sp o = false)
    (h : wpQuiet P ops (fun w' => ∃ g, w' = w0.ext g) (fun a' => Flow P ops w0 sp q R D Fin rest a') [o] a) : Flow P ops w0 sp q R D Fin (o :: rest) a := by
  unfold wpQuiet at h
  refine ⟨?_⟩
  unfold FlowD
  split
  · rename_i hw
    rw [if_pos hw] at h
    rw [if_neg (by rw [hns]; exact Bool.false_ne_true)]
    obtain ⟨v, h1, h2⟩ := h
    refine ⟨v, fun w he _ => ?_, Flow.out h2⟩
    have h3 := h1 w he
    unfold Oper.quietAt at h3
    have h4 := run_noEnter (P := P) hne a.eval w
    generalize (execOp a.eval o).run P w = r at *
    cases r with
    | ok n w' =>
      cases n <;> simp only [Oper.quietUpon] at h3 <;> simp only [plainUpon]
      case value u => exact h3
      case skip => exact h3
      case enter f args => exact absurd rfl (h4 w' f args)
    | halt x w' => simp only [Oper.quietUpon] at h3
  · rename_i hw
    rw [if_neg hw] at h
    exact Flow.out h

/-- an operation that reads what was made -/
theorem Flow.use {Fin : Act → Prop} {o : Oper} {rest : List Oper} {a : Act} (v : Value) (hw : Region.wanted o (yielded ops a.tmps) = true) (hns : isSp sp o = false)
    (hrun : ∀ w, Ext w0 w → Facts ops q R o a w → (execOp a.eval o).run P w = .ok (.value v) w) (h : Flow P ops w0 sp q R D Fin rest (a.put o.dst v)) : Flow P ops w0 sp q R D Fin (o :: rest) a := by
  refine ⟨?_⟩
  unfold FlowD
  rw [if_pos hw, if_neg (by rw [hns]; exact Bool.false_ne_true)]
  exact ⟨v, fun w he hf => by rw [hrun w he hf]; exact ⟨rfl, rfl⟩, h.out⟩

theorem Flow.skip {Fin : Act → Prop} {o : Oper} {rest : List Oper} {a : Act} (hw : Region.wanted o (yielded ops a.tmps) = false) (h : Flow P ops w0 sp q R D Fin rest (a.put o.dst undef)) : Flow P ops w0 sp q R D Fin (o :: rest) a := by
  refine ⟨?_⟩
  unfold FlowD
  rw [if_neg (by rw [hw]; exact Bool.false_ne_true)]
  exact h.out

/-- a call -/
theorem Flow.call {Fin : Act → Prop} {rest : List Oper} {a : Act} {d : Tmp} {f : FuncId} {xs : List Operand} {ats : Array TypeId} {ty : TypeId} {pos : String} {after : Array Edge} {guard : Option (Nat × Bool)}
    (hcall : ∀ args w, (callFunc f args).run P w = .ok (.enter f args) w) (vs : List Value) (hvs : xs.map a.eval = vs) (hw : Region.wanted ⟨some d, .call { callee := .value (.func f), args := xs.toArray, argTypes := ats }, ty, pos, after, guard⟩ (yielded ops a.tmps) = true) (hs : sp.contains d = true)
    (hq : ∃ v, q d v)
    (hc : ∀ w, Ext w0 w → Facts ops q R ⟨some d, .call { callee := .value (.func f), args := xs.toArray, argTypes := ats }, ty, pos, after, guard⟩ a w → Calls P f vs.toArray w (fun e w' => ∃ v, e = .returned v ∧ Ext w w' ∧ q d v ∧ R d v w' ∧ ∀ t' v', q t' v' → R t' v' w → D d v t' v'))
    (h : ∀ v, q d v → Flow P ops w0 sp q R D Fin rest (a.put (some d) v)) : Flow P ops w0 sp q R D Fin (⟨some d, .call { callee := .value (.func f), args := xs.toArray, argTypes := ats }, ty, pos, after, guard⟩ :: rest) a := by
  have hs' : isSp sp (⟨some d, .call { callee := .value (.func f), args := xs.toArray, argTypes := ats }, ty, pos, after, guard⟩ : Oper) = true := hs
  refine ⟨?_⟩
  unfold FlowD
  rw [if_pos hw, if_pos hs']
  refine ⟨d, rfl, ⟨hq, fun w he hf => ?_⟩, fun v hv => (h v hv).out⟩
  rw [execOp_call_go, hcall, show (#[] ++ xs.toArray.map a.eval ++ #[] : Array Value) = vs.toArray by rw [← hvs]; simp]
  exact hc w he hf

/-- an operation that makes memory -/
theorem Flow.make {Fin : Act → Prop} {o : Oper} {rest : List Oper} {a : Act} (d : Tmp) (hd : o.dst = some d) (hw : Region.wanted o (yielded ops a.tmps) = true) (hs : isSp sp o = true) (hq : ∃ v, q d v)
    (hc : ∀ w, Ext w0 w → Facts ops q R o a w → ∃ v w', (execOp a.eval o).run P w = .ok (.value v) w' ∧ Ext w w' ∧ q d v ∧ R d v w' ∧ ∀ t' v', q t' v' → R t' v' w → D d v t' v')
    (h : ∀ v, q d v → Flow P ops w0 sp q R D Fin rest (a.put (some d) v)) : Flow P ops w0 sp q R D Fin (o :: rest) a := by
  refine ⟨?_⟩
  unfold FlowD
  rw [if_pos hw, if_pos hs]
  refine ⟨d, hd, ⟨hq, fun w he hf => ?_⟩, fun v hv => by rw [hd]; exact (h v hv).out⟩
  obtain ⟨v, w', e, h1⟩ := hc w he hf
  rw [e]; exact h1


theorem Flow.nil {Fin : Act → Prop} {a : Act} (h : Fin a) : Flow P ops w0 sp q R D Fin [] a := ⟨h⟩


end
end Go.Proofs.Ytncphiphgkjflaa.Two
