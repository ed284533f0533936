/- A region that draws its order, walked once in the order of the text, though its operations make memory: what each maker yields is known by a shape (q) and by a fact that new blocks leave standing (R). Lemmas only. -/
import Derived.Test.YtakebbphielbfaaDoorExt
import Derived.BigCall
set_option linter.unusedVariables false
set_option linter.unusedSimpArgs false
namespace Go.Proofs.YtakebbphielbfaaDoor
open Go Go.RowKit

section
variable {P : Program} {md : Region.Mode} {ops : Array Oper} {w0 : World} {sp : List Tmp} {q : Tmp → Value → Prop} {R : Tmp → Value → World → Prop}

def isSp (sp : List Tmp) (o : Oper) : Bool := match o.dst with | some d => sp.contains d | none => false

/-- what is known of the slots that an operation looks at -/
def Facts (ops : Array Oper) (q : Tmp → Value → Prop) (R : Tmp → Value → World → Prop) (o : Oper) (a : Act) (w : World) : Prop :=
  ∀ t, t ∈ o.looksAt ops → q t (a.eval (.tmp t)) → R t (a.eval (.tmp t)) w

def madeUpon (P : Program) (K : Value → World → Prop) : Result Next → Prop
  | .ok (.value v) w' => K v w'
  | .ok (.enter f args) w' => Calls P f args w' (fun e w'' => ∃ v, e = .returned v ∧ K v w'')
  | _ => False

def plainUpon (w : World) (v : Value) : Result Next → Prop
  | .ok (.value u) w' => w' = w ∧ u = v
  | .ok .skip w' => w' = w ∧ v = undef
  | _ => False

theorem plainUpon_one {w : World} {u v : Value} {r : Result Next} (h : plainUpon w u r) (k : plainUpon w v r) : u = v := by
  cases r with
  | ok n w' =>
    cases n <;> simp only [plainUpon] at h k
    · rw [← h.2, ← k.2]
    · rw [h.2, k.2]
  | halt x w' => simp only [plainUpon] at h

def Makes (P : Program) (ops : Array Oper) (w0 : World) (q : Tmp → Value → Prop) (R : Tmp → Value → World → Prop) (o : Oper) (a : Act) (d : Tmp) : Prop :=
  (∃ v, q d v) ∧ ∀ w, Ext w0 w → Facts ops q R o a w → madeUpon P (fun v w' => Ext w w' ∧ q d v ∧ R d v w') ((execOp a.eval o).run P w)
def Plain (P : Program) (ops : Array Oper) (w0 : World) (q : Tmp → Value → Prop) (R : Tmp → Value → World → Prop) (o : Oper) (a : Act) (v : Value) : Prop :=
  ∀ w, Ext w0 w → Facts ops q R o a w → plainUpon w v ((execOp a.eval o).run P w)

def FlowD (P : Program) (ops : Array Oper) (w0 : World) (sp : List Tmp) (q : Tmp → Value → Prop) (R : Tmp → Value → World → Prop) (Fin : Act → Prop) : List Oper → Act → Prop
  | [], a => Fin a
  | o :: rest, a => if Region.wanted o (yielded ops a.tmps) = true then
      (if isSp sp o = true then ∃ d, o.dst = some d ∧ Makes P ops w0 q R o a d ∧ ∀ v, q d v → FlowD P ops w0 sp q R Fin rest (a.put o.dst v)
       else ∃ v, Plain P ops w0 q R o a v ∧ FlowD P ops w0 sp q R Fin rest (a.put o.dst v))
      else FlowD P ops w0 sp q R Fin rest (a.put o.dst undef)

/-- the same, shut -/
structure Flow (P : Program) (ops : Array Oper) (w0 : World) (sp : List Tmp) (q : Tmp → Value → Prop) (R : Tmp → Value → World → Prop) (Fin : Act → Prop) (l : List Oper) (a : Act) : Prop where
  out : FlowD P ops w0 sp q R Fin l a

/-- one operation, here and now -/
def StepAt (P : Program) (ops : Array Oper) (sp : List Tmp) (q : Tmp → Value → Prop) (R : Tmp → Value → World → Prop) (w : World) (o : Oper) (K : Act → Prop) (a : Act) : Prop :=
  if Region.wanted o (yielded ops a.tmps) = true then
    (if isSp sp o = true then ∃ d, o.dst = some d ∧ madeUpon P (fun v w' => Ext w w' ∧ q d v ∧ R d v w') ((execOp a.eval o).run P w) ∧ ∀ v, q d v → K (a.put o.dst v)
     else ∃ v, plainUpon w v ((execOp a.eval o).run P w) ∧ K (a.put o.dst v))
    else K (a.put o.dst undef)

theorem StepAt.mono {w : World} {o : Oper} {K K' : Act → Prop} {a : Act} (h : ∀ u, K (a.put o.dst u) → K' (a.put o.dst u)) (k : StepAt P ops sp q R w o K a) : StepAt P ops sp q R w o K' a := by
  unfold StepAt at *
  split
  · rename_i hw
    rw [if_pos hw] at k
    split
    · rename_i hs
      rw [if_pos hs] at k
      obtain ⟨d, h1, h2, h3⟩ := k
      exact ⟨d, h1, h2, fun v hv => h _ (h3 v hv)⟩
    · rename_i hs
      rw [if_neg hs] at k
      obtain ⟨v, h1, h2⟩ := k
      exact ⟨v, h1, h _ h2⟩
  · rename_i hw
    rw [if_neg hw] at k
    exact h _ k

theorem StepAt.put {w : World} {oi oj : Oper} {v : Value} {K : Act → Prop} {a : Act} (hap : oi.apart ops oj = true) (hsj : ∀ cs b, oj.op ≠ .select cs b)
    (h : StepAt P ops sp q R w oj K (a.put oi.dst v)) : StepAt P ops sp q R w oj (fun a' => K (a'.put oi.dst v)) a := by
  obtain ⟨h1, h2, h3⟩ := Oper.apart_spec hap
  unfold StepAt at *
  rw [wanted_put oj a oi.dst v h1, execOp_put oj hsj a oi.dst v h1] at h
  split
  · rename_i hw
    rw [if_pos hw] at h
    split
    · rename_i hs
      rw [if_pos hs] at h
      obtain ⟨d, e1, e2, e3⟩ := h
      exact ⟨d, e1, e2, fun u hu => by have := e3 u hu; rw [Act.put_comm a v u h2] at this; exact this⟩
    · rename_i hs
      rw [if_neg hs] at h
      obtain ⟨u, e1, e2⟩ := h
      exact ⟨u, e1, by rw [Act.put_comm a v u h2] at e2; exact e2⟩
  · rename_i hw
    rw [if_neg hw] at h
    rw [Act.put_comm a v undef h2] at h
    exact h

theorem StepAt.all {w : World} {o : Oper} {p : Value → Prop} {K : Value → Act → Prop} {a : Act} (hp : ∃ v, p v) (h : ∀ v, p v → StepAt P ops sp q R w o (K v) a) :
    StepAt P ops sp q R w o (fun a' => ∀ v, p v → K v a') a := by
  obtain ⟨v0, hv0⟩ := hp
  have h0 := h v0 hv0
  unfold StepAt at *
  split
  · rename_i hw
    rw [if_pos hw] at h0
    split
    · rename_i hs
      rw [if_pos hs] at h0
      obtain ⟨d, e1, e2, _⟩ := h0
      refine ⟨d, e1, e2, fun u hu v hv => ?_⟩
      have := h v hv
      rw [if_pos hw, if_pos hs] at this
      obtain ⟨d', e1', _, e3'⟩ := this
      have : d' = d := Option.some.inj (e1'.symm.trans e1)
      subst this
      exact e3' u hu
    · rename_i hs
      rw [if_neg hs] at h0
      obtain ⟨u, e1, _⟩ := h0
      refine ⟨u, e1, fun v hv => ?_⟩
      have := h v hv
      rw [if_pos hw, if_neg hs] at this
      obtain ⟨u', e1', e2'⟩ := this
      rw [plainUpon_one e1 e1']
      exact e2'
  · rename_i hw
    intro v hv
    have := h v hv
    rwa [if_neg hw] at this

theorem Facts.put {oi oj : Oper} {a : Act} {v : Value} {w : World} (h1 : ∀ d, oi.dst = some d → d ∉ oj.looksAt ops) : Facts ops q R oj (a.put oi.dst v) w ↔ Facts ops q R oj a w := by
  have e : ∀ t, t ∈ oj.looksAt ops → (a.put oi.dst v).eval (.tmp t) = a.eval (.tmp t) := fun t ht => Act.eval_put fun d hd hx => h1 d hd (by injection hx with hx; rw [← hx]; exact ht)
  constructor
  · intro h t ht hq
    have := h t ht
    rw [e t ht] at this
    exact this hq
  · intro h t ht hq
    rw [e t ht] at hq ⊢
    exact h t ht hq

theorem Makes.put {oi oj : Oper} {a : Act} {v : Value} {d : Tmp} (hs : ∀ cs b, oj.op ≠ .select cs b) (h1 : ∀ d, oi.dst = some d → d ∉ oj.looksAt ops) (h : Makes P ops w0 q R oj a d) : Makes P ops w0 q R oj (a.put oi.dst v) d :=
  ⟨h.1, fun w he hf => by rw [execOp_put oj hs a oi.dst v h1]; exact h.2 w he ((Facts.put h1).1 hf)⟩
theorem Plain.put {oi oj : Oper} {a : Act} {v u : Value} (hs : ∀ cs b, oj.op ≠ .select cs b) (h1 : ∀ d, oi.dst = some d → d ∉ oj.looksAt ops) (h : Plain P ops w0 q R oj a u) : Plain P ops w0 q R oj (a.put oi.dst v) u :=
  fun w he hf => by rw [execOp_put oj hs a oi.dst v h1]; exact h w he ((Facts.put h1).1 hf)

/-- an operation that hangs on none ahead of it may come first -/
theorem FlowD.pull {Fin : Act → Prop} {oj : Oper} {L2 : List Oper} {w : World} (hE : Ext w0 w) (hsj : ∀ cs b, oj.op ≠ .select cs b) (L1 : List Oper) :
    ∀ a, (∀ oi ∈ L1, oi.apart ops oj = true ∧ ∀ cs b, oi.op ≠ .select cs b) → Facts ops q R oj a w → FlowD P ops w0 sp q R Fin (L1 ++ oj :: L2) a → StepAt P ops sp q R w oj (FlowD P ops w0 sp q R Fin (L1 ++ L2)) a := by
  induction L1 with
  | nil =>
    intro a _ hf h
    rw [List.nil_append, FlowD] at h
    unfold StepAt
    split
    · rename_i hw
      rw [if_pos hw] at h
      split
      · rename_i hs
        rw [if_pos hs] at h
        obtain ⟨d, e1, e2, e3⟩ := h
        exact ⟨d, e1, e2.2 w hE hf, e3⟩
      · rename_i hs
        rw [if_neg hs] at h
        obtain ⟨v, e1, e2⟩ := h
        exact ⟨v, e1 w hE hf, e2⟩
    · rename_i hw
      rwa [if_neg hw] at h
  | cons oi L1 ih =>
    intro a hL hf h
    obtain ⟨hap, hsi⟩ := hL oi (by simp)
    obtain ⟨h1, h2, h3⟩ := Oper.apart_spec hap
    have hL' : ∀ o ∈ L1, o.apart ops oj = true ∧ ∀ cs b, o.op ≠ .select cs b := fun o ho => hL o (by simp [ho])
    rw [List.cons_append, FlowD] at h
    have key : ∀ v, FlowD P ops w0 sp q R Fin (L1 ++ oj :: L2) (a.put oi.dst v) → StepAt P ops sp q R w oj (fun a' => FlowD P ops w0 sp q R Fin (L1 ++ L2) (a'.put oi.dst v)) a := fun v hv =>
      StepAt.put hap hsj (ih (a.put oi.dst v) hL' ((Facts.put h1).2 hf) hv)
    by_cases hw : Region.wanted oi (yielded ops a.tmps) = true
    · rw [if_pos hw] at h
      by_cases hs : isSp sp oi = true
      · rw [if_pos hs] at h
        obtain ⟨d, e1, e2, e3⟩ := h
        refine StepAt.mono (fun u hu => ?_) (StepAt.all (p := q d) (K := fun v a' => FlowD P ops w0 sp q R Fin (L1 ++ L2) (a'.put oi.dst v)) e2.1 (fun v hv => key v (e3 v hv)))
        rw [List.cons_append, FlowD, wanted_put oi a oj.dst u h3, if_pos hw, if_pos hs]
        exact ⟨d, e1, e2.put hsi h3, hu⟩
      · rw [if_neg hs] at h
        obtain ⟨v, e1, e2⟩ := h
        refine StepAt.mono (fun u hu => ?_) (key v e2)
        rw [List.cons_append, FlowD, wanted_put oi a oj.dst u h3, if_pos hw, if_neg hs]
        exact ⟨v, e1.put hsi h3, hu⟩
    · rw [if_neg hw] at h
      refine StepAt.mono (fun u hu => ?_) (key undef h)
      rw [List.cons_append, FlowD, wanted_put oi a oj.dst u h3, if_neg hw]
      exact hu

/-! ### what the kernel is asked of a region -/
def looksB (ops : Array Oper) (i j : Nat) : Bool := match ops[i]?, ops[j]? with
  | some oi, some oj => match oj.dst with | some d => (oi.looksAt ops).contains d | none => false
  | _, _ => false
def sameB (ops : Array Oper) (i j : Nat) : Bool := match ops[i]?, ops[j]? with
  | some oi, some oj => match oi.dst, oj.dst with | some d, some e => d == e | _, _ => false
  | _, _ => false

def flowB (md : Region.Mode) (ops : Array Oper) (n : Nat) (sp : List Tmp) : Bool :=
  Region.noSelect ops && decide (n ≤ ops.size) && (decide (n = ops.size) || Region.sinkB md ops n) && (decide (n = ops.size) || Region.chainB md ops n) &&
  ((List.range n).all fun i => (List.range n).all fun j =>
    (!looksB ops i j || (!(i == j) && Region.waitsFor md ops i j)) && (i == j || !sameB ops i j)) &&
  ((List.range n).all fun i => match ops[i]? with | some o => o.after.all fun e => !Region.binds md e || decide (e.on < i) | none => true) &&
  (sp.all fun t => (List.range n).any fun i => match ops[i]? with | some o => o.dst == some t | none => false) &&
  Region.seqB md ops (ops.size - n) n (Array.ofFn (n := ops.size) fun i => decide (i.val < n))

structure FlowOk (md : Region.Mode) (ops : Array Oper) (n : Nat) (sp : List Tmp) : Prop where
  sel : ∀ (j : Nat) (o : Oper) cs b, ops[j]? = some o → o.op ≠ .select cs b
  le : n ≤ ops.size
  sink : n < ops.size → Region.sinkB md ops n = true
  chain : n < ops.size → Region.chainB md ops n = true
  looks : ∀ i j oi oj d, i < n → j < n → ops[i]? = some oi → ops[j]? = some oj → oj.dst = some d → d ∈ oi.looksAt ops → i ≠ j ∧ Region.waitsFor md ops i j = true
  same : ∀ i j oi oj d, i < n → j < n → ops[i]? = some oi → ops[j]? = some oj → oi.dst = some d → oj.dst = some d → i = j
  topo : ∀ i o e, i < n → ops[i]? = some o → e ∈ o.after → Region.binds md e = true → e.on < i
  spec : ∀ t, t ∈ sp → ∃ i o, i < n ∧ ops[i]? = some o ∧ o.dst = some t
  seq : Region.seqB md ops (ops.size - n) n (Array.ofFn (n := ops.size) fun i => decide (i.val < n)) = true

theorem flowB_ok {n : Nat} (h : flowB md ops n sp = true) : FlowOk md ops n sp := by
  simp only [flowB, Bool.and_eq_true, decide_eq_true_eq] at h
  obtain ⟨⟨⟨⟨⟨⟨⟨h1, h2⟩, h3⟩, h4⟩, h5⟩, h6⟩, h7⟩, h8⟩ := h
  refine ⟨Region.noSelect_spec h1, h2, fun hn => ?_, fun hn => ?_, ?_, ?_, ?_, ?_, h8⟩
  · simp only [Bool.or_eq_true, decide_eq_true_eq] at h3; exact h3.resolve_left (by omega)
  · simp only [Bool.or_eq_true, decide_eq_true_eq] at h4; exact h4.resolve_left (by omega)
  · intro i j oi oj d hi hj ei ej ed hd
    have := List.all_eq_true.1 (List.all_eq_true.1 h5 i (List.mem_range.2 hi)) j (List.mem_range.2 hj)
    simp only [Bool.and_eq_true] at this
    have hl : looksB ops i j = true := by simp only [looksB, ei, ej, ed]; simpa using hd
    simpa [hl] using this.1
  · intro i j oi oj d hi hj ei ej ed ed'
    have := List.all_eq_true.1 (List.all_eq_true.1 h5 i (List.mem_range.2 hi)) j (List.mem_range.2 hj)
    simp only [Bool.and_eq_true] at this
    have hl : sameB ops i j = true := by simp only [sameB, ei, ej, ed, ed']; simp
    simpa [hl] using this.2
  · intro i o e hi eo he hb
    have := List.all_eq_true.1 h6 i (List.mem_range.2 hi)
    simp only [eo] at this
    have := Array.all_eq_true_iff_forall_mem.1 this e he
    simpa [hb] using this
  · intro t ht
    have := List.all_eq_true.1 h7 t ht
    obtain ⟨i, hi, h⟩ := List.any_eq_true.1 this
    split at h
    · rename_i o ho
      exact ⟨i, o, List.mem_range.1 hi, ho, by simpa using h⟩
    · cases h

def idxOf (n : Nat) (l : Array Bool) : List Nat := (List.range n).filter fun i => !l.getD i true

theorem filter_split {p : Nat → Bool} {j : Nat} {L L1 L2 : List Nat} (hn : L.Nodup) (h : L.filter p = L1 ++ j :: L2) : L.filter (fun i => p i && !(i == j)) = L1 ++ L2 := by
  have hnd : (L1 ++ j :: L2).Nodup := h ▸ hn.filter p
  have e : L.filter (fun i => p i && !(i == j)) = (L.filter p).filter (fun i => !(i == j)) := by
    rw [List.filter_filter]
    congr 1
    funext i
    exact Bool.and_comm _ _
  rw [e, h, List.filter_append, List.filter_cons]
  have h1 : ∀ x ∈ L1, x ≠ j := fun x hx e => by
    subst e
    have := (List.nodup_append.1 hnd).2.2 x hx x (by simp)
    exact this rfl
  have h2 : ∀ x ∈ L2, x ≠ j := fun x hx e => by
    subst e
    have := (List.nodup_cons.1 (List.nodup_append.1 hnd).2.1).1
    exact this hx
  rw [List.filter_eq_self.2 (fun x hx => by simpa using h1 x hx), List.filter_eq_self.2 (fun x hx => by simpa using h2 x hx)]
  simp

theorem idxOf_set {n j : Nat} {l : Array Bool} {L1 L2 : List Nat} (h : idxOf n l = L1 ++ j :: L2) : idxOf n (l.setIfInBounds j true) = L1 ++ L2 := by
  have h1 := filter_split (p := fun i => !l.getD i true) (j := j) (L := List.range n) List.nodup_range h
  rw [← h1]
  unfold idxOf
  congr 1
  funext i
  by_cases e : i = j
  · subst e
    by_cases hs : i < l.size
    · simp [hs]
    · simp [hs]
  · rw [getD_set_ne true (Ne.symm e)]
    simp [e]

/-- what is known of all that has been made -/
def Known (ops : Array Oper) (q : Tmp → Value → Prop) (R : Tmp → Value → World → Prop) (l : Array Bool) (a : Act) (w : World) : Prop :=
  ∀ i o d, ops[i]? = some o → l.getD i false = true → o.dst = some d → q d (a.eval (.tmp d)) → R d (a.eval (.tmp d)) w

theorem eval_put_same {a : Act} {d : Tmp} {v : Value} : (a.put (some d) v).eval (.tmp d) = v ∨ (a.put (some d) v).eval (.tmp d) = undef := by
  by_cases h : d < a.tmps.size
  · left; simp [Act.put, Act.eval, h]
  · right; simp [Act.put, Act.eval, h]

theorem wpOp_of_step {Q : Exit → Act → World → Prop} {j : Nat} {o : Oper} {w : World} {K : Act → Prop} {K' : Act → World → Prop} {a : Act} (hj : ops[j]? = some o)
    (h : ∀ v w', Ext w w' → (∀ d, o.dst = some d → (isSp sp o = true ∧ R d v w') ∨ isSp sp o = false ∨ v = undef) → K (a.put o.dst v) → K' (a.put o.dst v) w') (k : StepAt P ops sp q R w o K a) : wpOp P ops Q j K' a w := by
  unfold StepAt at k
  unfold wpOp
  simp only [hj]
  split
  · rename_i hw
    rw [if_pos hw] at k
    left
    split at k
    · rename_i hs
      obtain ⟨d, e1, e2, e3⟩ := k
      unfold Oper.wp
      generalize (execOp a.eval o).run P w = r at *
      cases r with
      | ok n w' =>
        cases n <;> simp only [madeUpon] at e2 <;> simp only [Oper.upon]
        case value v => exact h v w' e2.1 (fun d' hd => by rw [e1] at hd; injection hd with hd; subst hd; exact .inl ⟨hs, e2.2.2⟩) (e3 v e2.2.1)
        case enter f args =>
          refine e2.mono fun e w'' ⟨v, he, k1, k2, k3⟩ => ?_
          subst he
          exact h v w'' k1 (fun d' hd => by rw [e1] at hd; injection hd with hd; subst hd; exact .inl ⟨hs, k3⟩) (e3 v k2)
      | halt x w' => simp only [madeUpon] at e2
    · rename_i hs
      have hs' : isSp sp o = false := by simpa using hs
      obtain ⟨v, e1, e2⟩ := k
      unfold Oper.wp
      generalize (execOp a.eval o).run P w = r at *
      cases r with
      | ok n w' =>
        cases n <;> simp only [plainUpon] at e1 <;> simp only [Oper.upon]
        case value u =>
          obtain ⟨e1, rfl⟩ := e1
          rw [e1]
          exact h u w (Ext.refl w) (fun d hd => .inr (.inl hs')) e2
        case skip =>
          obtain ⟨e1, rfl⟩ := e1
          rw [e1]
          exact h undef w (Ext.refl w) (fun d hd => .inr (.inr rfl)) e2
      | halt x w' => simp only [plainUpon] at e1
  · rename_i hw
    rw [if_neg hw] at k
    exact h undef w (Ext.refl w) (fun d hd => .inr (.inr rfl)) k

theorem waits_of {i j : Nat} {o : Oper} (h : Region.waitsFor md ops i j = true) (ho : ops[i]? = some o) : ∃ e ∈ o.after, Region.binds md e = true ∧ e.on = j := by
  obtain ⟨o', ho', e⟩ := Region.waitsFor_spec h
  have : o' = o := Option.some.inj (ho'.symm.trans ho)
  rw [← this]; exact e

theorem mem_idx {n i : Nat} {l : Array Bool} : i ∈ idxOf n l ↔ i < n ∧ l.getD i true = false := by simp [idxOf]

theorem FlowD.any {Q : Exit → Act → World → Prop} {Fin : Act → Prop} {n : Nat} (ok : FlowOk md ops n sp) (hq : ∀ t v, q t v → t ∈ sp) (hu : ∀ t, ¬ q t undef) (hR : ∀ t v w w', q t v → R t v w → Ext w w' → R t v w')
    (hF : ∀ l a w, (∀ i, i < n → l.getD i false = true) → HeadInv md ops n l → Ext w0 w → Known ops q R l a w → Fin a → wpAny P md ops Q (ops.size - n) l a w) (m : Nat) :
    ∀ (l : Array Bool) (a : Act) (w : World), (idxOf n l).length = m → HeadInv md ops n l → Ext w0 w → Known ops q R l a w → FlowD P ops w0 sp q R Fin ((idxOf n l).filterMap (ops[·]?)) a → wpAny P md ops Q (m + (ops.size - n)) l a w := by
  induction m with
  | zero =>
    intro l a w hm inv hE hK h
    have h0 : idxOf n l = [] := List.eq_nil_of_length_eq_zero hm
    rw [h0] at h
    rw [Nat.zero_add]
    refine hF l a w (fun i hi => ?_) inv hE hK h
    cases hl : l.getD i false with
    | true => rfl
    | false =>
      have hs : i < l.size := by have := inv.size; have := ok.le; omega
      have : i ∈ idxOf n l := mem_idx.2 ⟨hi, getD_in hs hl⟩
      rw [h0] at this; cases this
  | succ m ih =>
    intro l a w hm inv hE hK h
    rw [Nat.add_right_comm]
    have hne : idxOf n l ≠ [] := by intro e; rw [e] at hm; simp at hm
    obtain ⟨i0, hi0⟩ : ∃ i, i ∈ idxOf n l := List.exists_mem_of_ne_nil _ hne
    -- the least that is still to come is ready
    have hready : Region.ready md ops l ≠ [] := by
      have : ∀ k i, i ≤ k → i ∈ idxOf n l → ∃ j, j ∈ Region.ready md ops l := by
        intro k
        induction k using Nat.strongRecOn with
        | _ k ihk =>
          intro i hik hi
          obtain ⟨hin, hun⟩ := mem_idx.1 hi
          have hsz : i < ops.size := Nat.lt_of_lt_of_le hin ok.le
          by_cases hr : i ∈ Region.ready md ops l
          · exact ⟨i, hr⟩
          · have : ¬ (∀ e ∈ (ops[i]).after, Region.binds md e = true → l.getD e.on false = true) := fun hall => hr (mem_ready.2 ⟨hun, ops[i], by simp [hsz], hall⟩)
            simp only [Classical.not_forall] at this
            obtain ⟨e, he, hb, hl⟩ := this
            have hlt := ok.topo i (ops[i]) e hin (by simp [hsz]) he hb
            have hs : e.on < l.size := by have := inv.size; omega
            exact ihk e.on (by omega) e.on (Nat.le_refl _) (mem_idx.2 ⟨by omega, getD_in hs (by simpa using hl)⟩)
      obtain ⟨j, hj⟩ := this i0 i0 (Nat.le_refl _) hi0
      exact List.ne_nil_of_mem hj
    refine ⟨fun e => absurd e hready, fun j hj => ?_⟩
    obtain ⟨hun, oj, hoj, hall⟩ := mem_ready.1 hj
    have hjs : j < ops.size := (Array.getElem?_eq_some_iff.1 hoj).1
    obtain ⟨hi0n, hi0u⟩ := mem_idx.1 hi0
    have hjn : j < n := by
      by_cases hn : n < ops.size
      · exact Nat.lt_of_not_le fun hle => tail_waits (ok.sink hn) (ok.chain hn) hn inv _ i0 rfl hi0n hi0u j hle hj
      · omega
    have hjm : j ∈ idxOf n l := mem_idx.2 ⟨hjn, hun⟩
    obtain ⟨L1, L2, hL⟩ := List.append_of_mem hjm
    have hL' := idxOf_set hL
    have hnd : (idxOf n l).Nodup := List.nodup_range.filter _
    have hsel := ok.sel
    -- what is ahead of it in the text is apart from it
    have hap : ∀ oi ∈ L1.filterMap (ops[·]?), oi.apart ops oj = true ∧ ∀ cs b, oi.op ≠ .select cs b := by
      intro oi hoi
      obtain ⟨i, hi, ei⟩ := List.mem_filterMap.1 hoi
      have him : i ∈ idxOf n l := by rw [hL]; simp [hi]
      obtain ⟨hin, hiu⟩ := mem_idx.1 him
      have hij : i ≠ j := fun e => by
        subst e
        rw [hL] at hnd
        exact (List.nodup_append.1 hnd).2.2 i hi i (by simp) rfl
      have hlt : i < j := by
        have hso : (idxOf n l).Pairwise (· < ·) := List.pairwise_lt_range.filter _
        rw [hL] at hso
        exact (List.pairwise_append.1 hso).2.2 i hi j (by simp)
      refine ⟨?_, fun cs b => hsel i oi cs b ei⟩
      have c1 : ∀ d, oi.dst = some d → d ∉ oj.looksAt ops := fun d hd hm' => by
        obtain ⟨_, hw⟩ := ok.looks j i oj oi d hjn hin hoj ei hd hm'
        obtain ⟨e, he, hb, hon⟩ := waits_of hw hoj
        have := hall e he hb
        rw [hon, getD_both hiu] at this
        cases this
      have c2 : ∀ d, oi.dst = some d → oj.dst ≠ some d := fun d hd hd' => hij (ok.same i j oi oj d hin hjn ei hoj hd hd')
      have c3 : ∀ d, oj.dst = some d → d ∉ oi.looksAt ops := fun d hd hm' => by
        obtain ⟨_, hw⟩ := ok.looks i j oi oj d hin hjn ei hoj hd hm'
        obtain ⟨e, he, hb, hon⟩ := waits_of hw ei
        have := ok.topo i oi e hin ei he hb
        omega
      unfold Oper.apart
      simp only [Bool.and_eq_true]
      constructor
      · split
        · rename_i d hd
          have := c1 d hd
          have := c2 d hd
          simp [*]
        · rfl
      · split
        · rename_i d hd
          have := c3 d hd
          simp [*]
        · rfl
    have hfacts : Facts ops q R oj a w := by
      intro t ht hqt
      obtain ⟨i, oi, hin, ei, ed⟩ := ok.spec t (hq t _ hqt)
      obtain ⟨_, hw⟩ := ok.looks j i oj oi t hjn hin hoj ei ed ht
      obtain ⟨e, he, hb, hon⟩ := waits_of hw hoj
      have := hall e he hb
      rw [hon] at this
      exact hK i oi t ei this ed hqt
    rw [hL, List.filterMap_append, List.filterMap_cons, hoj] at h
    have hst := FlowD.pull hE (fun cs b => hsel j oj cs b hoj) _ a hap hfacts h
    refine wpOp_of_step hoj (fun v w' he hd hfl => ?_) hst
    refine ih _ _ _ ?_ (inv.set hj hjn) (hE.trans he) ?_ ?_
    · rw [hL']
      rw [hL] at hm
      simp at hm ⊢
      omega
    · intro i o d hi hl' hd' hqd
      by_cases hij : i = j
      · subst hij
        have : o = oj := Option.some.inj (hi.symm.trans hoj)
        subst this
        rw [hd'] at hqd ⊢
        rcases eval_put_same (a := a) (d := d) (v := v) with e | e
        · rw [e] at hqd ⊢
          rcases hd d hd' with ⟨_, h⟩ | h | h
          · exact h
          · have hsp := hq d _ hqd
            simp [isSp, hd', hsp] at h
          · subst h; exact absurd hqd (hu d)
        · rw [e] at hqd; exact absurd hqd (hu d)
      · rw [getD_set_ne false (Ne.symm hij)] at hl'
        have hne : ∀ e, oj.dst = some e → (Operand.tmp d) ≠ .tmp e := fun e he' hx => by
          injection hx with hx
          subst hx
          have hin : i < n := by
            have hs : i < ops.size := (Array.getElem?_eq_some_iff.1 hi).1
            rcases Nat.lt_or_ge i n with h | h
            · exact h
            · rw [getD_both (inv.tail i h hs)] at hl'; cases hl'
          exact hij (ok.same i j o oj d hin hjn hi hoj hd' he')
        rw [Act.eval_put (fun e he' => hne e he')] at hqd ⊢
        exact hR d _ _ _ hqd (hK i o d hi hl' hd' hqd) he
    · rw [hL', List.filterMap_append]
      exact hfl

theorem range_filterMap (l : List Oper) (n : Nat) (h : n ≤ l.length) : (List.range n).filterMap (l.toArray[·]?) = l.take n := by
  induction n with
  | zero => simp
  | succ n ih =>
    rw [List.range_succ, List.filterMap_append, ih (by omega), List.take_succ_eq_append_getElem (by omega)]
    simp [List.getElem?_eq_getElem (show n < l.length by omega)]

/-- ONE WALK: the first n operations in the order of the text; the others, in their order, from any world that is as they may have left it. -/
theorem region_flow_any {Q : Exit → Act → World → Prop} {a : Act} {w : World} {l : List Oper} (n : Nat) (sp : List Tmp) (q : Tmp → Value → Prop) (R : Tmp → Value → World → Prop) (hB : flowB .any l.toArray n sp = true)
    (hq : ∀ t v, q t v → t ∈ sp) (hu : ∀ t, ¬ q t undef) (hR : ∀ t v w w', q t v → R t v w → Ext w w' → R t v w')
    (h : Flow P l.toArray w sp q R (fun a' => ∀ w', Ext w w' → (∀ t, t ∈ sp → q t (a'.eval (.tmp t)) → R t (a'.eval (.tmp t)) w') → wpList P l.toArray Q (l.drop n) a' w') (l.take n) a) : wpAny P .any l.toArray Q l.toArray.size (Array.replicate l.toArray.size false) a w.drew := by
  have ok := flowB_ok hB
  have hle : n ≤ l.length := by simpa using ok.le
  have inv0 : HeadInv .any l.toArray n (Array.replicate l.toArray.size false) :=
    ⟨by simp, fun j oj _ hl => (by rw [getD_replicate_false] at hl; cases hl), fun t _ ht => getD_in (by simpa using ht) (getD_replicate_false _ _)⟩
  have hidx : idxOf n (Array.replicate l.toArray.size false) = List.range n := by
    unfold idxOf
    rw [List.filter_eq_self]
    intro i hi
    have hi' : i < l.length := by have := List.mem_range.1 hi; omega
    simp [hi']
  have := FlowD.any (P := P) (Q := Q) (w0 := w) ok hq hu hR (Fin := fun a' => ∀ w', Ext w w' → (∀ t, t ∈ sp → q t (a'.eval (.tmp t)) → R t (a'.eval (.tmp t)) w') → wpList P l.toArray Q (l.drop n) a' w') (fun lst a' w' hl inv hE hK hFin => by
    have hlst : lst = Array.ofFn (n := l.toArray.size) fun i => decide (i.val < n) := by
      apply Array.ext
      · simp [inv.size]
      · intro i h1 h2
        have hi : i < l.toArray.size := by rw [← inv.size]; exact h1
        by_cases hin : i < n
        · have := hl i hin
          simp [h1] at this
          simp [this, hin]
        · have := inv.tail i (by omega) hi
          simp [h1] at this
          simp [this, hin]
    have hfin := hFin w' hE (fun t ht hqt => by
      obtain ⟨i, o, hin, ei, ed⟩ := ok.spec t ht
      exact hK i o t ei (hl i hin) ed hqt)
    have := wpAny_of_seq (md := .any) (Q' := Q) (P := P) (l.drop n) n lst a' w' (fun j => by simp [List.getElem?_drop]) (by rw [hlst]; simpa using ok.seq) hfin
    simpa using this) _ (Array.replicate l.toArray.size false) a w.drew rfl inv0 (Ext.drew w) (fun i o d _ hl => by rw [getD_replicate_false] at hl; cases hl) (by rw [hidx, range_filterMap l n hle]; exact h.out)
  rw [hidx] at this
  rw [List.length_range, show n + (l.toArray.size - n) = l.toArray.size by have := ok.le; omega] at this
  exact this

theorem region_flow {id : Nat} {Q : Exit → Act → World → Prop} {a : Act} {w : World} {l : List Oper} (n : Nat) (sp : List Tmp) (q : Tmp → Value → Prop) (R : Tmp → Value → World → Prop) (hm : P.follows .mixedOrders = true) (hB : flowB .any l.toArray n sp = true)
    (hq : ∀ t v, q t v → t ∈ sp) (hu : ∀ t, ¬ q t undef) (hR : ∀ t v w w', q t v → R t v w → Ext w w' → R t v w')
    (h : Flow P l.toArray w sp q R (fun a' => ∀ w', Ext w w' → (∀ t, t ∈ sp → q t (a'.eval (.tmp t)) → R t (a'.eval (.tmp t)) w') → wpList P l.toArray Q (l.drop n) a' w') (l.take n) a) : (Code.region id l.toArray true).wp P Q a w :=
  wp_region_any hm (region_flow_any n sp q R hB hq hu hR h)

/-! ### the same, behind operations that were taken first (they hang on no world: an address of a field) -/
structure HeadInv2 (md : Region.Mode) (ops : Array Oper) (n : Nat) (pre : List Nat) (listed : Array Bool) : Prop where
  size : listed.size = ops.size
  closed : ∀ j oj, ops[j]? = some oj → listed.getD j false = true → ∀ e ∈ oj.after, Region.binds md e = true → listed.getD e.on false = true
  tail : ∀ t, n ≤ t → t < ops.size → t ∉ pre → listed.getD t true = false
  pres : ∀ t, t ∈ pre → listed.getD t false = true

theorem HeadInv2.set {n i : Nat} {pre : List Nat} {listed : Array Bool} (inv : HeadInv2 md ops n pre listed) (hi : i ∈ Region.ready md ops listed) (hin : i < n) : HeadInv2 md ops n pre (listed.setIfInBounds i true) := by
  obtain ⟨_, oi, hoi, hall⟩ := mem_ready.1 hi
  refine ⟨by simp [inv.size], fun j oj hj hl e he hb => ?_, fun t ht ht' hp => by rw [getD_set_ne true (by omega)]; exact inv.tail t ht ht' hp, fun t ht => getD_set_true (inv.pres t ht)⟩
  by_cases hij : i = j
  · subst hij
    have : oj = oi := Option.some.inj (hj.symm.trans hoi)
    subst this
    exact getD_set_true (hall e he hb)
  · rw [getD_set_ne false hij] at hl
    exact getD_set_true (inv.closed j oj hj hl e he hb)

/-- each later operation of the tail waits for one ahead of it in the tail -/
def tailB2 (md : Region.Mode) (ops : Array Oper) (n : Nat) (pre : List Nat) : Bool :=
  (List.range ops.size).all fun t => decide (t ≤ n) || pre.contains t || (List.range t).any fun u => decide (n ≤ u) && !pre.contains u && Region.waitsFor md ops t u

theorem tail_waits2 {n : Nat} {pre : List Nat} {listed : Array Bool} (hs : Region.sinkB md ops n = true) (hc : tailB2 md ops n pre = true) (hn : n < ops.size) (hnp : n ∉ pre) (inv : HeadInv2 md ops n pre listed) :
    ∀ (d i : Nat), n - i = d → i < n → listed.getD i true = false → ∀ t, n ≤ t → t ∉ pre → t ∉ Region.ready md ops listed := by
  intro d
  induction d using Nat.strongRecOn with
  | _ d ih =>
    intro i hd hi hun t ht hp hr
    obtain ⟨_, ot, hot, hall⟩ := mem_ready.1 hr
    have htlt : t < ops.size := (Array.getElem?_eq_some_iff.1 hot).1
    by_cases htn : t = n
    · subst htn
      have h1 := List.all_eq_true.1 hs i (List.mem_range.2 hi)
      obtain ⟨j, hj, hj2⟩ := List.any_eq_true.1 h1
      simp only [Bool.and_eq_true, decide_eq_true_eq] at hj2
      obtain ⟨oj, hoj, e, he, hb, hon⟩ := Region.waitsFor_spec hj2.2
      have hjle : j ≤ t := by have := List.mem_range.1 hj; omega
      by_cases hjt : j = t
      · subst hjt
        have : oj = ot := Option.some.inj (hoj.symm.trans hot)
        subst this
        have h2 := hall e he hb
        rw [hon, getD_both hun] at h2
        cases h2
      · cases hl : listed.getD j false with
        | true =>
          have h2 := inv.closed j oj hoj hl e he hb
          rw [hon, getD_both hun] at h2
          cases h2
        | false =>
          have hjs : j < listed.size := by rw [inv.size]; omega
          exact ih (t - j) (by omega) j rfl (by omega) (getD_in hjs hl) t (Nat.le_refl _) hp hr
    · have h1 := List.all_eq_true.1 hc t (List.mem_range.2 htlt)
      simp only [Bool.or_eq_true, decide_eq_true_eq] at h1
      rcases h1 with (h1 | h1) | h1
      · omega
      · exact hp (by simpa using h1)
      · obtain ⟨u, hu, h2⟩ := List.any_eq_true.1 h1
        simp only [Bool.and_eq_true, decide_eq_true_eq, Bool.not_eq_true'] at h2
        obtain ⟨o', ho', e, he, hb, hon⟩ := Region.waitsFor_spec h2.2
        have : o' = ot := Option.some.inj (ho'.symm.trans hot)
        subst this
        have h3 := hall e he hb
        have hut := List.mem_range.1 hu
        have hup : u ∉ pre := by intro h; have : pre.contains u = true := by simpa using h
                                 rw [this] at h2; cases h2.1.2
        rw [hon, getD_both (inv.tail u h2.1.1 (by omega) hup)] at h3
        cases h3

/-- operations that come up one by one -/
def seqL (md : Region.Mode) (ops : Array Oper) : List Nat → Array Bool → Bool
  | [], listed => (Region.ready md ops listed).isEmpty
  | k :: ks, listed => decide (Region.ready md ops listed = [k]) && seqL md ops ks (listed.setIfInBounds k true)

theorem wpAny_of_seqL {Q : Exit → Act → World → Prop} : ∀ (ks : List Nat) (listed : Array Bool) (a : Act) (w : World), (∀ k ∈ ks, k < ops.size) → seqL md ops ks listed = true → wpList P ops Q (ks.filterMap (ops[·]?)) a w → wpAny P md ops Q ks.length listed a w
  | [], _, _, _, _, hB, h => ⟨by simpa [seqL] using hB, h⟩
  | k :: ks, listed, a, w, hk, hB, h => by
    simp only [seqL, Bool.and_eq_true, decide_eq_true_eq] at hB
    have hks : k < ops.size := hk k (by simp)
    have h0 : ops[k]? = some ops[k] := by simp [hks]
    rw [List.filterMap_cons, h0] at h
    refine ⟨fun h1 => (by rw [hB.1] at h1; cases h1), fun i hi => ?_⟩
    rw [hB.1] at hi
    have hik : i = k := by simpa using hi
    subst hik
    have hw : wpOp P ops Q i (wpList P ops Q (ks.filterMap (ops[·]?))) a w := by unfold wpOp; simp only [h0]; exact h
    exact wpOp_mono (fun a' w' h' => wpAny_of_seqL ks _ a' w' (fun x hx => hk x (by simp [hx])) hB.2 h') hw

def headL (n : Nat) (pre : List Nat) (size : Nat) : Array Bool := Array.ofFn (n := size) fun i => decide (i.val < n) || pre.contains i.val
def preL (pre : List Nat) (size : Nat) : Array Bool := Array.ofFn (n := size) fun i => pre.contains i.val
def tailIdx (n : Nat) (pre : List Nat) (size : Nat) : List Nat := (List.range size).filter fun t => decide (n ≤ t) && !pre.contains t

def flowB2 (md : Region.Mode) (ops : Array Oper) (n : Nat) (sp : List Tmp) (pre : List Nat) : Bool :=
  Region.noSelect ops && decide (n < ops.size) && Region.sinkB md ops n && tailB2 md ops n pre && (pre.all fun t => decide (n < t) && decide (t < ops.size)) &&
  ((List.range n).all fun i => (List.range n).all fun j =>
    (!looksB ops i j || (!(i == j) && Region.waitsFor md ops i j)) && (i == j || !sameB ops i j)) &&
  ((List.range n).all fun i => match ops[i]? with | some o => o.after.all fun e => !Region.binds md e || decide (e.on < i) | none => true) &&
  (sp.all fun t => (List.range n).any fun i => match ops[i]? with | some o => o.dst == some t | none => false) &&
  (pre.all fun i => match ops[i]? with | some o => o.after.all fun e => !Region.binds md e || pre.contains e.on | none => true) &&
  seqL md ops (tailIdx n pre ops.size) (headL n pre ops.size)

structure FlowOk2 (md : Region.Mode) (ops : Array Oper) (n : Nat) (sp : List Tmp) (pre : List Nat) : Prop where
  sel : ∀ (j : Nat) (o : Oper) cs b, ops[j]? = some o → o.op ≠ .select cs b
  lt : n < ops.size
  sink : Region.sinkB md ops n = true
  tail : tailB2 md ops n pre = true
  pres : ∀ t ∈ pre, n < t ∧ t < ops.size
  looks : ∀ i j oi oj d, i < n → j < n → ops[i]? = some oi → ops[j]? = some oj → oj.dst = some d → d ∈ oi.looksAt ops → i ≠ j ∧ Region.waitsFor md ops i j = true
  same : ∀ i j oi oj d, i < n → j < n → ops[i]? = some oi → ops[j]? = some oj → oi.dst = some d → oj.dst = some d → i = j
  topo : ∀ i o e, i < n → ops[i]? = some o → e ∈ o.after → Region.binds md e = true → e.on < i
  spec : ∀ t, t ∈ sp → ∃ i o, i < n ∧ ops[i]? = some o ∧ o.dst = some t
  clos : ∀ i o e, i ∈ pre → ops[i]? = some o → e ∈ o.after → Region.binds md e = true → e.on ∈ pre
  seq : seqL md ops (tailIdx n pre ops.size) (headL n pre ops.size) = true

theorem flowB2_ok {n : Nat} {pre : List Nat} (h : flowB2 md ops n sp pre = true) : FlowOk2 md ops n sp pre := by
  simp only [flowB2, Bool.and_eq_true, decide_eq_true_eq] at h
  obtain ⟨⟨⟨⟨⟨⟨⟨⟨⟨h1, h2⟩, h3⟩, h4⟩, h4'⟩, h5⟩, h6⟩, h7⟩, h7'⟩, h8⟩ := h
  refine ⟨Region.noSelect_spec h1, h2, h3, h4, ?_, ?_, ?_, ?_, ?_, ?_, h8⟩
  · intro t ht
    have := List.all_eq_true.1 h4' t ht
    simpa using this
  · intro i j oi oj d hi hj ei ej ed hd
    have := List.all_eq_true.1 (List.all_eq_true.1 h5 i (List.mem_range.2 hi)) j (List.mem_range.2 hj)
    simp only [Bool.and_eq_true] at this
    have hl : looksB ops i j = true := by simp only [looksB, ei, ej, ed]; simpa using hd
    simpa [hl] using this.1
  · intro i j oi oj d hi hj ei ej ed ed'
    have := List.all_eq_true.1 (List.all_eq_true.1 h5 i (List.mem_range.2 hi)) j (List.mem_range.2 hj)
    simp only [Bool.and_eq_true] at this
    have hl : sameB ops i j = true := by simp only [sameB, ei, ej, ed, ed']; simp
    simpa [hl] using this.2
  · intro i o e hi eo he hb
    have := List.all_eq_true.1 h6 i (List.mem_range.2 hi)
    simp only [eo] at this
    have := Array.all_eq_true_iff_forall_mem.1 this e he
    simpa [hb] using this
  · intro t ht
    have := List.all_eq_true.1 h7 t ht
    obtain ⟨i, hi, h⟩ := List.any_eq_true.1 this
    split at h
    · rename_i o ho
      exact ⟨i, o, List.mem_range.1 hi, ho, by simpa using h⟩
    · cases h
  · intro i o e hi eo he hb
    have := List.all_eq_true.1 h7' i hi
    simp only [eo] at this
    have := Array.all_eq_true_iff_forall_mem.1 this e he
    simpa [hb] using this

theorem FlowD.any2 {Q : Exit → Act → World → Prop} {Fin : Act → Prop} {n : Nat} {pre : List Nat} (ok : FlowOk2 md ops n sp pre) (hq : ∀ t v, q t v → t ∈ sp) (hu : ∀ t, ¬ q t undef) (hR : ∀ t v w w', q t v → R t v w → Ext w w' → R t v w')
    (hF : ∀ l a w, (∀ i, i < n → l.getD i false = true) → HeadInv2 md ops n pre l → Ext w0 w → Known ops q R l a w → Fin a → wpAny P md ops Q (tailIdx n pre ops.size).length l a w) (m : Nat) :
    ∀ (l : Array Bool) (a : Act) (w : World), (idxOf n l).length = m → HeadInv2 md ops n pre l → Ext w0 w → Known ops q R l a w → FlowD P ops w0 sp q R Fin ((idxOf n l).filterMap (ops[·]?)) a → wpAny P md ops Q (m + (tailIdx n pre ops.size).length) l a w := by
  induction m with
  | zero =>
    intro l a w hm inv hE hK h
    have h0 : idxOf n l = [] := List.eq_nil_of_length_eq_zero hm
    rw [h0] at h
    rw [Nat.zero_add]
    refine hF l a w (fun i hi => ?_) inv hE hK h
    cases hl : l.getD i false with
    | true => rfl
    | false =>
      have hs : i < l.size := by have := inv.size; have := ok.lt; omega
      have : i ∈ idxOf n l := mem_idx.2 ⟨hi, getD_in hs hl⟩
      rw [h0] at this; cases this
  | succ m ih =>
    intro l a w hm inv hE hK h
    rw [Nat.add_right_comm]
    have hne : idxOf n l ≠ [] := by intro e; rw [e] at hm; simp at hm
    obtain ⟨i0, hi0⟩ : ∃ i, i ∈ idxOf n l := List.exists_mem_of_ne_nil _ hne
    have hready : Region.ready md ops l ≠ [] := by
      have : ∀ k i, i ≤ k → i ∈ idxOf n l → ∃ j, j ∈ Region.ready md ops l := by
        intro k
        induction k using Nat.strongRecOn with
        | _ k ihk =>
          intro i hik hi
          obtain ⟨hin, hun⟩ := mem_idx.1 hi
          have hsz : i < ops.size := Nat.lt_trans hin ok.lt
          by_cases hr : i ∈ Region.ready md ops l
          · exact ⟨i, hr⟩
          · have : ¬ (∀ e ∈ (ops[i]).after, Region.binds md e = true → l.getD e.on false = true) := fun hall => hr (mem_ready.2 ⟨hun, ops[i], by simp [hsz], hall⟩)
            simp only [Classical.not_forall] at this
            obtain ⟨e, he, hb, hl⟩ := this
            have hlt := ok.topo i (ops[i]) e hin (by simp [hsz]) he hb
            have hs : e.on < l.size := by have := inv.size; omega
            exact ihk e.on (by omega) e.on (Nat.le_refl _) (mem_idx.2 ⟨by omega, getD_in hs (by simpa using hl)⟩)
      obtain ⟨j, hj⟩ := this i0 i0 (Nat.le_refl _) hi0
      exact List.ne_nil_of_mem hj
    refine ⟨fun e => absurd e hready, fun j hj => ?_⟩
    obtain ⟨hun, oj, hoj, hall⟩ := mem_ready.1 hj
    have hjs : j < ops.size := (Array.getElem?_eq_some_iff.1 hoj).1
    obtain ⟨hi0n, hi0u⟩ := mem_idx.1 hi0
    have hjp : j ∉ pre := fun h => by have := inv.pres j h; rw [getD_both hun] at this; cases this
    have hnp : n ∉ pre := fun h => by have := (ok.pres n h).1; omega
    have hjn : j < n := Nat.lt_of_not_le fun hle => tail_waits2 ok.sink ok.tail ok.lt hnp inv _ i0 rfl hi0n hi0u j hle hjp hj
    have hjm : j ∈ idxOf n l := mem_idx.2 ⟨hjn, hun⟩
    obtain ⟨L1, L2, hL⟩ := List.append_of_mem hjm
    have hL' := idxOf_set hL
    have hnd : (idxOf n l).Nodup := List.nodup_range.filter _
    have hsel := ok.sel
    have hap : ∀ oi ∈ L1.filterMap (ops[·]?), oi.apart ops oj = true ∧ ∀ cs b, oi.op ≠ .select cs b := by
      intro oi hoi
      obtain ⟨i, hi, ei⟩ := List.mem_filterMap.1 hoi
      have him : i ∈ idxOf n l := by rw [hL]; simp [hi]
      obtain ⟨hin, hiu⟩ := mem_idx.1 him
      have hij : i ≠ j := fun e => by
        subst e
        rw [hL] at hnd
        exact (List.nodup_append.1 hnd).2.2 i hi i (by simp) rfl
      have hlt : i < j := by
        have hso : (idxOf n l).Pairwise (· < ·) := List.pairwise_lt_range.filter _
        rw [hL] at hso
        exact (List.pairwise_append.1 hso).2.2 i hi j (by simp)
      refine ⟨?_, fun cs b => hsel i oi cs b ei⟩
      have c1 : ∀ d, oi.dst = some d → d ∉ oj.looksAt ops := fun d hd hm' => by
        obtain ⟨_, hw⟩ := ok.looks j i oj oi d hjn hin hoj ei hd hm'
        obtain ⟨e, he, hb, hon⟩ := waits_of hw hoj
        have := hall e he hb
        rw [hon, getD_both hiu] at this
        cases this
      have c2 : ∀ d, oi.dst = some d → oj.dst ≠ some d := fun d hd hd' => hij (ok.same i j oi oj d hin hjn ei hoj hd hd')
      have c3 : ∀ d, oj.dst = some d → d ∉ oi.looksAt ops := fun d hd hm' => by
        obtain ⟨_, hw⟩ := ok.looks i j oi oj d hin hjn ei hoj hd hm'
        obtain ⟨e, he, hb, hon⟩ := waits_of hw ei
        have := ok.topo i oi e hin ei he hb
        omega
      unfold Oper.apart
      simp only [Bool.and_eq_true]
      constructor
      · split
        · rename_i d hd
          have := c1 d hd
          have := c2 d hd
          simp [*]
        · rfl
      · split
        · rename_i d hd
          have := c3 d hd
          simp [*]
        · rfl
    have hfacts : Facts ops q R oj a w := by
      intro t ht hqt
      obtain ⟨i, oi, hin, ei, ed⟩ := ok.spec t (hq t _ hqt)
      obtain ⟨_, hw⟩ := ok.looks j i oj oi t hjn hin hoj ei ed ht
      obtain ⟨e, he, hb, hon⟩ := waits_of hw hoj
      have := hall e he hb
      rw [hon] at this
      exact hK i oi t ei this ed hqt
    rw [hL, List.filterMap_append, List.filterMap_cons, hoj] at h
    have hst := FlowD.pull hE (fun cs b => hsel j oj cs b hoj) _ a hap hfacts h
    refine wpOp_of_step hoj (fun v w' he hd hfl => ?_) hst
    refine ih _ _ _ ?_ (inv.set hj hjn) (hE.trans he) ?_ ?_
    · rw [hL']
      rw [hL] at hm
      simp at hm ⊢
      omega
    · intro i o d hi hl' hd' hqd
      obtain ⟨i', o', hin', ei', ed'⟩ := ok.spec d (hq d _ hqd)
      by_cases hij : i = j
      · subst hij
        have : o = oj := Option.some.inj (hi.symm.trans hoj)
        subst this
        rw [hd'] at hqd ⊢
        rcases eval_put_same (a := a) (d := d) (v := v) with e | e
        · rw [e] at hqd ⊢
          rcases hd d hd' with ⟨_, h⟩ | h | h
          · exact h
          · have hsp := hq d _ hqd
            simp [isSp, hd', hsp] at h
          · subst h; exact absurd hqd (hu d)
        · rw [e] at hqd; exact absurd hqd (hu d)
      · rw [getD_set_ne false (Ne.symm hij)] at hl'
        by_cases hsame : oj.dst = some d
        · -- the slot is the maker's that came up now
          have hji' : j = i' := ok.same j i' oj o' d hjn hin' hoj ei' hsame ed'
          rw [hsame] at hqd ⊢
          rcases eval_put_same (a := a) (d := d) (v := v) with e | e
          · rw [e] at hqd ⊢
            rcases hd d hsame with ⟨_, h⟩ | h | h
            · exact h
            · have hsp := hq d _ hqd
              simp [isSp, hsame, hsp] at h
            · subst h; exact absurd hqd (hu d)
          · rw [e] at hqd; exact absurd hqd (hu d)
        · have hne : ∀ e, oj.dst = some e → (Operand.tmp d) ≠ .tmp e := fun e he' hx => by
            injection hx with hx
            subst hx
            exact hsame he'
          rw [Act.eval_put (fun e he' => hne e he')] at hqd ⊢
          exact hR d _ _ _ hqd (hK i o d hi hl' hd' hqd) he
    · rw [hL', List.filterMap_append]
      exact hfl

/-- ONE WALK, behind the operations pre that were taken first. -/
theorem flow_from {Q : Exit → Act → World → Prop} {a : Act} {w0 w : World} {l : List Oper} (n : Nat) (pre : List Nat) (sp : List Tmp) (q : Tmp → Value → Prop) (R : Tmp → Value → World → Prop) (hB : flowB2 .any l.toArray n sp pre = true)
    (hsp : (sp.all fun t => pre.all fun i => match l.toArray[i]? with | some o => !(o.dst == some t) | none => true) = true)
    (hq : ∀ t v, q t v → t ∈ sp) (hu : ∀ t, ¬ q t undef) (hR : ∀ t v w w', q t v → R t v w → Ext w w' → R t v w') (f : Nat) (hf : f = n + (tailIdx n pre l.toArray.size).length) (hw : Ext w0 w) (ls : Array Bool) (hls : ls = preL pre l.toArray.size)
    (h : Flow P l.toArray w0 sp q R (fun a' => ∀ w', Ext w0 w' → (∀ t, t ∈ sp → q t (a'.eval (.tmp t)) → R t (a'.eval (.tmp t)) w') → wpList P l.toArray Q ((tailIdx n pre l.toArray.size).filterMap (l.toArray[·]?)) a' w') (l.take n) a) : wpAny P .any l.toArray Q f ls a w := by
  subst hls
  have ok := flowB2_ok hB
  have hlt : n < l.length := by simpa using ok.lt
  have getp : ∀ j, j < l.toArray.size → (preL pre l.toArray.size).getD j false = pre.contains j := fun j hj => by
    have hj' : j < l.length := by simpa using hj
    simp [preL, hj']
  have getp' : ∀ j, j < l.toArray.size → (preL pre l.toArray.size).getD j true = pre.contains j := fun j hj => by
    have hj' : j < l.length := by simpa using hj
    simp [preL, hj']
  have inv0 : HeadInv2 .any l.toArray n pre (preL pre l.toArray.size) := by
    refine ⟨by simp [preL], fun j oj hj hl e he hb => ?_, fun t _ ht hp => ?_, fun t ht => ?_⟩
    · have hjs : j < l.toArray.size := (Array.getElem?_eq_some_iff.1 hj).1
      rw [getp j hjs] at hl
      have hm := ok.clos j oj e (by simpa using hl) hj he hb
      rw [getp _ (ok.pres _ hm).2]
      simpa using hm
    · rw [getp' t ht]; simpa using hp
    · rw [getp t (ok.pres t ht).2]; simpa using ht
  have hidx : idxOf n (preL pre l.toArray.size) = List.range n := by
    unfold idxOf
    rw [List.filter_eq_self]
    intro i hi
    have hin := List.mem_range.1 hi
    have hi' : i < l.toArray.size := by have := ok.lt; omega
    rw [getp' i hi']
    have : i ∉ pre := fun h => by have := (ok.pres i h).1; omega
    simpa using this
  have := FlowD.any2 (P := P) (Q := Q) (w0 := w0) ok hq hu hR (Fin := fun a' => ∀ w', Ext w0 w' → (∀ t, t ∈ sp → q t (a'.eval (.tmp t)) → R t (a'.eval (.tmp t)) w') → wpList P l.toArray Q ((tailIdx n pre l.toArray.size).filterMap (l.toArray[·]?)) a' w') (fun lst a' w' hl inv hE hK hFin => by
    have hlst : lst = headL n pre l.toArray.size := by
      apply Array.ext
      · simp [inv.size, headL]
      · intro i h1 h2
        have hi : i < l.toArray.size := by rw [← inv.size]; exact h1
        by_cases hin : i < n
        · have := hl i hin
          simp [h1] at this
          simp [this, hin, headL]
        · by_cases hip : i ∈ pre
          · have := inv.pres i hip
            simp [h1] at this
            simp [this, headL, hip]
          · have := inv.tail i (by omega) hi hip
            simp [h1] at this
            simp [this, hin, headL, hip]
    have hfin := hFin w' hE (fun t ht hqt => by
      obtain ⟨i, o, hin, ei, ed⟩ := ok.spec t ht
      exact hK i o t ei (hl i hin) ed hqt)
    exact wpAny_of_seqL (md := .any) (Q := Q) (P := P) _ lst a' w' (fun k hk => by simp [tailIdx] at hk; simpa using hk.1) (by rw [hlst]; exact ok.seq) hfin) _ (preL pre l.toArray.size) a w rfl inv0 hw (fun i o d hi hl hd hqd => by
      exfalso
      have hjs : i < l.toArray.size := (Array.getElem?_eq_some_iff.1 hi).1
      rw [getp i hjs] at hl
      have h1 := List.all_eq_true.1 (List.all_eq_true.1 hsp d (hq d _ hqd)) i (by simpa using hl)
      rw [hi] at h1
      simp [hd] at h1) (by rw [hidx, range_filterMap l n (Nat.le_of_lt hlt)]; exact h.out)
  rw [hidx, List.length_range] at this
  rw [hf]
  exact this

/-- an operation that hangs on no world is taken first -/
theorem wp_region_take {id : Nat} {Q : Exit → Act → World → Prop} {a : Act} {w : World} {l : List Oper} (i : Nat) (oi : Oper) (v : Value) (hm : P.follows .mixedOrders = true) (hi : l.toArray[i]? = some oi) (hs : Region.noSelect l.toArray = true)
    (hf : Region.free .any l.toArray (Array.replicate l.toArray.size false) i = true) (hr : (Region.ready .any l.toArray (Array.replicate l.toArray.size false)).contains i = true)
    (hQ : ∀ c a w, Q (.panic c) (a.put oi.dst v) w → Q (.panic c) a w) (hy : Yields P l.toArray oi v a)
    (h : wpAny P .any l.toArray Q (l.toArray.size - 1) ((Array.replicate l.toArray.size false).setIfInBounds i true) (a.put oi.dst v) w.drew) : (Code.region id l.toArray true).wp P Q a w := by
  refine wp_region_any hm ?_
  have hsz : i < l.toArray.size := (Array.getElem?_eq_some_iff.1 hi).1
  have e : l.toArray.size - 1 + 1 = l.toArray.size := by omega
  have := wpAny_take (fuel := l.toArray.size - 1) (w := w.drew) hi hs hf hr hQ hy h
  rw [e] at this
  exact this

/-! ### its steps -/
def noEnter : Op → Bool
  | .move _ | .nilCheck _ | .assign _ | .pick .. | .load .. | .binOp .. | .unOp .. | .convert .. | .slice .. | .fieldAddr .. | .field .. | .indexAddr .. | .index .. | .extract .. | .lookup .. | .build .. | .makeInterface .. => true
  | .call c => match c.callee with | .builtin .append | .builtin .cap | .builtin .copy | .builtin .len | .builtin .max | .builtin .min => true | _ => false
  | _ => false

theorem run_v_ne (s : Sem Value) (w w' : World) (f : FuncId) (args : Array Value) : ((do pure (.value (← s)) : Sem Next)).run P w ≠ .ok (.enter f args) w' := by
  simp only [Sem.run_bind]
  cases s.run P w with
  | ok v w1 => simp
  | halt x w1 => simp

theorem and_v_ne (r : Result Value) (w' : World) (f : FuncId) (args : Array Value) : (r.andThen fun v w => Result.ok (Next.value v) w) ≠ .ok (.enter f args) w' := by
  cases r <;> simp [Result.andThen]

theorem run_noEnter {o : Oper} (h : noEnter o.op = true) (ρ : Operand → Value) (w w' : World) (f : FuncId) (args : Array Value) : (execOp ρ o).run P w ≠ .ok (.enter f args) w' := by
  obtain ⟨dst, op, type, pos, after, guard⟩ := o
  cases op <;> simp only [noEnter] at h <;> try (exact absurd h Bool.false_ne_true)
  case move x => simp [execOp]
  case nilCheck x =>
    simp only [execOp]
    split
    · simp [runtimePanic, Sem.run]
    · simp [runtimePanic, Sem.run]
    · simp [runtimePanic, Sem.run]
    · split
      · simp [runtimePanic, Sem.run]
      · simp only [Sem.run_bind]
        cases Sem.run P program w with
        | halt x w1 => simp [Result.andThen]
        | ok p w1 =>
          simp only [Result.andThen_ok]
          generalize nilAhead _ _ _ _ = s
          cases Sem.run P s w1 with
          | halt x w2 => simp [Result.andThen]
          | ok b w2 =>
            simp only [Result.andThen_ok]
            split
            · simp only [Sem.run_bind]
              simp [unsupported, Sem.run]
            · simp
      · simp
    · simp
  case assign x => simp [execOp]
  case pick c a b =>
    simp only [execOp, Sem.run_bind]
    cases (asBool (ρ c)).run P w with
    | ok v w1 => simp
    | halt x w1 => simp
  case call c =>
    obtain ⟨callee, args', types⟩ := c
    cases callee <;> simp only at h <;> try (exact absurd h Bool.false_ne_true)
    case builtin b =>
      cases b <;> simp only at h <;> try (exact absurd h Bool.false_ne_true)
      all_goals
        simp only [execOp, resolve, invoke, builtin, Sem.run_bind, Sem.run_pure, Result.andThen_ok]
        exact and_v_ne _ _ _ _
  all_goals exact run_v_ne _ _ _ _ _

theorem Flow.plain {Fin : Act → Prop} {o : Oper} {rest : List Oper} {a : Act} (hne : noEnter o.op = true) (hns : isSp sp o = false)
    (h : wpQuiet P ops (fun w' => ∃ g, w' = w0.ext g) (fun a' => Flow P ops w0 sp q R Fin rest a') [o] a) : Flow P ops w0 sp q R Fin (o :: rest) a := by
  unfold wpQuiet at h
  refine ⟨?_⟩
  unfold FlowD
  split
  · rename_i hw
    rw [if_pos hw] at h
    rw [if_neg (by rw [hns]; exact Bool.false_ne_true)]
    obtain ⟨v, h1, h2⟩ := h
    refine ⟨v, fun w he _ => ?_, Flow.out h2⟩
    have h3 := h1 w he
    unfold Oper.quietAt at h3
    have h4 := run_noEnter (P := P) hne a.eval w
    generalize (execOp a.eval o).run P w = r at *
    cases r with
    | ok n w' =>
      cases n <;> simp only [Oper.quietUpon] at h3 <;> simp only [plainUpon]
      case value u => exact h3
      case skip => exact h3
      case enter f args => exact absurd rfl (h4 w' f args)
    | halt x w' => simp only [Oper.quietUpon] at h3
  · rename_i hw
    rw [if_neg hw] at h
    exact Flow.out h

/-- an operation that reads what was made -/
theorem Flow.use {Fin : Act → Prop} {o : Oper} {rest : List Oper} {a : Act} (v : Value) (hw : Region.wanted o (yielded ops a.tmps) = true) (hns : isSp sp o = false)
    (hrun : ∀ w, Ext w0 w → Facts ops q R o a w → (execOp a.eval o).run P w = .ok (.value v) w) (h : Flow P ops w0 sp q R Fin rest (a.put o.dst v)) : Flow P ops w0 sp q R Fin (o :: rest) a := by
  refine ⟨?_⟩
  unfold FlowD
  rw [if_pos hw, if_neg (by rw [hns]; exact Bool.false_ne_true)]
  exact ⟨v, fun w he hf => by rw [hrun w he hf]; exact ⟨rfl, rfl⟩, h.out⟩

theorem Flow.skip {Fin : Act → Prop} {o : Oper} {rest : List Oper} {a : Act} (hw : Region.wanted o (yielded ops a.tmps) = false) (h : Flow P ops w0 sp q R Fin rest (a.put o.dst undef)) : Flow P ops w0 sp q R Fin (o :: rest) a := by
  refine ⟨?_⟩
  unfold FlowD
  rw [if_neg (by rw [hw]; exact Bool.false_ne_true)]
  exact h.out

/-- a call -/
theorem Flow.call {Fin : Act → Prop} {rest : List Oper} {a : Act} {d : Tmp} {f : FuncId} {xs : List Operand} {ats : Array TypeId} {ty : TypeId} {pos : String} {after : Array Edge} {guard : Option (Nat × Bool)}
    (hcall : ∀ args w, (callFunc f args).run P w = .ok (.enter f args) w) (vs : List Value) (hvs : xs.map a.eval = vs) (hw : Region.wanted ⟨some d, .call { callee := .value (.func f), args := xs.toArray, argTypes := ats }, ty, pos, after, guard⟩ (yielded ops a.tmps) = true) (hs : sp.contains d = true)
    (hq : ∃ v, q d v)
    (hc : ∀ w, Ext w0 w → Facts ops q R ⟨some d, .call { callee := .value (.func f), args := xs.toArray, argTypes := ats }, ty, pos, after, guard⟩ a w → Calls P f vs.toArray w (fun e w' => ∃ v, e = .returned v ∧ Ext w w' ∧ q d v ∧ R d v w'))
    (h : ∀ v, q d v → Flow P ops w0 sp q R Fin rest (a.put (some d) v)) : Flow P ops w0 sp q R Fin (⟨some d, .call { callee := .value (.func f), args := xs.toArray, argTypes := ats }, ty, pos, after, guard⟩ :: rest) a := by
  have hs' : isSp sp (⟨some d, .call { callee := .value (.func f), args := xs.toArray, argTypes := ats }, ty, pos, after, guard⟩ : Oper) = true := hs
  refine ⟨?_⟩
  unfold FlowD
  rw [if_pos hw, if_pos hs']
  refine ⟨d, rfl, ⟨hq, fun w he hf => ?_⟩, fun v hv => (h v hv).out⟩
  rw [execOp_call_go, hcall, show (#[] ++ xs.toArray.map a.eval ++ #[] : Array Value) = vs.toArray by rw [← hvs]; simp]
  exact hc w he hf

/-- an operation that makes memory -/
theorem Flow.make {Fin : Act → Prop} {o : Oper} {rest : List Oper} {a : Act} (d : Tmp) (hd : o.dst = some d) (hw : Region.wanted o (yielded ops a.tmps) = true) (hs : isSp sp o = true) (hq : ∃ v, q d v)
    (hc : ∀ w, Ext w0 w → Facts ops q R o a w → ∃ v w', (execOp a.eval o).run P w = .ok (.value v) w' ∧ Ext w w' ∧ q d v ∧ R d v w')
    (h : ∀ v, q d v → Flow P ops w0 sp q R Fin rest (a.put (some d) v)) : Flow P ops w0 sp q R Fin (o :: rest) a := by
  refine ⟨?_⟩
  unfold FlowD
  rw [if_pos hw, if_pos hs]
  refine ⟨d, hd, ⟨hq, fun w he hf => ?_⟩, fun v hv => by rw [hd]; exact (h v hv).out⟩
  obtain ⟨v, w', e, h1⟩ := hc w he hf
  rw [e]; exact h1

theorem run_conv {o : Oper} {a : Act} {w : World} {v : Value} (s d : TypeId) (x : Operand) (ho : o.op = .convert s d x) (h : (convert s d (a.eval x)).run P w = .ok v w) : (execOp a.eval o).run P w = .ok (.value v) w := by
  unfold execOp
  simp [ho, h]

theorem run_append {o : Oper} {a : Act} {w w' : World} {v : Value} (s y : Operand) (ats : Array TypeId) (ho : o.op = .call { callee := .builtin .append, args := #[s, y], argTypes := ats }) (h : (Builtin.append_ ats o.type #[a.eval s, a.eval y]).run P w = .ok v w') : (execOp a.eval o).run P w = .ok (.value v) w' := by
  unfold execOp
  simp only [ho, resolve, invoke, builtin, Sem.run_bind, Sem.run_pure, Result.andThen_ok, List.map_toArray, List.map_cons, List.map_nil, h]

theorem Flow.nil {Fin : Act → Prop} {a : Act} (h : Fin a) : Flow P ops w0 sp q R Fin [] a := ⟨h⟩

theorem Facts.at {o : Oper} {a : Act} {w : World} (h : Facts ops q R o a w) (t : Tmp) (ht : (o.looksAt ops).contains t = true) (hq : q t (a.eval (.tmp t))) : R t (a.eval (.tmp t)) w :=
  h t (by simpa using ht) hq

end
end Go.Proofs.YtakebbphielbfaaDoor
