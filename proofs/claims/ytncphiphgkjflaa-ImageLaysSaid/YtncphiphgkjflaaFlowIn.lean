import Derived.Test.YtncphiphgkjflaaFlow
import Derived.OrdersIn
import Derived.OwnWalkIn
set_option linter.unusedVariables false
set_option linter.unusedSimpArgs false
namespace Go.Proofs.Ytncphiphgkjflaa
open Go Go.RowKit

/-- an operation that calls no Go function, and leaves nothing to do later -/
def calm : Op → Bool
  | .move _ | .assign _ | .pick .. | .load .. | .store .. | .binOp .. | .unOp .. | .convert .. | .slice .. | .fieldAddr .. | .field .. | .indexAddr .. | .index .. | .extract .. | .lookup .. | .build .. | .buildSlice .. | .makeInterface .. | .alloc .. | .box .. | .makeSlice .. => true
  | .call c => match c.callee with | .builtin .append | .builtin .cap | .builtin .copy | .builtin .len | .builtin .max | .builtin .min => true | _ => false
  | _ => false

theorem and_v {P : Program} (r : Result Value) {n : Next} {w' : World} (h : (r.andThen fun v w => Result.ok (Next.value v) w) = .ok n w') : (∃ v, n = .value v) ∨ n = .skip := by
  cases r with
  | ok v w => simp [Result.andThen] at h; exact .inl ⟨v, h.1.symm⟩
  | halt x w => simp [Result.andThen] at h
theorem run_v_calm {P : Program} (s : Sem Value) {w w' : World} {n : Next} (h : ((do pure (.value (← s)) : Sem Next)).run P w = .ok n w') : (∃ v, n = .value v) ∨ n = .skip := by
  simp only [Sem.run_bind] at h
  cases hs : s.run P w with
  | ok v w1 => rw [hs] at h; simp at h; exact .inl ⟨v, h.1.symm⟩
  | halt x w1 => rw [hs] at h; simp at h
theorem run_u_calm {P : Program} (s : Sem Unit) {w w' : World} {n : Next} (h : ((do s; pure .skip : Sem Next)).run P w = .ok n w') : (∃ v, n = .value v) ∨ n = .skip := by
  simp only [Sem.run_bind] at h
  cases hs : s.run P w with
  | ok v w1 => rw [hs] at h; simp at h; exact .inr h.1.symm
  | halt x w1 => rw [hs] at h; simp at h

theorem run_calm {P : Program} {o : Oper} (hc : calm o.op = true) (ρ : Operand → Value) {w w' : World} {n : Next} (h : (execOp ρ o).run P w = .ok n w') : (∃ v, n = .value v) ∨ n = .skip := by
  obtain ⟨dst, op, type, pos, after, guard⟩ := o
  cases op <;> simp only [calm] at hc <;> try (exact absurd hc Bool.false_ne_true)
  case move x => simp [execOp] at h; exact .inl ⟨_, h.1.symm⟩
  case assign x => simp [execOp] at h; exact .inl ⟨_, h.1.symm⟩
  case pick c a b =>
    simp only [execOp, Sem.run_bind] at h
    cases hs : (asBool (ρ c)).run P w with
    | ok v w1 => rw [hs] at h; simp at h; exact .inl ⟨_, h.1.symm⟩
    | halt x w1 => rw [hs] at h; simp at h
  case call c =>
    obtain ⟨callee, args', types⟩ := c
    cases callee <;> simp only at hc <;> try (exact absurd hc Bool.false_ne_true)
    case builtin b =>
      cases b <;> simp only at hc <;> try (exact absurd hc Bool.false_ne_true)
      all_goals
        simp only [execOp, resolve, invoke, builtin, Sem.run_bind, Sem.run_pure, Result.andThen_ok] at h
        exact and_v (P := P) _ h
  case store t a x => exact run_u_calm _ h
  all_goals exact run_v_calm _ h

theorem about_calm {P : Program} {o : Oper} (hc : calm o.op = true) (w : World) (ρ : Operand → Value) : o.about P w ρ = none := by
  obtain ⟨dst, op, type, pos, after, guard⟩ := o
  cases op <;> simp only [calm] at hc <;> try (exact absurd hc Bool.false_ne_true)
  all_goals try rfl
  case call c =>
    obtain ⟨callee, args', types⟩ := c
    cases callee <;> simp only at hc <;> try (exact absurd hc Bool.false_ne_true)
    case builtin b => simp [Oper.about, resolve, Target.leads, Sem.run_pure]

theorem wpIn_calm {F : Fence} {n : Nat} {P : Program} {o : Oper} {a : Act} {w : World} {K : Act → World → Prop} {Q : Exit → Act → World → Prop} (hc : calm o.op = true) (h : o.wp P a w K Q) : o.wpIn F n P a w K Q := by
  refine ⟨fun f hf => (by rw [about_calm hc] at hf; cases hf), ?_⟩
  rw [Oper.semAt_plain F _ _ (fun c e => by rw [e] at hc; cases hc)]
  unfold Oper.wp at h
  have hr := fun n w' => run_calm (P := P) hc a.eval (w := w) (n := n) (w' := w')
  generalize (execOp a.eval o).run P w = r at *
  cases r with
  | ok nx w' =>
    rcases hr nx w' rfl with ⟨v, rfl⟩ | rfl
    · exact h
    · exact h
  | halt x w' => cases x <;> exact h

theorem wpAny_in {F : Fence} {n : Nat} {P : Program} {md : Region.Mode} {ops : Array Oper} {Q : Exit → Act → World → Prop} (hops : ∀ (i : Nat) o, ops[i]? = some o → calm o.op = true) (hL : ¬ LetsOut Q) (fuel : Nat) :
    ∀ (l : Array Bool) (a : Act) (w : World), wpAny P md ops Q fuel l a w → wpAnyIn F n P md ops Q fuel l a w := by
  induction fuel with
  | zero => exact fun _ _ _ h => h
  | succ fuel ih =>
    intro l a w h
    refine ⟨h.1, fun i hi => ?_⟩
    have h1 := h.2 i hi
    unfold wpOp at h1
    unfold wpOpIn
    cases ho : ops[i]? with
    | none => rw [ho] at h1; exact ih _ _ _ h1
    | some o =>
      rw [ho] at h1
      simp only at h1 ⊢
      split
      · rename_i hw
        rw [if_pos hw] at h1
        rcases h1 with h1 | h1
        · exact wpIn_calm (hops i o ho) (Oper.wp_mono (fun a' w' k => ih _ a' w' k) h1)
        · exact absurd h1.2 hL
      · rename_i hw
        rw [if_neg hw] at h1
        exact ⟨fun f hf => (by rw [about_calm (hops i o ho)] at hf; cases hf), ih _ _ _ h1⟩

/-- a drawn region inside a fence, from its plain walk -/
theorem region_in {F : Fence} {n : Nat} {P : Program} {id : Nat} {l : List Oper} {Q : Exit → Act → World → Prop} {a : Act} {w : World} (hm : P.follows .mixedOrders = true) (hops : l.all (fun o => calm o.op) = true) (hL : ¬ LetsOut Q)
    (h : wpAny P .any l.toArray Q l.toArray.size (Array.replicate l.toArray.size false) a w.drew) : (Code.region id l.toArray true).wpIn F n P Q a w :=
  wpIn_region_any hm (wpAny_in (fun i o hi => List.all_eq_true.1 hops o (by
    have h : l[i]? = some o := by simpa using hi
    exact List.mem_of_getElem? h)) hL _ _ _ _ h)

end Go.Proofs.Ytncphiphgkjflaa
