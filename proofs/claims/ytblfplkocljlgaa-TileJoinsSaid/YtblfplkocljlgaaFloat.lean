/- A region that draws its order and holds an extract that nothing is bound to follow (`x, _ = f()`): it is enough to walk the orders in which some others wait for it. Lemmas only. -/
import Derived.Test.YtblfplkocljlgaaExt
import Derived.Deep.RegionHeld3
set_option linter.unusedVariables false
set_option linter.unusedSimpArgs false
namespace Go.Proofs.Ytblfplkocljlgaa
open Go Go.RowKit
namespace Fl

/-- the same operation, but it waits for e too -/
def wait (e : Nat) (o : Oper) : Oper := { o with after := o.after.push { on := e, ground := .data } }
/-- the same operations, but those from s on wait for e too -/
def waits (s e : Nat) (l : List Oper) : List Oper := l.take s ++ (l.drop s).map (wait e)

def isExtract (o : Oper) : Bool := match o.op with | .extract _ _ => o.guard.isNone | _ => false

/-- e is an extract; those from s on wait for all that e waits for; all others that e does not wait for are apart from it -/
def okB (md : Region.Mode) (ops : Array Oper) (s e : Nat) : Bool :=
  Region.noSelect ops && decide (e < s) && (match ops[e]? with
  | none => false
  | some oe => isExtract oe && (List.range ops.size).all fun j => match ops[j]? with
    | none => true
    | some oj => (j == e || oe.after.any (fun x => Region.binds md x && x.on == j) || oe.apart ops oj) && (decide (j < s) || oe.after.all (fun x => !Region.binds md x || oj.after.any (fun y => Region.binds md y && y.on == x.on))))

variable {P : Program} {md : Region.Mode} {Q : Exit → Act → World → Prop}

theorem waits_get (s e : Nat) (l : List Oper) (i : Nat) : (waits s e l)[i]? = (l[i]?).map (fun o => if i < s then o else wait e o) := by
  unfold waits
  rw [List.getElem?_append]
  by_cases h : i < s
  · by_cases h2 : i < l.length
    · rw [if_pos (by rw [List.length_take]; omega), List.getElem?_take]
      simp [h]
    · rw [if_neg (by rw [List.length_take]; omega)]
      rw [List.getElem?_eq_none (by simp; omega), List.getElem?_eq_none (by omega)]; rfl
  · rw [if_neg (by rw [List.length_take]; omega)]
    by_cases h2 : s ≤ l.length
    · rw [List.length_take, Nat.min_eq_left h2, List.getElem?_map, List.getElem?_drop, show s + (i - s) = i by omega]
      simp [h]
    · rw [List.getElem?_eq_none (by simp; omega), List.getElem?_eq_none (by omega)]; rfl

theorem yielded_waits (s e : Nat) (l : List Oper) (tmps : Array Value) : yielded (waits s e l).toArray tmps = yielded l.toArray tmps := by
  funext j
  unfold yielded
  have : (((waits s e l).toArray[j]?).bind (·.dst)) = ((l.toArray[j]?).bind (·.dst)) := by
    rw [List.getElem?_toArray, List.getElem?_toArray, waits_get]
    cases l[j]? with
    | none => rfl
    | some o => simp only [Option.map_some, Option.bind_some]; split <;> rfl
  rw [this]

theorem wpOp_waits (s e : Nat) (l : List Oper) {i : Nat} {K : Act → World → Prop} {a : Act} {w : World} (h : wpOp P (waits s e l).toArray Q i K a w) : wpOp P l.toArray Q i K a w := by
  unfold wpOp at *
  rw [yielded_waits, List.getElem?_toArray, waits_get] at h
  rw [List.getElem?_toArray]
  cases ho : l[i]? with
  | none => simpa [ho] using h
  | some o =>
    simp only [ho, Option.map_some] at h ⊢
    by_cases hs : i < s
    · simpa [hs] using h
    · rw [if_neg hs] at h; exact h

theorem ready_waits (s e : Nat) (l : List Oper) (listed : Array Bool) (i : Nat) (hi : i ∈ Region.ready md (waits s e l).toArray listed) : i ∈ Region.ready md l.toArray listed := by
  rw [mem_ready] at *
  obtain ⟨h0, o, ho, hall⟩ := hi
  rw [List.getElem?_toArray, waits_get] at ho
  cases h1 : l[i]? with
  | none => rw [h1] at ho; cases ho
  | some o' =>
    rw [h1] at ho
    simp only [Option.map_some, Option.some.injEq] at ho
    refine ⟨h0, o', by rw [List.getElem?_toArray]; exact h1, fun x hx hb => hall x ?_ hb⟩
    rw [← ho]
    split
    · exact hx
    · exact Array.mem_push_of_mem _ hx

/-- no way out but the plain ones -/
def Only (Q : Exit → Act → World → Prop) : Exit → Act → World → Prop
  | .panic _, _, _ => False
  | .outgrown, _, _ => False
  | e, a, w => Q e a w
theorem Only.imp {Q : Exit → Act → World → Prop} : ∀ (e : Exit) (a : Act) (w : World), Only Q e a w → Q e a w := fun e a w h => by
  cases e <;> first | exact h | exact (h : False).elim
theorem Only.normal {Q : Exit → Act → World → Prop} {a : Act} {w : World} (h : Q .normal a w) : Only Q .normal a w := h
theorem Only.not_lets (Q : Exit → Act → World → Prop) : ¬ LetsOut (Only Q) := fun ⟨_, _, h⟩ => h

/-- an extract tells one value, whatever the world -/
theorem extract_yields {ops : Array Oper} {i : Nat} {o : Oper} {K : Act → World → Prop} {a : Act} {w : World} (hi : ops[i]? = some o) (h : isExtract o = true) (hw : wpOp P ops (Only Q) i K a w) : ∃ v, Yields P ops o v a ∧ K (a.put o.dst v) w := by
  unfold isExtract at h
  have hg : o.guard = none := by
    split at h
    · simpa using h
    · cases h
  have hwa : Region.wanted o (yielded ops a.tmps) = true := by simp [Region.wanted, hg]
  unfold wpOp at hw
  simp only [hi, hwa, if_true] at hw
  rcases hw with hw | ⟨_, hw⟩
  · unfold Oper.wp at hw
    split at h
    · rename_i x ix hop
      have hx : execOp a.eval o = (do let r ← Instr.extract (a.eval x) ix; pure (.value r)) := by
        unfold execOp; simp only [hop]
      rw [hx] at hw
      cases he : a.eval x with
      | tuple vs =>
        cases hv : vs[ix]? with
        | some v =>
          have hr : ∀ w, (execOp a.eval o).run P w = .ok (.value v) w := fun w => by
            rw [hx, he]; simp [Instr.extract, hv, go_sem]
          refine ⟨v, .inl ⟨hwa, hr⟩, ?_⟩
          rw [← hx, hr w] at hw
          exact hw
        | none =>
          rw [he] at hw
          simp [Instr.extract, hv, stuck, go_sem, Oper.upon] at hw
      | _ =>
        rw [he] at hw
        simp [Instr.extract, stuck, go_sem, Oper.upon] at hw
    · cases h
  · exact (Only.not_lets Q hw).elim

theorem free_of {ops : Array Oper} {s e : Nat} {oe : Oper} {listed : Array Bool} (hB : okB md ops s e = true) (he : ops[e]? = some oe) (hr : e ∈ Region.ready md ops listed) :
    ∀ j oj, ops[j]? = some oj → j ≠ e → listed.getD j true = false → (∀ x ∈ oj.after, Region.binds md x = true → x.on ≠ e) → oe.apart ops oj = true := by
  intro j oj hj hne hun _
  unfold okB at hB
  simp only [he, Bool.and_eq_true, List.all_eq_true, List.mem_range] at hB
  have h1 := hB.2.2 j (Array.getElem?_eq_some_iff.1 hj).1
  simp only [hj, Bool.and_eq_true, Bool.or_eq_true, beq_iff_eq, hne, false_or] at h1
  rcases h1.1 with h2 | h2
  · obtain ⟨x, hx, hb⟩ := Array.any_eq_true'.1 h2
    simp only [Bool.and_eq_true, beq_iff_eq] at hb
    obtain ⟨_, o', ho', hall⟩ := mem_ready.1 hr
    rw [he] at ho'
    obtain rfl := Option.some.inj ho'
    have := hall x hx hb.1
    rw [hb.2] at this
    rcases Nat.lt_or_ge j listed.size with h' | h'
    · simp [h'] at this hun; rw [hun] at this; cases this
    · simp [Array.getElem?_eq_none h'] at this
  · exact h2

/-- while e is not ready, the same ones are -/
theorem ready_same {s e : Nat} {l : List Oper} {oe : Oper} {listed : Array Bool} (hz : listed.size = l.length) (hB : okB md l.toArray s e = true) (he : l[e]? = some oe) (hn : e ∉ Region.ready md (waits s e l).toArray listed) {i : Nat} (hi : i ∈ Region.ready md l.toArray listed) :
    i ∈ Region.ready md (waits s e l).toArray listed := by
  have he' : l.toArray[e]? = some oe := by rw [List.getElem?_toArray]; exact he
  unfold okB at hB
  simp only [he', Bool.and_eq_true, List.all_eq_true, List.mem_range, decide_eq_true_eq] at hB
  obtain ⟨⟨hsel, hes⟩, hex, hall⟩ := hB
  obtain ⟨h0, o, ho, hb⟩ := mem_ready.1 hi
  have hil : i < l.toArray.size := (Array.getElem?_eq_some_iff.1 ho).1
  have hl := hall i hil
  simp only [ho, Bool.and_eq_true, Bool.or_eq_true, decide_eq_true_eq] at hl
  have ho' : l[i]? = some o := by rw [List.getElem?_toArray] at ho; exact ho
  refine mem_ready.2 ⟨h0, _, by rw [List.getElem?_toArray, waits_get, ho']; rfl, fun x hx hxb => ?_⟩
  dsimp only at hx
  by_cases his : i < s
  · rw [if_pos his] at hx
    exact hb x hx hxb
  · rw [if_neg his] at hx
    rcases Array.mem_push.1 hx with hx | rfl
    · exact hb x hx hxb
    · -- e itself: it is listed, or one that it waits for is not
      dsimp only
      cases hle : listed.getD e false with
      | true => rfl
      | false =>
        exfalso
        apply hn
        rcases hl.2 with h2 | h2
        · exact absurd h2 his
        have hsz : listed.getD e true = false := by
          have h' : e < listed.size := by rw [hz]; exact (List.getElem?_eq_some_iff.1 he).1
          simp [h'] at hle ⊢; exact hle
        refine mem_ready.2 ⟨hsz, oe, by rw [List.getElem?_toArray, waits_get, he]; simp [hes], fun y hy hyb => ?_⟩
        have h3 := Array.all_eq_true_iff_forall_mem.1 h2 y hy
        simp only [hyb, Bool.not_true, Bool.false_or] at h3
        obtain ⟨z, hz, hzz⟩ := Array.any_eq_true'.1 h3
        simp only [Bool.and_eq_true, beq_iff_eq] at hzz
        rw [← hzz.2]
        exact hb z hz hzz.1

theorem wpAny_waits {s e : Nat} {l : List Oper} {oe : Oper} (hB : okB md l.toArray s e = true) (he : l[e]? = some oe) : ∀ (f : Nat) (listed : Array Bool) (a : Act) (w : World),
    listed.size = l.length → wpAny P md (waits s e l).toArray (Only Q) f listed a w → wpAny P md l.toArray (Only Q) f listed a w := by
  have he' : l.toArray[e]? = some oe := by rw [List.getElem?_toArray]; exact he
  have hB' := hB
  unfold okB at hB'
  simp only [he', Bool.and_eq_true, decide_eq_true_eq] at hB'
  obtain ⟨⟨hsel, hes⟩, hex, _⟩ := hB'
  intro f
  induction f with
  | zero =>
    intro listed a w hsz H
    refine ⟨?_, H.2⟩
    by_cases hn : e ∈ Region.ready md (waits s e l).toArray listed
    · rw [H.1] at hn; cases hn
    · apply List.eq_nil_iff_forall_not_mem.2
      intro i hi
      have := ready_same hsz hB he hn hi
      rw [H.1] at this; cases this
  | succ f ih =>
    intro listed a w hsz H
    by_cases hn : e ∈ Region.ready md (waits s e l).toArray listed
    · have h1 := wpOp_waits s e l (H.2 e hn)
      obtain ⟨v, hy, hk⟩ := extract_yields he' hex h1
      have hr := ready_waits s e l listed e hn
      exact wpAny_first he' (Region.noSelect_spec hsel) (fun c a w h => h) f listed a w (free_of hB he' hr) hr hy (ih _ _ _ (by simpa using hsz) hk)
    · refine ⟨fun h0 => H.1 ?_, fun i hi => ?_⟩
      · apply List.eq_nil_iff_forall_not_mem.2
        intro i hi
        have := ready_waits s e l listed i hi
        rw [h0] at this; cases this
      · exact wpOp_mono (fun a w h => ih _ _ _ (by simpa using hsz) h) (wpOp_waits s e l (H.2 i (ready_same hsz hB he hn hi)))

theorem tail_any {Q : Exit → Act → World → Prop} {a : Act} {w : World} {l : List Oper} (n : Nat) (hB : tailB .any l.toArray n = true)
    (h : wpQuiet P l.toArray (fun w' => ∃ g, w' = w.ext g) (fun a' => ∀ w', Ext w w' → wpList P l.toArray Q (l.drop n) a' w') (l.take n) a) : wpAny P .any l.toArray Q l.toArray.size (Array.replicate l.toArray.size false) a { w with drawn := w.drawn + 1 } := by
  simp only [tailB, Bool.and_eq_true, decide_eq_true_eq] at hB
  obtain ⟨⟨⟨⟨hsel, hn⟩, hs⟩, hc⟩, hlex⟩ := hB
  have hn' : n < l.length := by simpa using hn
  have htl : (l.take n).length = n := by simp; omega
  have hdl : (l.drop n).length = l.toArray.size - n := by simp
  have inv0 : HeadInv .any l.toArray n (Array.replicate l.toArray.size false) :=
    ⟨by simp, fun j oj _ hl => (by rw [getD_replicate_false] at hl; cases hl), fun t _ ht => getD_in (by simpa using ht) (getD_replicate_false _ _)⟩
  have H := HeadQ.lex (md := .any) (g := l.toArray.size - n) hsel hs hc hn (l.take n) 0 _ a (by omega) (fun j hj => by
    have hj' : j < n := by rw [htl] at hj; exact hj
    simp [hj']) inv0 (by rw [htl]; exact hlex) h
  have := HeadQ.any (Q := Q) (g := l.toArray.size - n) (fun d a' w' hw' hL => by
    have := wpAny_of_seq (md := .any) (Q' := Q) (l.drop n) n d a' w' (fun j => by simp [List.getElem?_drop]) (by rw [hdl]; exact hL.1) (hL.2 w' hw')
    rwa [hdl] at this) _ _ _ _ (Ext.drew w) H
  rw [htl, show n + (l.toArray.size - n) = l.toArray.size by omega] at this
  exact this

theorem waits_take (s e : Nat) (l : List Oper) (h : s ≤ l.length) : (waits s e l).take s = l.take s := by
  unfold waits
  rw [List.take_append_of_le_length (by simp; omega), List.take_take, Nat.min_self]
theorem waits_drop (s e : Nat) (l : List Oper) (h : s ≤ l.length) : (waits s e l).drop s = (l.drop s).map (wait e) := by
  unfold waits
  rw [List.drop_append_of_le_length (by simp; omega), List.drop_eq_nil_of_le (by simp; omega)]
  rfl

theorem wpQuiet_ops {ops ops' : Array Oper} {C : World → Prop} {T T' : Act → Prop} (h : ∀ t, yielded ops t = yielded ops' t) (hT : ∀ a, T a → T' a) : ∀ (l : List Oper) (a : Act), wpQuiet P ops C T l a → wpQuiet P ops' C T' l a
  | [], a, H => hT a H
  | o :: rest, a, H => by
    unfold wpQuiet at *
    rw [h] at H
    split
    · rename_i hw
      rw [if_pos hw] at H
      exact Oper.quiet_mono (fun a => wpQuiet_ops h hT rest a) H
    · rename_i hw
      rw [if_neg hw] at H
      exact wpQuiet_ops h hT rest _ H
theorem wpList_ops {ops ops' : Array Oper} {T : Exit → Act → World → Prop} (h : ∀ t, yielded ops t = yielded ops' t) : ∀ (l : List Oper) (a : Act) (w : World), wpList P ops T l a w → wpList P ops' T l a w
  | [], a, w, H => H
  | o :: rest, a, w, H => by
    unfold wpList at *
    rw [h] at H
    split
    · rename_i hw
      rw [if_pos hw] at H
      exact H.imp (Oper.wp_mono (fun a w => wpList_ops h rest a w)) id
    · rename_i hw
      rw [if_neg hw] at H
      exact wpList_ops h rest _ _ H

/-- A region with an extract that nothing follows: ONE WALK, the first n operations quiet in the class of w's extensions, the others in their order. -/
theorem region_float {id : Nat} {a : Act} {w : World} {l : List Oper} (s e : Nat) (hm : P.follows .mixedOrders = true) (hB : okB .any l.toArray s e = true) (hT : tailB .any (waits s e l).toArray s = true)
    (h : wpQuiet P l.toArray (fun w' => ∃ g, w' = w.ext g) (fun a' => ∀ w', Ext w w' → wpList P l.toArray (Only Q) ((l.drop s).map (wait e)) a' w') (l.take s) a) : (Code.region id l.toArray true).wp P Q a w := by
  refine Code.wp_mono Only.imp ?_
  obtain ⟨oe, he⟩ : ∃ oe, l[e]? = some oe := by
    unfold okB at hB
    cases ho : l[e]? with
    | some oe => exact ⟨oe, rfl⟩
    | none => simp [List.getElem?_toArray, ho] at hB
  have hlen : (waits s e l).length = l.length := by unfold waits; simp; omega
  refine wp_region_any hm (wpAny_waits hB he _ _ _ _ (by simp) ?_)
  have hsz : l.toArray.size = (waits s e l).toArray.size := by simp [hlen]
  rw [hsz]
  have hsl : s ≤ l.length := by
    unfold tailB at hT
    simp only [Bool.and_eq_true, decide_eq_true_eq] at hT
    have := hT.1.1.1.2
    simp [hlen] at this
    omega
  rw [← waits_take s e l hsl, ← waits_drop s e l hsl] at h
  exact tail_any s hT (wpQuiet_ops (fun t => (yielded_waits s e l t).symm) (fun a' h w' hE => wpList_ops (fun t => (yielded_waits s e l t).symm) _ _ _ (h w' hE)) _ _ h)

end Fl
end Go.Proofs.Ytblfplkocljlgaa
