import Derived.Test.YtbpdjekibcbaaaaSStB
import Derived.Laws.CopyRow
namespace Go.Proofs.Ytbpdjekibcbaaaa
open Go.RowKit
set_option linter.unusedVariables false
set_option linter.unusedSimpArgs false

theorem wpList_copyR {P : Program} {w : World} {ops : Array Oper} {rest : List Oper} {o : Oper} {a : Act} {Q : Exit → Act → World → Prop} (hgd : o.guard = none) (d s : Operand) (t t' : TypeId)
    (ho : o.op = .call { callee := .builtin .copy, args := #[d, s], argTypes := #[t, t'] }) (v u : Value) (hd : a.eval d = v) (hs : a.eval s = u) {v' : Value} {w' : World}
    (hr : (Builtin.copy_ #[t, t'] o.type #[v, u]).run P w = .ok v' w') (h : wpList P ops Q rest (a.put o.dst v') w') : wpList P ops Q (o :: rest) a w := by
  refine wpList_plain hgd fun _ hK => ?_
  unfold Oper.wp execOp
  simp only [ho, resolve, invoke, builtin, Sem.run_bind, Sem.run_pure, Result.andThen_ok, List.map_toArray, List.map_cons, List.map_nil, hd, hs, hr]
  exact hK _ _ h
theorem infoU1 : (Try.prog.info? 5).map (·.size) = some 1 := by kernel_rfl
theorem Keep.setRow {w : World} {g : Nat} {cs : Array Value} : Keep w (w.setRow g cs) (fun k => k = g) :=
  ⟨rfl, rfl, rfl, by simp [World.setRow], fun k hk hn => by
    simp only [World.setRow]
    rw [Array.getElem?_modify]
    rw [if_neg (fun h => hn h.symm)]⟩

/-- the bytes of one sector: what there is, and zeros -/
def padL (sz : Nat) (l : List Nat) : List Nat := l.take sz ++ List.replicate (sz - l.length) 0
def chunk (sz : Nat) (b : List Nat) (i : Nat) : List Nat := padL sz (b.drop (i * sz))
theorem padL_len (sz : Nat) (l : List Nat) : (padL sz l).length = sz := by unfold padL; simp; omega

/-- bytes are copied to the head of zeros -/
theorem copy_own (base w0 : Nat) (w : World) (g sz L c : Nat) (a : Addr) (l : List Nat) (hz : sz ≤ 512) (hO : w.heap[g]? = some (.cells (madeCells #[.int .u8 0] sz) 5 (0, 0))) (hg : base ≤ g) (hB : Bytes w (.slice (some a) L c) l) (hp : 0 < L) :
    ∃ k w', (∀ ty, (Builtin.copy_ #[24, 24] ty #[.slice (some ⟨g, 0, none⟩) sz sz, .slice (some a) L c]).run Try.prog w = .ok (goInt k) w') ∧ Own base w' (some ⟨g, 0, none⟩) sz sz (padL sz l) ∧ Keep w w' (fun b => b = g) := by
  obtain ⟨A', cap, e, h2, h3, h4, h5, h6⟩ := hB
  simp only [Value.slice.injEq] at e
  obtain ⟨rfl, rfl, rfl⟩ := e
  obtain ⟨b, off, e, hbl, hc⟩ := h6 hp
  simp only [Option.some.injEq] at e
  subst e
  have hlt : ∀ i, (padL sz l).getD i 0 < 256 := by
    apply getD_append_lt (lt_take h5 sz)
    intro i
    rw [List.getD_eq_getElem?_getD, List.getElem?_replicate]
    split <;> decide
  have hcs : ((l.take sz).map byteV).length = min l.length sz := by
    rw [List.length_map, List.length_take]; exact Nat.min_comm _ _
  have hms : (madeCells #[Value.int .u8 0] sz).size = sz := by
    have := congrArg List.length (zeros_list sz)
    simpa using this
  refine ⟨_, _, fun ty => run_copy_row (P := Try.prog) w 24 24 ty 5 g 0 sz sz ⟨b, off, none⟩ l.length c _ _ ((l.take sz).map byteV) Try.underlying24 infoU1 hO hcs ?_ (by rw [hms, hcs]; omega) ?_, ?_, Keep.setRow⟩
  · intro j v hj
    have hjl := (List.getElem?_eq_some_iff.1 hj).1
    have hj1 : j < l.length := by simp at hjl; omega
    have hj2 : j < sz := by simp at hjl; omega
    rw [show (⟨b, off, none⟩ : Addr).add j = ⟨b, off + j, none⟩ by unfold Addr.add; split <;> simp_all, hc j hj1, ← hj]
    rw [List.getElem?_map, List.getElem?_take, if_pos hj2, List.getD_eq_getElem?_getD, List.getElem?_eq_getElem hj1]
    rfl
  · intro v hv
    simp only [List.mem_map] at hv
    obtain ⟨x, _, rfl⟩ := hv
    rfl
  · refine ⟨(padL_len _ _).symm, ⟨by simp [padL_len], .inr ⟨g, sz, _, rfl, hg, setRow_heap _ _ _ _ _ _ hO, Nat.le_refl _, by unfold maxLen; omega, ?_, ?_⟩⟩, hlt⟩
    · rw [zeros_list]
      simp
      omega
    · rw [zeros_list, List.take_zero, List.nil_append, Nat.zero_add, hcs]
      unfold padL
      rw [List.map_append, Nat.mul_one]
      rw [List.take_of_length_le (by simp; omega)]
      rw [← List.map_drop, List.drop_replicate, show sz - min l.length sz = sz - l.length by omega]

end Go.Proofs.Ytbpdjekibcbaaaa
