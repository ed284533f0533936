
import Derived.Test.YtobnbdoehobigaaDoorSum
import Derived.Laws.AppendOwn
import Derived.Laws.OwnMore
namespace Go.Proofs.YtobnbdoehobigaaDoor
open Go.RowKit
set_option linter.unusedVariables false
set_option linter.unusedSimpArgs false

/-- a byte, as a value -/
def byteV (x : Nat) : Value := .int .u8 (x : Int)

/-- a slice of the call's own: its n bytes lie at the head of a block that is new -/
def Own (base : Nat) (w : World) (A : Option Addr) (n cap : Nat) (l : List Nat) : Prop :=
  n = l.length ∧ w.ownsRow base 5 1 (.slice A n cap) n (l.map byteV) ∧ ∀ i, l.getD i 0 < 256

theorem Own.bytes {base : Nat} {w : World} {A : Option Addr} {n cap : Nat} {l : List Nat} (h : Own base w A n cap l) : Bytes w (.slice A n cap) l := by
  obtain ⟨rfl, h, hb⟩ := h
  have hh := h
  rcases h.2 with ⟨h', h0⟩ | ⟨g, cap', cur, h', _, hg, hn, hm, hs, htake⟩
  · simp only [Value.slice.injEq] at h'
    obtain ⟨rfl, h1, rfl⟩ := h'
    exact ⟨none, 0, rfl, by omega, by omega, fun _ => rfl, hb, fun h => by omega⟩
  · simp only [Value.slice.injEq, true_and] at h'
    obtain ⟨rfl, rfl⟩ := h'
    refine ⟨_, cap, rfl, hn, hm, (fun h => by cases h), hb, fun _ => ⟨g, 0, rfl, (Array.getElem?_eq_some_iff.1 hg).1, fun i hi => ?_⟩⟩
    rw [Nat.zero_add, hh.cellAt i (by simpa using hi), List.getElem?_map, List.getD_eq_getElem?_getD, List.getElem?_eq_getElem hi]
    rfl

theorem own_of_row {base : Nat} {w : World} {v : Value} {n : Nat} {l : List Nat} (hn : n = l.length) (h : w.ownsRow base 5 1 v n (l.map byteV)) (hb : ∀ i, l.getD i 0 < 256) :
    ∃ A cap, v = .slice A n cap ∧ Own base w A n cap l := by
  rcases h.2 with ⟨rfl, h0⟩ | ⟨g, cap, cur, rfl, _⟩
  · subst h0; exact ⟨none, 0, rfl, hn, h, hb⟩
  · exact ⟨_, cap, rfl, hn, h, hb⟩

theorem info5 : (Tryd.prog.info? 5).map (fun i => (i.zero, i.size, i.bytes)) = some (some (.int .u8 0), 1, 1) := by kernel_rfl

theorem getD_append_lt {l m : List Nat} (hl : ∀ i, l.getD i 0 < 256) (hm : ∀ i, m.getD i 0 < 256) (i : Nat) : (l ++ m).getD i 0 < 256 := by
  rw [List.getD_eq_getElem?_getD, List.getElem?_append]
  split
  · have := hl i; rwa [List.getD_eq_getElem?_getD] at this
  · have := hm (i - l.length); rwa [List.getD_eq_getElem?_getD] at this

/-- bytes put behind bytes of the call's own -/
theorem run_app {base : Nat} {w : World} {A : Option Addr} {n cap : Nat} {l m : List Nat} {x : Value} (ty : TypeId) (hv : Own base w A n cap l) (hx : Bytes w x m) (hlen : l.length + m.length ≤ 70368744177664) (hbase : base ≤ w.heap.size) :
    ∃ A' n' cap' w', (Builtin.append_ #[22, 22] ty #[.slice A n cap, x]).run Tryd.prog w = .ok (.slice A' n' cap') w' ∧ Own base w' A' n' cap' (l ++ m) ∧ w.grownBy w' (Value.ownBlock (.slice A n cap)) := by
  obtain ⟨hn, hv, hb⟩ := hv
  obtain ⟨X, c, rfl, h2, h3, h4, h5, h6⟩ := hx
  obtain ⟨i0, hi, hz0, hz1, hz2⟩ := info_parts info5
  cases X with
  | none =>
    have hc := h4 rfl
    subst hc
    have hm : m = [] := List.eq_nil_of_length_eq_zero (by omega)
    subst hm
    have hr := run_append_owned_none (P := Tryd.prog) (w := w) base 22 ty 5 i0 1 Tryd.underlying22 hi _ n _ hv
    exact ⟨A, n, cap, w, hr, ⟨by simpa using hn, by simpa using hv, by simpa using hb⟩, ⟨rfl, rfl, rfl, Nat.le_refl _, fun _ _ _ => rfl⟩⟩
  | some a =>
    have hcells : ∀ j u, (m.map byteV)[j]? = some u → w.cell? (a.add j) = some u := by
      intro j u hj
      have hj1 : j < m.length := by have := (List.getElem?_eq_some_iff.1 hj).1; simpa using this
      obtain ⟨b, off, e1, e2, e3⟩ := h6 (by omega)
      simp only [Option.some.injEq] at e1
      subst e1
      have e4 := e3 j hj1
      rw [show (⟨b, off, none⟩ : Addr).add j = ⟨b, off + j, none⟩ by unfold Addr.add; split <;> simp_all]
      rw [e4, ← hj, List.getElem?_map, List.getD_eq_getElem?_getD, List.getElem?_eq_getElem hj1]
      rfl
    obtain ⟨v', w', hr, ho, hg, _⟩ := run_append_own (P := Tryd.prog) w base 22 ty 5 i0 (.int .u8 0) 1 1 Tryd.underlying22 hi hz0 hz1 hz2 rfl (by decide) _ n _ hv a m.length c (m.map byteV) (by simp) hcells
      (by intro u hu; obtain ⟨y, _, rfl⟩ := List.mem_map.1 hu; rfl) (by unfold maxLen; omega) (by omega) hbase
    rw [← List.map_append] at ho
    obtain ⟨A', cap', rfl, hO⟩ := own_of_row (by rw [List.length_append, hn]) ho (getD_append_lt hb h5)
    exact ⟨A', _, cap', w', hr, hO, hg⟩

theorem wpList_app {base : Nat} {w : World} {A : Option Addr} {n cap : Nat} {l m : List Nat} {x : Value} {ops : Array Oper} {rest : List Oper} {o : Oper} {a : Act} {Q : Exit → Act → World → Prop} (hgd : o.guard = none) (s y : Operand)
    (ho : o.op = .call { callee := .builtin .append, args := #[s, y], argTypes := #[22, 22] }) (hs : a.eval s = .slice A n cap) (hy : a.eval y = x)
    (hv : Own base w A n cap l) (hx : Bytes w x m) (hlen : l.length + m.length ≤ 70368744177664) (hbase : base ≤ w.heap.size)
    (h : ∀ A' n' cap' w', Own base w' A' n' cap' (l ++ m) → w.grownBy w' (Value.ownBlock (.slice A n cap)) → wpList Tryd.prog ops Q rest (a.put o.dst (.slice A' n' cap')) w') : wpList Tryd.prog ops Q (o :: rest) a w := by
  refine wpList_plain hgd fun K hK => ?_
  obtain ⟨A', n', cap', w', hr, h1, h2⟩ := run_app o.type hv hx hlen hbase
  unfold Oper.wp execOp
  simp only [ho, resolve, invoke, builtin, Sem.run_bind, Sem.run_pure, Result.andThen_ok, List.map_toArray, List.map_cons, List.map_nil, hs, hy, hr]
  exact hK _ _ (h A' n' cap' w' h1 h2)

/-- what grows only what is the call's own leaves the rest -/
theorem Ext.grown {w0 w w' : World} {row : Option Nat} (h : Ext w0 w) (hg : w.grownBy w' row) (hrow : ∀ k, row = some k → w0.heap.size ≤ k) : Ext w0 w' := by
  have hb := below_of_ext h
  refine ext_of_below ⟨hg.os.trans hb.1, hg.tape.trans hb.2, hg.output.trans hb.3, Nat.le_trans hb.size hg.size, fun k hk => ?_⟩
  rw [hg.block k (Nat.lt_of_lt_of_le hk hb.size) (fun e => by have := hrow k e.symm; omega)]
  exact hb.5 k hk

theorem Own.ext {base : Nat} {w w' : World} {A : Option Addr} {n cap : Nat} {l : List Nat} (h : Own base w A n cap l) (he : Ext w w') : Own base w' A n cap l := by
  obtain ⟨h1, h2, h3⟩ := h
  exact ⟨h1, h2.kept (row := none) ⟨(below_of_ext he).1, (below_of_ext he).2, (below_of_ext he).3, he.size, fun k hk _ => (below_of_ext he).5 k hk⟩ (by cases hv : Value.ownBlock _ <;> simp), h3⟩

theorem Own.row {base : Nat} {w : World} {A : Option Addr} {n cap : Nat} {l : List Nat} (h : Own base w A n cap l) : ∀ k, Value.ownBlock (.slice A n cap) = some k → base ≤ k := fun k hk => (h.2.1.lt k hk).1

set_option maxRecDepth 100000 in
set_option maxHeartbeats 3200000 in
theorem high_4 (n : Int) (w : World) (h0 : 0 ≤ n) (h1 : n ≤ 18446744073709551615) :
    Calls Tryd.prog 31 #[.int .u64 n, .int .i64 4] w fun e w' => e = .returned (.slice (some ⟨w.heap.size, 0, none⟩) 4 4) ∧ w' = w.alloc (.cells #[.int .u8 (n / 16777216 % 256), .int .u8 (n / 65536 % 256), .int .u8 (n / 256 % 256), .int .u8 (n % 256)] 5) := by
  have hmk : ∀ w, (Instr.makeSlice 22 (.int .i64 4) (.int .i64 4)).run Tryd.prog w = .ok (.slice (some ⟨w.heap.size, 0, none⟩) 4 4) (w.alloc (.cells #[.int .u8 0, .int .u8 0, .int .u8 0, .int .u8 0] 5)) := fun w => by kernel_rfl
  go_enter Tryd.func31, Tryd.ntmps31
  go_wp2
  refine wp_loop_rounds 5 ?_
  iterate 5
    rw [rounds_succ]
    go_wp2
  go_ret
  exact ⟨rfl, rfl⟩

set_option maxRecDepth 100000 in
set_option maxHeartbeats 3200000 in
theorem high_8 (n : Int) (w : World) (h0 : 0 ≤ n) (h1 : n ≤ 18446744073709551615) :
    Calls Tryd.prog 31 #[.int .u64 n, .int .i64 8] w fun e w' => e = .returned (.slice (some ⟨w.heap.size, 0, none⟩) 8 8) ∧ w' = w.alloc (.cells #[.int .u8 (n / 72057594037927936 % 256), .int .u8 (n / 281474976710656 % 256), .int .u8 (n / 1099511627776 % 256), .int .u8 (n / 4294967296 % 256), .int .u8 (n / 16777216 % 256), .int .u8 (n / 65536 % 256), .int .u8 (n / 256 % 256), .int .u8 (n % 256)] 5) := by
  have hmk : ∀ w, (Instr.makeSlice 22 (.int .i64 8) (.int .i64 8)).run Tryd.prog w = .ok (.slice (some ⟨w.heap.size, 0, none⟩) 8 8) (w.alloc (.cells #[.int .u8 0, .int .u8 0, .int .u8 0, .int .u8 0, .int .u8 0, .int .u8 0, .int .u8 0, .int .u8 0] 5)) := fun w => by kernel_rfl
  go_enter Tryd.func31, Tryd.ntmps31
  go_wp2
  refine wp_loop_rounds 9 ?_
  iterate 9
    rw [rounds_succ]
    go_wp2
  go_ret
  exact ⟨rfl, by rw [show n / 72057594037927936 % 256 = n / 72057594037927936 by omega]⟩

end Go.Proofs.YtobnbdoehobigaaDoor
