
import Derived.Test.YtobnbdoehobigaaDoorFrame
namespace Go.Proofs.YtobnbdoehobigaaDoor
open Go.RowKit
set_option linter.unusedVariables false
set_option linter.unusedSimpArgs false

/-- w' is w but for new blocks, and for what lies in S -/
structure Keep (w w' : World) (S : Nat → Prop) : Prop where
  os : w'.os = w.os
  tape : w'.tape = w.tape
  output : w'.output = w.output
  size : w.heap.size ≤ w'.heap.size
  block : ∀ k, k < w.heap.size → ¬ S k → w'.heap[k]? = w.heap[k]?

theorem Keep.refl (w : World) (S : Nat → Prop) : Keep w w S := ⟨rfl, rfl, rfl, Nat.le_refl _, fun _ _ _ => rfl⟩
theorem Keep.trans {a b c : World} {S T : Nat → Prop} (h : Keep a b S) (k : Keep b c T) (hS : ∀ x, x < a.heap.size → T x → S x) : Keep a c S :=
  ⟨k.os.trans h.os, k.tape.trans h.tape, k.output.trans h.output, Nat.le_trans h.size k.size, fun x hx hn => (k.block x (Nat.lt_of_lt_of_le hx h.size) (fun t => hn (hS x hx t))).trans (h.block x hx hn)⟩
theorem Keep.mono {a b : World} {S T : Nat → Prop} (h : Keep a b S) (hS : ∀ x, S x → T x) : Keep a b T := ⟨h.os, h.tape, h.output, h.size, fun x hx hn => h.block x hx (fun s => hn (hS x s))⟩
theorem Keep.grown {w w' : World} {row : Option Nat} (h : w.grownBy w' row) : Keep w w' (fun k => row = some k) :=
  ⟨h.os, h.tape, h.output, h.size, fun k hk hn => h.block k hk (fun e => hn e.symm)⟩
theorem Keep.ofExt {w w' : World} (h : Ext w w') (S : Nat → Prop) : Keep w w' S :=
  ⟨(below_of_ext h).1, (below_of_ext h).2, (below_of_ext h).3, h.size, fun k hk _ => (below_of_ext h).5 k hk⟩
theorem Keep.ext {w w' : World} {S : Nat → Prop} (h : Keep w w' S) (hS : ∀ k, k < w.heap.size → ¬ S k) : Ext w w' :=
  ext_of_below ⟨h.os, h.tape, h.output, h.size, fun k hk => h.block k hk (hS k hk)⟩
theorem Keep.toExt {w0 w w' : World} {S : Nat → Prop} (h0 : Ext w0 w) (h : Keep w w' S) (hS : ∀ k, S k → w0.heap.size ≤ k) : Ext w0 w' :=
  ((Keep.ofExt h0 (fun _ => False)).trans ⟨h.os, h.tape, h.output, h.size, h.block⟩ (T := S) (fun x hx t => absurd (hS x t) (by omega))).ext (fun _ _ h => h)
theorem Keep.setCell {w : World} {g i : Nat} {v : Value} : Keep w (w.setCell ⟨g, i, none⟩ v) (fun k => k = g) := by
  refine ⟨rfl, rfl, rfl, by simp [World.setCell], fun k hk hn => ?_⟩
  simp only [World.setCell, Array.getElem?_modify]
  rw [if_neg (fun e => hn e.symm)]
theorem Keep.cell {w w' : World} {S : Nat → Prop} (h : Keep w w' S) {g i : Nat} (hg : g < w.heap.size) (hn : ¬ S g) : w'.cell? ⟨g, i, none⟩ = w.cell? ⟨g, i, none⟩ := by
  simp only [World.cell?, h.block g hg hn]
theorem Keep.frozen {w w' : World} {S : Nat → Prop} (h : Keep w w' S) {g i : Nat} (hg : g < w.heap.size) (hn : ¬ S g) : w'.frozen? ⟨g, i, none⟩ = w.frozen? ⟨g, i, none⟩ := by
  simp only [World.frozen?, h.block g hg hn]

theorem Own.keep {base : Nat} {w w' : World} {A : Option Addr} {n cap : Nat} {l : List Nat} {S : Nat → Prop} (h : Own base w A n cap l) (hk : Keep w w' S) (hS : ∀ k, Value.ownBlock (.slice A n cap) = some k → ¬ S k) : Own base w' A n cap l := by
  obtain ⟨h1, h2, h3⟩ := h
  refine ⟨h1, ⟨h2.1, ?_⟩, h3⟩
  rcases h2.2 with hn | ⟨g, c, cur, e, hb, hg, rest⟩
  · exact .inl hn
  · refine .inr ⟨g, c, cur, e, hb, ?_, rest⟩
    rw [hk.block g (Array.getElem?_eq_some_iff.1 hg).1 (hS g (by rw [e]; rfl)), hg]

/-- bytes put behind bytes of the call's own: where they lie then -/
theorem run_app2 {base : Nat} {w : World} {A : Option Addr} {n cap : Nat} {l m : List Nat} {x : Value} (ty : TypeId) (hv : Own base w A n cap l) (hx : Bytes w x m) (hlen : l.length + m.length ≤ 70368744177664) (hbase : base ≤ w.heap.size) :
    ∃ A' n' cap' w', (Builtin.append_ #[22, 22] ty #[.slice A n cap, x]).run Tryd.prog w = .ok (.slice A' n' cap') w' ∧ Own base w' A' n' cap' (l ++ m) ∧ w.grownBy w' (Value.ownBlock (.slice A n cap)) ∧ (A' = A ∨ A' = some ⟨w.heap.size, 0, none⟩) := by
  obtain ⟨A', n', cap', w', hr, hO, hg⟩ := run_app ty hv hx hlen hbase
  refine ⟨A', n', cap', w', hr, hO, hg, ?_⟩
  obtain ⟨hn, hv, hb⟩ := hv
  obtain ⟨X, c, rfl, h2, h3, h4, h5, h6⟩ := hx
  obtain ⟨i0, hi, hz0, hz1, hz2⟩ := info_parts info5
  cases X with
  | none =>
    have hc := h4 rfl
    subst hc
    have hm : m = [] := List.eq_nil_of_length_eq_zero (by omega)
    subst hm
    have hr2 := run_append_owned_none (P := Tryd.prog) (w := w) base 22 ty 5 i0 1 Tryd.underlying22 hi _ n _ hv
    rw [show ([] : List Nat).length = 0 from rfl] at hr
    rw [hr2] at hr
    simp only [Result.ok.injEq, Value.slice.injEq] at hr
    exact .inl hr.1.1.symm
  | some a =>
    have hcells : ∀ j u, (m.map byteV)[j]? = some u → w.cell? (a.add j) = some u := by
      intro j u hj
      have hj1 : j < m.length := by have := (List.getElem?_eq_some_iff.1 hj).1; simpa using this
      obtain ⟨b, off, e1, e2, e3⟩ := h6 (by omega)
      simp only [Option.some.injEq] at e1
      subst e1
      have e4 := e3 j hj1
      rw [show (⟨b, off, none⟩ : Addr).add j = ⟨b, off + j, none⟩ by unfold Addr.add; split <;> simp_all]
      rw [e4, ← hj, List.getElem?_map, List.getD_eq_getElem?_getD, List.getElem?_eq_getElem hj1]
      rfl
    have hone : ∀ u ∈ m.map byteV, u.oneCell' = true := by intro u hu; obtain ⟨y, _, rfl⟩ := List.mem_map.1 hu; rfl
    rcases hv.2 with ⟨hnil, hn0⟩ | ⟨g, cap1, cur, hsl, hb1, hg1, hnc, hcm, hcs, htake⟩
    · simp only [Value.slice.injEq] at hnil
      obtain ⟨rfl, hn1, rfl⟩ := hnil
      by_cases hm : m.length = 0
      · have hml : m = [] := List.eq_nil_of_length_eq_zero hm
        subst hml
        have hO' := hO.2.1.1
        have hO1 := hO.1
        have : n' = 0 := by simpa [List.eq_nil_of_length_eq_zero (l := l) (by omega)] using hO1
        rcases hO.2.1.2 with ⟨e, _⟩ | ⟨g, c', cur, e, _⟩
        · simp only [Value.slice.injEq] at e; exact .inl e.1
        · exfalso
          have hd : (Builtin.append_ #[22, 22] ty #[.slice none n 0, .slice (some a) ([] : List Nat).length c]).run Tryd.prog w = .ok (.slice none 0 0) w := by
            subst hn0
            simp [Builtin.append_, run_underlying Tryd.underlying22, sizeOf, typeInfo, hi, Builtin.lenOf, Builtin.firstCells, loadCells, loadCellsFrom]
          rw [hd] at hr
          simp only [Result.ok.injEq, Value.slice.injEq] at hr
          simp only [Value.slice.injEq] at e
          rw [e.1] at hr
          exact absurd hr.1.1 (by simp)
      · subst hn0
        have hr2 := run_append_nil (P := Tryd.prog) w 22 ty 5 i0 (.int .u8 0) Tryd.underlying22 hi hz0 a m.length c (m.map byteV) (by simp [hz1]) hcells (by omega) (by omega) (by rw [hz2]; omega)
        rw [hr2] at hr
        simp only [Result.ok.injEq, Value.slice.injEq] at hr
        exact .inr hr.1.1.symm
    · simp only [Value.slice.injEq, true_and] at hsl
      obtain ⟨rfl, rfl⟩ := hsl
      by_cases hroom : n + m.length ≤ cap
      · obtain ⟨w2, hr2, _⟩ := run_append_fits (P := Tryd.prog) (w := w) base 22 ty 5 i0 1 Tryd.underlying22 hi hz1 g n cap _ hv a m.length c (m.map byteV) (by simp) hcells hone hroom
        rw [hr2] at hr
        simp only [Result.ok.injEq, Value.slice.injEq] at hr
        exact .inl hr.1.1.symm
      · have hr2 := run_append_grow (P := Tryd.prog) w 22 ty 5 i0 (.int .u8 0) Tryd.underlying22 hi hz0 ⟨g, 0, none⟩ n cap (l.map byteV) (by simp [hz1]; omega) (hv.cells (g := g) rfl) a m.length c (m.map byteV) (by simp [hz1]) hcells (by omega) (by omega) (growslice_fits (by omega) (by rw [hz2]; omega))
        rw [hr2] at hr
        simp only [Result.ok.injEq, Value.slice.injEq] at hr
        exact .inr hr.1.1.symm

theorem wpList_app2 {base : Nat} {w : World} {A : Option Addr} {n cap : Nat} {l m : List Nat} {x : Value} {ops : Array Oper} {rest : List Oper} {o : Oper} {a : Act} {Q : Exit → Act → World → Prop} (hgd : o.guard = none) (s y : Operand)
    (ho : o.op = .call { callee := .builtin .append, args := #[s, y], argTypes := #[22, 22] }) (hs : a.eval s = .slice A n cap) (hy : a.eval y = x)
    (hv : Own base w A n cap l) (hx : Bytes w x m) (hlen : l.length + m.length ≤ 70368744177664) (hbase : base ≤ w.heap.size)
    (h : ∀ A' n' cap' w', Own base w' A' n' cap' (l ++ m) → w.grownBy w' (Value.ownBlock (.slice A n cap)) → (A' = A ∨ A' = some ⟨w.heap.size, 0, none⟩) → wpList Tryd.prog ops Q rest (a.put o.dst (.slice A' n' cap')) w') : wpList Tryd.prog ops Q (o :: rest) a w := by
  refine wpList_plain hgd fun K hK => ?_
  obtain ⟨A', n', cap', w', hr, h1, h2, h3⟩ := run_app2 o.type hv hx hlen hbase
  unfold Oper.wp execOp
  simp only [ho, resolve, invoke, builtin, Sem.run_bind, Sem.run_pure, Result.andThen_ok, List.map_toArray, List.map_cons, List.map_nil, hs, hy, hr]
  exact hK _ _ (h A' n' cap' w' h1 h2 h3)

/-- a number's bytes, seven bits each, the lowest first -/
def uvarF : Nat → Nat → List Nat
  | 0, _ => []
  | f + 1, z => if z < 128 then [z] else (z % 128 + 128) :: uvarF f (z / 128)

/-- a number folded: the sign below -/
def zig (n : Int) : Nat := if 0 ≤ n then (2 * n).toNat else (-2 * n - 1).toNat

def intL (n : Int) : List Nat := uvarF 10 (zig n)

/-- what puts things in bytes: its one cell, and the bytes that it has -/
structure OutAt (base : Nat) (w : World) (gb : Nat) (A : Option Addr) (n cap : Nat) (l : List Nat) : Prop where
  lo : base ≤ gb
  hi : gb < w.heap.size
  cell : w.cell? ⟨gb, 0, none⟩ = some (.slice A n cap)
  froz : w.frozen? ⟨gb, 0, none⟩ = false
  own : Own base w A n cap l
  ne : Value.ownBlock (.slice A n cap) ≠ some gb

theorem xor_u64 (a b : Nat) (ha : a < 18446744073709551616) (hb : b < 18446744073709551616) : Go.bits .xor .u64 (a : Int) (b : Int) = ((a ^^^ b : Nat) : Int) := by
  have hx : a ^^^ b < 2 ^ 64 := Nat.xor_lt_two_pow (by omega) (by omega)
  have h1 : (BitVec.ofInt 64 (a : Int)).toNat = a := by
    rw [BitVec.ofInt_natCast, BitVec.toNat_ofNat]; exact Nat.mod_eq_of_lt (by omega)
  have h2 : (BitVec.ofInt 64 (b : Int)).toNat = b := by
    rw [BitVec.ofInt_natCast, BitVec.toNat_ofNat]; exact Nat.mod_eq_of_lt (by omega)
  show IntKind.u64.wrap ((BitVec.ofInt 64 (a : Int) ^^^ BitVec.ofInt 64 (b : Int)).toNat : Int) = _
  rw [BitVec.toNat_xor, h1, h2, IntKind.wrap_u64]
  omega

theorem xor_ones (a : Nat) (ha : a < 18446744073709551616) : a ^^^ 18446744073709551615 = 18446744073709551615 - a := by
  apply Nat.eq_of_testBit_eq
  intro i
  have h1 := Nat.testBit_two_pow_sub_succ (n := 64) ha i
  have h2 := Nat.testBit_two_pow_sub_one 64 i
  rw [show (2:Nat) ^ 64 - (a + 1) = 18446744073709551615 - a by omega] at h1
  rw [show (2:Nat) ^ 64 - 1 = 18446744073709551615 by rfl] at h2
  rw [Nat.testBit_xor, h1, h2]
  by_cases hi : i < 64
  · simp [hi]
  · have : a.testBit i = false := Nat.testBit_lt_two_pow (Nat.lt_of_lt_of_le ha (Nat.pow_le_pow_right (n := 2) (by omega) (by omega : 64 ≤ i)))
    simp [hi, this]

theorem zig_xor (z : Int) (h1 : -9223372036854775808 ≤ z) (h2 : z ≤ 9223372036854775807) :
    Go.bits .xor .u64 (IntKind.u64.wrap (IntKind.u64.wrap z * 2)) (IntKind.u64.wrap (z / 9223372036854775808)) = ((zig z : Nat) : Int) := by
  by_cases h : 0 ≤ z
  · obtain ⟨n, rfl⟩ : ∃ n : Nat, z = n := ⟨z.toNat, by omega⟩
    rw [show IntKind.u64.wrap (IntKind.u64.wrap (n : Int) * 2) = ((2 * n : Nat) : Int) by simp only [IntKind.wrap_u64]; omega,
      show IntKind.u64.wrap ((n : Int) / 9223372036854775808) = ((0 : Nat) : Int) by simp only [IntKind.wrap_u64]; omega, xor_u64 _ _ (by omega) (by omega), Nat.xor_zero]
    unfold zig
    rw [if_pos h]
    omega
  · obtain ⟨n, hn⟩ : ∃ n : Nat, z = -n := ⟨(-z).toNat, by omega⟩
    subst hn
    rw [show IntKind.u64.wrap (IntKind.u64.wrap (-(n : Int)) * 2) = ((18446744073709551616 - 2 * n : Nat) : Int) by simp only [IntKind.wrap_u64]; omega,
      show IntKind.u64.wrap (-(n : Int) / 9223372036854775808) = ((18446744073709551615 : Nat) : Int) by simp only [IntKind.wrap_u64]; omega, xor_u64 _ _ (by omega) (by omega), xor_ones _ (by omega)]
    unfold zig
    rw [if_neg h]
    omega

theorem zig_lt (z : Int) (h1 : -9223372036854775808 ≤ z) (h2 : z ≤ 9223372036854775807) : zig z < 18446744073709551616 := by
  unfold zig; split <;> omega

theorem or_128 (y : Int) (h0 : 0 ≤ y) (h1 : y < 256) : Go.bits .or .u8 y 128 = y % 128 + 128 := by
  obtain ⟨n, rfl⟩ : ∃ n : Nat, y = n := ⟨y.toNat, by omega⟩
  have h : ∀ m : Nat, m < 256 → Go.bits .or .u8 (m : Int) 128 = (m : Int) % 128 + 128 := by decide +kernel
  exact h n (by omega)

theorem uvarF_lt (f z i : Nat) : (uvarF f z).getD i 0 < 256 := by
  induction f generalizing z i with
  | zero => simp [uvarF]
  | succ f ih =>
    unfold uvarF
    split
    · cases i with
      | zero => simp; omega
      | succ i => simp
    · cases i with
      | zero => simp; omega
      | succ i => simpa using ih (z / 128) i

theorem uvarF_len (f z : Nat) : (uvarF f z).length ≤ f := by
  induction f generalizing z with
  | zero => simp [uvarF]
  | succ f ih =>
    unfold uvarF
    split
    · simp
    · simpa using ih (z / 128)

theorem ob (A : Option Addr) (n c n' c' : Nat) : Value.ownBlock (.slice A n c) = Value.ownBlock (.slice A n' c') := by cases A <;> rfl
theorem setCell_same {w : World} {g : Nat} {u v : Value} (h : w.cell? ⟨g, 0, none⟩ = some u) : (w.setCell ⟨g, 0, none⟩ v).cell? ⟨g, 0, none⟩ = some v := by
  simp [go_sem, h]

theorem out_step {base gb : Nat} {wr wa w1 : World} {A1 A2 : Option Addr} {n1 cap1 n2 cap2 : Nat} {l1 m : List Nat} (h : OutAt base wr gb A1 n1 cap1 l1) (he : Ext wr wa) (hO : Own base w1 A2 n2 cap2 (l1 ++ m)) (hg : wa.grownBy w1 (Value.ownBlock (.slice A1 n1 cap1)))
    (hA : A2 = A1 ∨ A2 = some ⟨wa.heap.size, 0, none⟩) :
    (w1.cell? ⟨gb, 0, none⟩ = some (.slice A1 n1 cap1) ∧ w1.frozen? ⟨gb, 0, none⟩ = false) ∧ OutAt base (w1.setCell ⟨gb, 0, none⟩ (.slice A2 n2 cap2)) gb A2 n2 cap2 (l1 ++ m) ∧
    Keep wr (w1.setCell ⟨gb, 0, none⟩ (.slice A2 n2 cap2)) (fun k => k = gb ∨ Value.ownBlock (.slice A1 n1 cap1) = some k) ∧ (A2 = A1 ∨ ∀ k, Value.ownBlock (.slice A2 n2 cap2) = some k → wr.heap.size ≤ k) := by
  have K1 : Keep wr w1 (fun k => Value.ownBlock (.slice A1 n1 cap1) = some k) := (Keep.ofExt he _).trans (Keep.grown hg) (fun _ _ t => t)
  have hc : w1.cell? ⟨gb, 0, none⟩ = some (.slice A1 n1 cap1) := (K1.cell h.hi h.ne).trans h.cell
  have hf : w1.frozen? ⟨gb, 0, none⟩ = false := (K1.frozen h.hi h.ne).trans h.froz
  have hne : Value.ownBlock (.slice A2 n2 cap2) ≠ some gb := by
    rcases hA with rfl | rfl
    · rw [ob _ _ _ n1 cap1]; exact h.ne
    · intro e
      have e' : wa.heap.size = gb := by simpa [Value.ownBlock] using e
      have := h.hi; have := he.size; omega
  have hgb1 : gb < w1.heap.size := Nat.lt_of_lt_of_le h.hi K1.size
  refine ⟨⟨hc, hf⟩, ⟨h.lo, by simpa [World.setCell] using hgb1, setCell_same hc, ?_, hO.keep Keep.setCell (fun k hk e => hne (by rw [hk, e])), hne⟩,
    (K1.mono (fun k h => .inr h)).trans Keep.setCell (fun k _ e => .inl e), ?_⟩
  · simp [go_sem, hf]
  · rcases hA with rfl | rfl
    · exact .inl rfl
    · refine .inr fun k hk => ?_
      have e' : wa.heap.size = k := by simpa [Value.ownBlock] using hk
      have := he.size; omega

set_option maxRecDepth 100000 in
set_option maxHeartbeats 6400000 in
theorem outInt_any (base gb : Nat) (A : Option Addr) (n cap : Nat) (l : List Nat) (z : Int) (w : World) (ho : OutAt base w gb A n cap l) (hbase : base ≤ w.heap.size) (hl : l.length ≤ 4294967296)
    (h1 : -9223372036854775808 ≤ z) (h2 : z ≤ 9223372036854775807) :
    Calls Tryd.prog 12 #[.pointer (some ⟨gb, 0, none⟩), .int .i64 z] w fun e w' => e = .returned (.pointer (some ⟨gb, 0, none⟩)) ∧ ∃ A' n' cap', OutAt base w' gb A' n' cap' (l ++ intL z) ∧
      Keep w w' (fun k => k = gb ∨ Value.ownBlock (.slice A n cap) = some k) ∧ (A' = A ∨ ∀ k, Value.ownBlock (.slice A' n' cap') = some k → w.heap.size ≤ k) := by
  have HO := Lib.hid ho
  have hz := zig_xor z h1 h2
  have HZ := Lib.hid (zig_lt z h1 h2)
  clear ho
  have HB := Lib.hid hbase
  clear hbase
  go_enter Tryd.func12, Tryd.ntmps12
  go_wp2_with fail
  go_loopw [5] (fun t5 wr => ∃ (zc f : Nat) (done : List Nat) (A1 : Option Addr) (n1 cap1 : Nat), t5 = .int .u64 zc ∧ (1 ≤ f ∧ zc < 128 ^ f) ∧ zc < 18446744073709551616 ∧ intL z = done ++ uvarF f zc ∧ done.length + f ≤ 10 ∧ OutAt base wr gb A1 n1 cap1 (l ++ done) ∧
      Keep w wr (fun k => k = gb ∨ Value.ownBlock (.slice A n cap) = some k) ∧ (A1 = A ∨ ∀ k, Value.ownBlock (.slice A1 n1 cap1) = some k → w.heap.size ≤ k)) (fun t5 _ => (intOf t5).toNat)
  case atStart =>
    exact ⟨zig z, 10, [], A, n, cap, rfl, ⟨by omega, Nat.lt_of_lt_of_le HZ.out (by decide)⟩, HZ.out, rfl, by simp, by simpa using HO.out, Keep.refl _ _, .inl rfl⟩
  case round =>
    obtain ⟨zc, f, done, A1, n1, cap1, rfl, hf, hzc, hd, hdl, hO, hK, hA⟩ := hrel
    have H := Lib.hid (And.intro hf (And.intro hd (And.intro hdl (And.intro hK hA))))
    clear hf hd hdl hK hA
    have hx := hO.cell
    have hxf := hO.froz
    have hgb := hO.hi
    have O := Lib.hid hO
    clear hO
    by_cases hz1 : 128 ≤ zc
    · have hz1' : (128 : Int) ≤ (zc : Int) := by omega
      have hor := or_128 ((zc : Int) % 256) (by omega) (by omega)
      have E0 : Hid (Ext wr (wr.alloc (.cells #[.int .u8 ((zc : Int) % 128 + 128)] 5))) := (Ext.refl wr).alloc _
      have O1 := Lib.hid (O.out.own.ext E0.out)
      have Y : Hid (Bytes (wr.alloc (.cells #[.int .u8 ((zc : Int) % 128 + 128)] 5)) (.slice (some ⟨wr.heap.size, 0, none⟩) 1 1) [zc % 128 + 128]) := by
        refine bytes_at (l := [zc % 128 + 128]) (by simp [go_sem]) ?_ (by simp) fun i hi => ?_
        · intro i
          match i with
          | 0 => simp; omega
          | i + 1 => simp
        · match i, hi with
          | 0, _ => simp [go_sem]
      have Z : Hid ((l ++ done).length + [zc % 128 + 128].length ≤ 70368744177664) := by
        show _ ≤ _
        have := H.out.2.2.1
        simp; omega
      have HB2 : Hid (base ≤ (wr.alloc (.cells #[.int .u8 ((zc : Int) % 128 + 128)] 5)).heap.size) := by
        have := H.out.2.2.2.1.size; have := HB.out
        show _ ≤ _
        simp; omega
      go_wp2_with (at_builtin; refine wpList_app2 rfl (.tmp 21) (.tmp 25) rfl rfl rfl O1.out Y.out Z.out HB2.out ?_)
      intro D d cap2 w1 hO hgr hD
      obtain ⟨⟨hc, hfz⟩, hO2, hK2, hA2⟩ := out_step O.out E0.out (by rw [List.append_assoc]; exact hO) hgr (by simpa using hD)
      have R := Lib.hid (And.intro hO2 (And.intro hK2 hA2))
      clear hO hgr hD hO2 hK2 hA2 O1 Y Z HB2 hor hx hxf
      have hzq : zc / 128 < 18446744073709551616 := by omega
      go_wp2
      go_roundw
      case rel =>
        obtain ⟨⟨q0, q1⟩, q2, q3, q4, q5⟩ := H.out
        obtain ⟨r1, r2, r3⟩ := R.out
        obtain ⟨f', rfl⟩ : ∃ f', f = f' + 1 := by
          cases f with
          | zero => omega
          | succ f' => exact ⟨f', rfl⟩
        refine ⟨zc / 128, f', done ++ [zc % 128 + 128], D, d, cap2, by go_num, ?_, by omega, ?_, ?_, ?_, ?_, ?_⟩
        · rw [Nat.pow_succ] at q1
          refine ⟨?_, Nat.div_lt_of_lt_mul (by rwa [Nat.mul_comm])⟩
          cases f' with
          | zero => simp at q1; omega
          | succ _ => omega
        · rw [q2, uvarF, if_neg (by omega)]; simp
        · simp; omega
        · simpa [List.append_assoc] using r1
        · refine q4.trans r2 fun k hk hs => ?_
          rcases hs with hs | hs
          · exact .inl hs
          · rcases q5 with rfl | q5
            · exact .inr (by rw [ob _ _ _ n1 cap1]; exact hs)
            · have := q5 k hs; omega
        · rcases r3 with rfl | r3
          · rcases q5 with rfl | q5
            · exact .inl rfl
            · exact .inr fun k hk => q5 k (by rw [ob _ _ _ d cap2]; exact hk)
          · exact .inr fun k hk => Nat.le_trans q4.size (r3 k hk)
      case measure => simp [intOf]; omega
    · have hz1' : ¬ (128 : Int) ≤ (zc : Int) := by omega
      have E0 : Hid (Ext wr (wr.alloc (.cells #[.int .u8 (zc : Int)] 5))) := (Ext.refl wr).alloc _
      have O1 := Lib.hid (O.out.own.ext E0.out)
      have Y : Hid (Bytes (wr.alloc (.cells #[.int .u8 (zc : Int)] 5)) (.slice (some ⟨wr.heap.size, 0, none⟩) 1 1) [zc]) := by
        refine bytes_at (l := [zc]) (by simp [go_sem]) ?_ (by simp) fun i hi => ?_
        · intro i
          match i with
          | 0 => simp; omega
          | i + 1 => simp
        · match i, hi with
          | 0, _ => simp [go_sem]
      have Z : Hid ((l ++ done).length + [zc].length ≤ 70368744177664) := by
        show _ ≤ _
        have := H.out.2.2.1
        simp; omega
      have HB2 : Hid (base ≤ (wr.alloc (.cells #[.int .u8 (zc : Int)] 5)).heap.size) := by
        have := H.out.2.2.2.1.size; have := HB.out
        show _ ≤ _
        simp; omega
      go_wp2_with (at_builtin; refine wpList_app2 rfl (.tmp 33) (.tmp 36) rfl rfl rfl O1.out Y.out Z.out HB2.out ?_)
      intro D d cap2 w1 hO hgr hD
      obtain ⟨⟨hc, hfz⟩, hO2, hK2, hA2⟩ := out_step O.out E0.out (by rw [List.append_assoc]; exact hO) hgr (by simpa using hD)
      have R := Lib.hid (And.intro hO2 (And.intro hK2 hA2))
      clear hO hgr hD hO2 hK2 hA2 O1 Y Z HB2 hx hxf
      go_wp2
      go_ret
      obtain ⟨⟨q0, q1⟩, q2, q3, q4, q5⟩ := H.out
      obtain ⟨r1, r2, r3⟩ := R.out
      have q2' : intL z = done ++ [zc] := by
        rw [q2]
        cases f with
        | zero => omega
        | succ f' => rw [uvarF, if_pos (by omega)]
      refine ⟨rfl, D, d, cap2, by rw [q2']; simpa [List.append_assoc] using r1, ?_, ?_⟩
      · refine q4.trans r2 fun k hk hs => ?_
        rcases hs with hs | hs
        · exact .inl hs
        · rcases q5 with rfl | q5
          · exact .inr (by rw [ob _ _ _ n1 cap1]; exact hs)
          · have := q5 k hs; omega
      · rcases r3 with rfl | r3
        · rcases q5 with rfl | q5
          · exact .inl rfl
          · exact .inr fun k hk => q5 k (by rw [ob _ _ _ d cap2]; exact hk)
        · exact .inr fun k hk => Nat.le_trans q4.size (r3 k hk)

end Go.Proofs.YtobnbdoehobigaaDoor
