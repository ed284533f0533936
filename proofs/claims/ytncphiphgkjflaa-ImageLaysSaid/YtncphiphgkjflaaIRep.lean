import Derived.Test.YtncphiphgkjflaaImgB
import Derived.Laws.Bits64b
import Derived.Laws.CopyRow
import Derived.Laws.MakeOwn
import Derived.Deep.RegionLaw
namespace Go.Proofs.Ytncphiphgkjflaa
open Go.RowKit
set_option linter.unusedVariables false
set_option linter.unusedSimpArgs false

theorem mul64_one (n : Nat) (hn : n ≤ 256) (w : World) :
    Calls Try.prog 63 #[.int .u64 1, .int .u64 (n : Int)] w fun e w' => e = .returned (.tuple #[.int .u64 0, .int .u64 (n : Int)]) ∧ w' = w := by
  have h1 : bits .and .u64 (n : Int) 4294967295 = (n : Int) := by
    have h := bits_and_u64_nat n 4294967295 (by omega) (by omega)
    have e : n &&& 4294967295 = n % 4294967296 := Nat.and_two_pow_sub_one_eq_mod n 32
    rw [e, Nat.mod_eq_of_lt (by omega)] at h
    exact h
  have h2 : (n : Int) / 4294967296 = 0 := by omega
  have h3 : IntKind.u64.wrap (n : Int) = (n : Int) := by rw [IntKind.wrap_u64]; omega
  have h4 : bits .and .u64 1 4294967295 = 1 := by decide
  have h5 : IntKind.u64.wrap (IntKind.u64.wrap (bits .and .u64 0 4294967295) / 4294967296) = 0 := by decide
  go_enter Try.func63, Try.ntmps63
  go_wp2
  exact bodyPost_ret (v := .tuple #[.int .u64 0, .int .u64 (n : Int)]) (by simp [results, Try.results63, go_sem]) rfl ⟨rfl, rfl⟩

theorem mul_one (n : Nat) (hn : n ≤ 256) (w : World) :
    Calls Try.prog 53 #[.int .u64 1, .int .u64 (n : Int)] w fun e w' => e = .returned (.tuple #[.int .u64 0, .int .u64 (n : Int)]) ∧ w' = w := by
  go_enter Try.func53, Try.ntmps53
  go_wp2_with fail
  refine (mul64_one n hn _).mono ?_
  rintro e w1 ⟨rfl, rfl⟩
  go_wp2
  exact bodyPost_ret (v := .tuple #[.int .u64 0, .int .u64 (n : Int)]) (by simp [results, Try.results53, go_sem]) rfl ⟨rfl, rfl⟩

/-- elements of four cells are copied into a row -/
theorem run_copy4 {P : Program} (w : World) (dT sT ty elem : TypeId) (g o dLen dCap : Nat) (a : Addr) (sLen sCap k : Nat) (cur : Array Value) (t : TypeId) (cs : List Value)
    (hu : P.underlying dT = some (.slice elem)) (hs : (P.info? elem).map (·.size) = some 4)
    (hg : w.heap[g]? = some (.cells cur t (0, 0))) (hk : Nat.min sLen dLen = k) (hn : cs.length = k * 4)
    (hsrc : ∀ j v, cs[j]? = some v → w.cell? (a.add j) = some v) (hfit : o + cs.length ≤ cur.size) (h1 : ∀ v ∈ cs, v.oneCell' = true) :
    (Builtin.copy_ #[dT, sT] ty #[.slice (some ⟨g, o, none⟩) dLen dCap, .slice (some a) sLen sCap]).run P w =
      .ok (goInt k) (w.setRow g (cur.toList.take o ++ cs ++ cur.toList.drop (o + cs.length)).toArray) := by
  have hl := run_loadCells_list (P := P) w a cs hsrc
  have hst := run_storeCells_at P g o t cs 0 cur w hg (by simpa using hfit) h1
  cases hq : P.info? elem with
  | none => simp [hq] at hs
  | some i =>
    have hi : i.size = 4 := by simpa [hq] using hs
    simp [Builtin.copy_, run_underlying hu, Builtin.lenOf, Builtin.firstCells, sizeOf, typeInfo, hq, hi, hk, ← hn, hl, hst]

theorem Keep.setRow {w : World} {g : Nat} {cs : Array Value} : Keep w (w.setRow g cs) (fun k => k = g) :=
  ⟨rfl, rfl, rfl, by simp [World.setRow], fun k hk hn => by
    simp only [World.setRow]
    rw [Array.getElem?_modify]
    rw [if_neg (fun h => hn h.symm)]⟩

/-- a row of N pixels whose first m are p -/
def Rep (w : World) (g N m : Nat) (p : Px) : Prop :=
  ∃ cur : Array Value, w.heap[g]? = some (.cells cur 40 (0, 0)) ∧ cur.size = N * 4 ∧ cur.toList.take (m * 4) = (List.replicate m p).flatMap (cellsP .u8)

theorem Rep.own {base : Nat} {w : World} {g N : Nat} {p : Px} (h : Rep w g N N p) (hb : base ≤ g) (hN : N ≤ 1000000) (hp : okP p) : OwnP .u8 40 base w (.slice (some ⟨g, 0, none⟩) N N) (List.replicate N p) := by
  obtain ⟨cur, h1, h2, h3⟩ := h
  refine ⟨?_, fun i => ?_⟩
  · rw [List.length_replicate]
    refine ⟨by rw [flat_len, List.length_replicate], .inr ⟨g, N, cur, rfl, hb, h1, Nat.le_refl _, by unfold maxLen; omega, h2, h3⟩⟩
  · rw [List.getD_eq_getElem?_getD, List.getElem?_replicate]
    split
    · exact hp
    · simp [okP, noP]

theorem info4 : (Try.prog.info? 40).map (·.size) = some 4 := by kernel_rfl

/-- what a row holds is put behind it -/
theorem Rep.put {w : World} {g N m k : Nat} {p : Px} {a : Addr} {dCap sLen sCap : Nat} (h : Rep w g N m p) (hk : Nat.min sLen (N - m) = k) (hm : m ≤ N)
    (hsrc : ∀ j v, ((List.replicate k p).flatMap (cellsP .u8))[j]? = some v → w.cell? (a.add j) = some v) :
    ∃ w', (∀ ty, (Builtin.copy_ #[22, 22] ty #[.slice (some ⟨g, m * 4, none⟩) (N - m) dCap, .slice (some a) sLen sCap]).run Try.prog w = .ok (goInt k) w') ∧ Rep w' g N (m + k) p ∧ Keep w w' (fun k => k = g) := by
  obtain ⟨cur, h1, h2, h3⟩ := h
  have hkN : m + k ≤ N := by
    have h9 : Nat.min sLen (N - m) ≤ N - m := Nat.min_le_right _ _
    rw [hk] at h9
    omega
  have hcl : ((List.replicate k p).flatMap (cellsP .u8)).length = k * 4 := by rw [flat_len, List.length_replicate]
  have hfit : m * 4 + ((List.replicate k p).flatMap (cellsP .u8)).length ≤ cur.size := by rw [hcl, h2]; omega
  refine ⟨_, fun ty => run_copy4 w 22 22 ty 40 g (m * 4) (N - m) dCap a sLen sCap k cur 40 ((List.replicate k p).flatMap (cellsP .u8)) Try.underlying22 info4 h1 hk hcl hsrc hfit ?_, ⟨_, setRow_heap _ _ _ _ _ _ h1, ?_, ?_⟩, Keep.setRow⟩
  · intro u hu
    obtain ⟨y, _, hy⟩ := List.mem_flatMap.1 hu
    simp [cellsP] at hy
    rcases hy with rfl | rfl | rfl | rfl <;> rfl
  · simp only [List.size_toArray, List.length_append, List.length_take, List.length_drop, Array.length_toList, hcl, h2]
    omega
  · have e1 : (cur.toList.take (m * 4)).length = m * 4 := by rw [List.length_take, Array.length_toList, h2]; omega
    rw [List.take_append_of_le_length (by simp only [List.length_append, e1, hcl]; omega), List.take_of_length_le (by simp only [List.length_append, e1, hcl]; omega), h3, ← List.flatMap_append, List.replicate_append_replicate]

theorem rep_cells (p : Px) (k j : Nat) (v : Value) (h : ((List.replicate k p).flatMap (cellsP .u8))[j]? = some v) : j < k * 4 ∧ (cellsP .u8 p)[j % 4]? = some v := by
  have hj : j < k * 4 := by have := (List.getElem?_eq_some_iff.1 h).1; rwa [flat_len, List.length_replicate] at this
  refine ⟨hj, ?_⟩
  have := flat4 .u8 (List.replicate k p) (j / 4) (j % 4) (by simp; omega) (by omega)
  rw [show j / 4 * 4 + j % 4 = j by omega, h] at this
  rw [this, List.getD_eq_getElem?_getD, List.getElem?_replicate, if_pos (by omega)]
  rfl

/-- .. its own first ones -/
theorem Rep.dup {w : World} {g N m k : Nat} {p : Px} {dCap sCap : Nat} (h : Rep w g N m p) (hk : Nat.min m (N - m) = k) (hm : m ≤ N) :
    ∃ w', (∀ ty, (Builtin.copy_ #[22, 22] ty #[.slice (some ⟨g, m * 4, none⟩) (N - m) dCap, .slice (some ⟨g, 0, none⟩) m sCap]).run Try.prog w = .ok (goInt k) w') ∧ Rep w' g N (m + k) p ∧ Keep w w' (fun k => k = g) := by
  refine h.put hk hm fun j v hj => ?_
  obtain ⟨cur, h1, h2, h3⟩ := h
  have hkm : k ≤ m := by rw [← hk]; exact Nat.min_le_left _ _
  obtain ⟨hj1, hj2⟩ := rep_cells p k j v hj
  rw [show (⟨g, 0, none⟩ : Addr).add j = ⟨g, j, none⟩ by unfold Addr.add; split <;> simp_all]
  rw [cell_of_row w g j cur _ (0, 0) h1]
  have e : (cur.toList.take (m * 4))[j]? = some v := by
    rw [h3]
    have := flat4 .u8 (List.replicate m p) (j / 4) (j % 4) (by simp; omega) (by omega)
    rw [show j / 4 * 4 + j % 4 = j by omega] at this
    rw [this, List.getD_eq_getElem?_getD, List.getElem?_replicate, if_pos (by omega)]
    exact hj2
  rw [List.getElem?_take, if_pos (by omega)] at e
  simpa using e

theorem step_copy {P : Program} {ops : Array Oper} {o : Oper} {a : Act} {w : World} {K : Act → World → Prop} {Q : Exit → Act → World → Prop} {E : Prop}
    (hg : o.guard = none) (d x : Operand) (dT sT : TypeId) (hop : o.op = Op.call { callee := Callee.builtin Builtin.copy, args := #[d, x], argTypes := #[dT, sT] })
    (v u : Value) (hd : a.eval d = v) (hx : a.eval x = u) {v' : Value} {w' : World} (hr : (Builtin.copy_ #[dT, sT] o.type #[v, u]).run P w = .ok v' w') (hK : K (a.put o.dst v') w') :
    if Region.wanted o (yielded ops a.tmps) = true then Oper.wp P o a w K Q else E := by
  have hw : Region.wanted o (yielded ops a.tmps) = true := by simp [Region.wanted, hg]
  rw [if_pos hw]
  unfold Oper.wp
  simp [execOp, hop, resolve, invoke, builtin, hd, hx, hr, Result.andThen]
  exact hK

set_option maxRecDepth 100000 in
set_option maxHeartbeats 3200000 in
theorem repeat_any (p : Px) (n : Nat) (x : Value) (w : World) (hx : Pix .u8 w x [p]) (hn : 1 ≤ n) (hn2 : n ≤ 256) :
    Calls Try.prog 44 #[x, .int .i64 (n : Int)] w fun e w' => ∃ g, e = .returned (.slice (some ⟨g, 0, none⟩) n n) ∧ OwnP .u8 40 w.heap.size w' (.slice (some ⟨g, 0, none⟩) n n) (List.replicate n p) ∧ Ext w w' := by
  have P := Lib.hid hx
  obtain ⟨X, c, rfl, hc1, hc2, _⟩ := hx
  have hnn : ¬ (n : Int) < 0 := by omega
  have hw1 : IntKind.u64.wrap (n : Int) = (n : Int) := by rw [IntKind.wrap_u64]; omega
  have hw2 : IntKind.i64.wrap (n : Int) = (n : Int) := by rw [IntKind.wrap_i64]; omega
  obtain ⟨b, off, r, g, u, a, rfl, hbs, hp, hpb, c0, c1, c2, c3⟩ := P.out.at (show 0 < [p].length by simp)
  simp only [Nat.zero_mul, Nat.add_zero, Nat.zero_add] at c0 c1 c2 c3
  obtain rfl : p = (r, g, u, a) := by simpa using hp
  simp only [List.length_cons, List.length_nil, Nat.zero_add] at hc1 ⊢
  have PB : Hid (okP (r, g, u, a)) := Lib.hid hpb
  have MK : ∀ wx : World, (Instr.makeSlice 22 (.int .i64 (n : Int)) (.int .i64 (n : Int))).run Try.prog wx = .ok (.slice (some ⟨wx.heap.size, 0, none⟩) n n) (wx.alloc (.cells (madeCells #[.int .u8 0, .int .u8 0, .int .u8 0, .int .u8 0] (n * 4)) 40)) := fun wx => by
    obtain ⟨i0, hi, hz0, hz1, hz2⟩ := info_parts infoC
    have := run_makeSlice (P := Try.prog) wx 22 40 i0 _ Try.underlying22 hi hz0 .i64 .i64 (n : Int) (n : Int) (by omega) (by omega) (by simp [hz1]; omega) (by rw [hz2]; omega) (by omega)
    rw [hz1] at this
    exact this
  obtain ⟨wq, hwq⟩ : ∃ wq, w.alloc (.cells (madeCells #[.int .u8 0, .int .u8 0, .int .u8 0, .int .u8 0] (n * 4)) 40) = wq := ⟨_, rfl⟩
  obtain ⟨q, hq⟩ : ∃ q, w.heap.size = q := ⟨_, rfl⟩
  have R0 : Rep wq q n 0 (r, g, u, a) := ⟨_, by rw [← hwq, ← hq]; exact heap_alloc_new w _, size_madeCells _ _, by simp⟩
  have E0 : Ext w wq := by rw [← hwq]; exact (Ext.refl w).alloc _
  have d0 := (E0.cell hbs).trans c0
  have d1 := (E0.cell hbs).trans c1
  have d2 := (E0.cell hbs).trans c2
  have d3 := (E0.cell hbs).trans c3
  obtain ⟨w1, hc, R1, K1⟩ := R0.put (a := ⟨b, off, none⟩) (dCap := n) (sLen := 1) (sCap := c) (k := 1) (by show min 1 (n - 0) = 1; omega) (by omega) (by
    intro j v hj
    obtain ⟨hj1, hj2⟩ := rep_cells _ 1 j v hj
    rw [show (⟨b, off, none⟩ : Addr).add j = ⟨b, off + j, none⟩ by unfold Addr.add; split <;> simp_all]
    match j, hj1 with
    | 0, _ => simp only [Nat.add_zero]; rw [d0]; simpa [cellsP] using hj2
    | 1, _ => rw [d1]; simpa [cellsP] using hj2
    | 2, _ => rw [d2]; simpa [cellsP] using hj2
    | 3, _ => rw [d3]; simpa [cellsP] using hj2)
  have E1 := Lib.hid (K1.toExt E0 (fun k h => by omega))
  have RR := Lib.hid R1
  simp only [Nat.zero_mul, Nat.sub_zero] at hc
  clear hp hpb c0 c1 c2 c3 d0 d1 d2 d3 R0 R1 K1
  go_enter Try.func44, Try.ntmps44
  go_wp2_with fail
  refine (mul_one n hn2 _).mono ?_
  rintro e w2 ⟨rfl, rfl⟩
  go_wp2
  have HQ := Lib.hid hq
  clear hwq hq hc hbs
  go_loopw [8] (fun t8 wr => ∃ m : Nat, 1 ≤ m ∧ m ≤ n ∧ t8 = .int .i64 (m : Int) ∧ Hid (Rep wr q n m (r, g, u, a) ∧ Ext w2 wr)) (fun t8 _ => n - (intOf t8).toNat)
  case atStart => exact ⟨1, by omega, by omega, rfl, Lib.hid ⟨RR.out, E1.out⟩⟩
  case round =>
    obtain ⟨m, hm1, hm2, rfl, ST⟩ := hrel
    by_cases hlt : m < n
    · have hlt' : (m : Int) < (n : Int) := by omega
      obtain ⟨k, hk⟩ : ∃ k, Nat.min m (n - m) = k := ⟨_, rfl⟩
      obtain ⟨w3, hc, R3, K3⟩ := (show Rep wr.drew q n m (r, g, u, a) from ST.out.1).dup (dCap := n - m) (sCap := n) hk hm2
      have E3 := Lib.hid (K3.toExt (ST.out.2.trans (Ext.drew wr)) (fun x h => by have := HQ.out; omega))
      have RR3 := Lib.hid R3
      have hk1 : 1 ≤ k ∧ m + k ≤ n := by have h9 : k = min m (n - m) := hk.symm; omega
      have hnm : ¬ n = m := by omega
      have hkw : IntKind.i64.wrap ((m : Int) + (k : Int)) = ((m + k : Nat) : Int) := by rw [IntKind.wrap_i64]; omega
      clear hk R3 K3
      go_wp2
      go_region_law (refine step_copy rfl _ _ 22 22 rfl (.slice (some ⟨q, m * 4, none⟩) (n - m) (n - m)) (.slice (some ⟨q, 0, none⟩) m n) (by simp [Act.eval, Act.put]) (by simp [Act.eval, Act.put]) (hc _) ?_)
      simp [Act.put, Act.eval, hkw, goInt]
      go_roundw
      case rel =>
        refine ⟨_, _, _, _, _, _, _, _, _, _, _, _, _, _, ?_, rfl⟩
        exact ⟨m + k, by omega, by omega, by go_num, Lib.hid ⟨RR3.out, E3.out⟩⟩
      case measure => simp [intOf]; omega
    · have hlt' : ¬ (m : Int) < (n : Int) := by omega
      obtain rfl : m = n := by omega
      have RO := Lib.hid (ST.out.1.own (base := w2.heap.size) (by have := HQ.out; omega) (by omega) PB.out)
      have EO := Lib.hid ST.out.2
      go_wp2
      go_ret
      exact ⟨q, rfl, RO.out, EO.out⟩

end Go.Proofs.Ytncphiphgkjflaa
