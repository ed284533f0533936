
import Derived.Test.YtncphiphgkjflaaIFillW
namespace Go.Proofs.Ytncphiphgkjflaa
open Go.RowKit Go.Shelf
set_option linter.unusedVariables false
set_option linter.unusedSimpArgs false

/-- points: x, y -/
def cellsQ (q : Nat × Nat) : List Value := [.int .i64 (q.1 : Int), .int .i64 (q.2 : Int)]
def OwnQ (base : Nat) (w : World) (v : Value) (l : List (Nat × Nat)) : Prop := w.ownsRow base 28 2 v l.length (l.flatMap cellsQ)

theorem flatQ (l : List (Nat × Nat)) : ∀ (i j : Nat), i < l.length → j < 2 → (l.flatMap cellsQ)[i * 2 + j]? = (cellsQ (l.getD i (0, 0)))[j]? := by
  induction l with
  | nil => intro i j h; simp at h
  | cons x l ih =>
    intro i j h hj
    cases i with
    | zero => rw [List.flatMap_cons, List.getElem?_append_left (by simp [cellsQ]; omega)]; simp
    | succ i =>
      rw [List.flatMap_cons, List.getElem?_append_right (by simp [cellsQ]; omega)]
      have := ih i j (by simpa using h) hj
      rw [show (x :: l).getD (i + 1) (0, 0) = l.getD i (0, 0) by simp, ← this]
      congr 1
      simp [cellsQ]
      omega

theorem flatQ_len (l : List (Nat × Nat)) : (l.flatMap cellsQ).length = l.length * 2 := by
  induction l with
  | nil => rfl
  | cons x l ih => rw [List.flatMap_cons, List.length_append, ih]; simp [cellsQ]; omega

theorem OwnQ.ext {base : Nat} {w w' : World} {v : Value} {l : List (Nat × Nat)} (h : OwnQ base w v l) (he : Ext w w') : OwnQ base w' v l := row_ext h he
theorem OwnQ.row {base : Nat} {w : World} {v : Value} {l : List (Nat × Nat)} (h : OwnQ base w v l) : ∀ k, v.ownBlock = some k → base ≤ k := fun k hk => (h.lt k hk).1
theorem OwnQ.nil (base : Nat) (w : World) : OwnQ base w (.slice none 0 0) [] := World.ownsRow_nil w base _ 2

/-- points in memory -/
def Pts (w : World) (v : Value) (l : List (Nat × Nat)) : Prop :=
  ∃ (A : Option Addr) (cap : Nat), v = .slice A l.length cap ∧ l.length ≤ cap ∧ cap ≤ 9223372036854775807 ∧
    (0 < l.length → ∃ b, A = some ⟨b, 0, none⟩ ∧ b < w.heap.size ∧ ∀ i, i < l.length → w.cell? ⟨b, i * 2, none⟩ = some (.int .i64 ((l.getD i (0, 0)).1 : Int)) ∧ w.cell? ⟨b, i * 2 + 1, none⟩ = some (.int .i64 ((l.getD i (0, 0)).2 : Int)))

theorem Pts.ext {w w' : World} {v : Value} {l : List (Nat × Nat)} (h : Pts w v l) (he : Ext w w') : Pts w' v l := by
  obtain ⟨A, cap, h1, h2, h3, h6⟩ := h
  refine ⟨A, cap, h1, h2, h3, fun hn => ?_⟩
  obtain ⟨b, e1, e2, e3⟩ := h6 hn
  exact ⟨b, e1, Nat.lt_of_lt_of_le e2 he.size, fun i hi => by rw [he.cell e2, he.cell e2]; exact e3 i hi⟩

theorem OwnQ.pts {base : Nat} {w : World} {v : Value} {l : List (Nat × Nat)} (h : OwnQ base w v l) : Pts w v l := by
  have hh : w.ownsRow base 28 2 v l.length (l.flatMap cellsQ) := h
  rcases h.2 with ⟨h', h0⟩ | ⟨g, cap, cur, h', _, hg, hn, hm, hs, htake⟩
  · exact ⟨none, 0, by rw [h', h0], by omega, by omega, fun h => by omega⟩
  · subst h'
    refine ⟨_, cap, rfl, hn, hm, fun _ => ⟨g, rfl, (Array.getElem?_eq_some_iff.1 hg).1, fun i hi => ?_⟩⟩
    have c0 := hh.cellAt (i * 2 + 0) (by omega)
    have c1 := hh.cellAt (i * 2 + 1) (by omega)
    rw [flatQ l i 0 hi (by omega)] at c0
    rw [flatQ l i 1 hi (by omega)] at c1
    exact ⟨c0, c1⟩

theorem infoQ : (Try.prog.info? 28).map (fun i => (i.zero, i.size, i.bytes)) = some (some (.agg #[.int .i64 0, .int .i64 0]), 2, 16) := by kernel_rfl

/-- one point put behind points of the call's own -/
theorem wpList_pt {base : Nat} {w : World} {v : Value} {l : List (Nat × Nat)} {g : Nat} {q : Nat × Nat} {ops : Array Oper} {rest : List Oper} {o : Oper} {a : Act} {Q : Exit → Act → World → Prop} (hgd : o.guard = none) (s y : Operand)
    (ho : o.op = .call { callee := .builtin .append, args := #[s, y], argTypes := #[55, 55] }) (hs : a.eval s = v) (hy : a.eval y = .slice (some ⟨g, 0, none⟩) 1 1)
    (hv : OwnQ base w v l) (h0 : w.cell? ⟨g, 0, none⟩ = some (.int .i64 (q.1 : Int))) (h1 : w.cell? ⟨g, 1, none⟩ = some (.int .i64 (q.2 : Int))) (hlen : l.length ≤ 1000000) (hbase : base ≤ w.heap.size)
    (h : ∀ v' w', OwnQ base w' v' (l ++ [q]) → w.grownBy w' v.ownBlock → wpList Try.prog ops Q rest (a.put o.dst v') w') : wpList Try.prog ops Q (o :: rest) a w := by
  refine wpList_plain hgd fun K hK => ?_
  obtain ⟨i0, hi, hz0, hz1, hz2⟩ := info_parts infoQ
  obtain ⟨v', w', hr, hO, hg, _, _⟩ := run_append_own_at (P := Try.prog) w base 55 o.type 28 i0 _ 2 i0.bytes Try.underlying55 hi hz0 hz1 rfl rfl (by decide) _ l.length _ hv ⟨g, 0, none⟩ 1 1 (cellsQ q) rfl
    (fun j u hj => by
      match j with
      | 0 => simp [cellsQ] at hj; subst hj; exact h0
      | 1 => simp [cellsQ] at hj; subst hj; exact h1
      | j + 2 => simp [cellsQ] at hj)
    (by intro u hu; simp [cellsQ] at hu; rcases hu with rfl | rfl <;> rfl) (by unfold maxLen; omega) (by have := Nat.mul_le_mul (show l.length + 1 ≤ 1000001 by omega) (show i0.bytes ≤ 16 by omega); omega) hbase
  have hO' : OwnQ base w' v' (l ++ [q]) := by
    unfold OwnQ
    rw [List.flatMap_append, List.length_append]
    simpa using hO
  unfold Oper.wp execOp
  simp only [ho, resolve, invoke, builtin, Sem.run_bind, Sem.run_pure, Result.andThen_ok, List.map_toArray, List.map_cons, List.map_nil, hs, hy, hr]
  exact hK _ _ (h v' w' hO' hg)

def emptyB (a : Int × Int × Int × Int) : Bool := decide (a.2.2.1 ≤ a.1) || decide (a.2.2.2 ≤ a.2.1)
def joinB (a b : Int × Int × Int × Int) : Int × Int × Int × Int :=
  if emptyB a then (if emptyB b then (0, 0, 0, 0) else b) else if emptyB b then a else (min a.1 b.1, min a.2.1 b.2.1, max a.2.2.1 b.2.2.1, max a.2.2.2 b.2.2.2)

set_option maxHeartbeats 1600000 in
theorem join_any (a0 b0 a1 b1 c0 d0 c1 d1 : Int) (w : World) :
    Calls Try.prog 42 #[.agg #[.int .i64 a0, .int .i64 b0, .int .i64 a1, .int .i64 b1], .agg #[.int .i64 c0, .int .i64 d0, .int .i64 c1, .int .i64 d1]] w fun e w' =>
      e = .returned (boxV (joinB (a0, b0, a1, b1) (c0, d0, c1, d1))) ∧ Ext w w' := by
  have C1 := Lib.hid (fun wx => emptyBox_any a0 b0 a1 b1 wx)
  have C2 := Lib.hid (fun wx => emptyBox_any c0 d0 c1 d1 wx)
  cases h1 : (decide (a1 ≤ a0) || decide (b1 ≤ b0)) with
  | true =>
    rw [h1] at C1
    cases h2 : (decide (c1 ≤ c0) || decide (d1 ≤ d0)) with
    | true =>
      rw [h2] at C2
      have hm : boxV (joinB (a0, b0, a1, b1) (c0, d0, c1, d1)) = .agg #[.int .i64 0, .int .i64 0, .int .i64 0, .int .i64 0] := by unfold joinB emptyB; simp only [h1, h2, if_true]; rfl
      rw [hm]
      clear h1 h2 hm
      go_enter Try.func42, Try.ntmps42
      go_wp2_with fail
      refine (C1.out _).mono ?_
      rintro e w1 ⟨rfl, g1, rfl⟩
      go_wp2_with fail
      refine (C2.out _).mono ?_
      rintro e w1 ⟨rfl, g2, rfl⟩
      go_wp2
      refine bodyPost_ret (v := .agg #[.int .i64 0, .int .i64 0, .int .i64 0, .int .i64 0]) (by simp [results, Try.results42, go_sem]) rfl ⟨rfl, ?_⟩
      (repeat (first | exact Ext.refl _ | apply Ext.alloc | apply Ext.ext | (refine Ext.setCell ?_ (by simp) _)))
    | false =>
      rw [h2] at C2
      have hm : boxV (joinB (a0, b0, a1, b1) (c0, d0, c1, d1)) = .agg #[.int .i64 c0, .int .i64 d0, .int .i64 c1, .int .i64 d1] := by unfold joinB emptyB; simp only [h1, h2, if_true, Bool.false_eq_true, if_false]; rfl
      rw [hm]
      clear h1 h2 hm
      go_enter Try.func42, Try.ntmps42
      go_wp2_with fail
      refine (C1.out _).mono ?_
      rintro e w1 ⟨rfl, g1, rfl⟩
      go_wp2_with fail
      refine (C2.out _).mono ?_
      rintro e w1 ⟨rfl, g2, rfl⟩
      go_wp2_with fail
      refine (C1.out _).mono ?_
      rintro e w1 ⟨rfl, g3, rfl⟩
      go_wp2
      refine bodyPost_ret (v := .agg #[.int .i64 c0, .int .i64 d0, .int .i64 c1, .int .i64 d1]) (by simp [results, Try.results42, go_sem]) rfl ⟨rfl, ?_⟩
      (repeat (first | exact Ext.refl _ | apply Ext.alloc | apply Ext.ext | (refine Ext.setCell ?_ (by simp) _)))
  | false =>
    rw [h1] at C1
    cases h2 : (decide (c1 ≤ c0) || decide (d1 ≤ d0)) with
    | true =>
      rw [h2] at C2
      have hm : boxV (joinB (a0, b0, a1, b1) (c0, d0, c1, d1)) = .agg #[.int .i64 a0, .int .i64 b0, .int .i64 a1, .int .i64 b1] := by unfold joinB emptyB; simp only [h1, h2, if_true, Bool.false_eq_true, if_false]; rfl
      rw [hm]
      clear h1 h2 hm
      go_enter Try.func42, Try.ntmps42
      go_wp2_with fail
      refine (C1.out _).mono ?_
      rintro e w1 ⟨rfl, g1, rfl⟩
      go_wp2_with fail
      refine (C1.out _).mono ?_
      rintro e w1 ⟨rfl, g2, rfl⟩
      go_wp2_with fail
      refine (C2.out _).mono ?_
      rintro e w1 ⟨rfl, g3, rfl⟩
      go_wp2
      refine bodyPost_ret (v := .agg #[.int .i64 a0, .int .i64 b0, .int .i64 a1, .int .i64 b1]) (by simp [results, Try.results42, go_sem]) rfl ⟨rfl, ?_⟩
      (repeat (first | exact Ext.refl _ | apply Ext.alloc | apply Ext.ext | (refine Ext.setCell ?_ (by simp) _)))
    | false =>
      rw [h2] at C2
      have hm : boxV (joinB (a0, b0, a1, b1) (c0, d0, c1, d1)) = .agg #[.int .i64 (min a0 c0), .int .i64 (min b0 d0), .int .i64 (max a1 c1), .int .i64 (max b1 d1)] := by unfold joinB emptyB; simp only [h1, h2, Bool.false_eq_true, if_false]; rfl
      rw [hm]
      clear h1 h2 hm
      go_enter Try.func42, Try.ntmps42
      go_wp2_with fail
      refine (C1.out _).mono ?_
      rintro e w1 ⟨rfl, g1, rfl⟩
      go_wp2_with fail
      refine (C1.out _).mono ?_
      rintro e w1 ⟨rfl, g2, rfl⟩
      go_wp2_with fail
      refine (C2.out _).mono ?_
      rintro e w1 ⟨rfl, g3, rfl⟩
      go_wp2
      refine bodyPost_ret (v := .agg #[.int .i64 (min a0 c0), .int .i64 (min b0 d0), .int .i64 (max a1 c1), .int .i64 (max b1 d1)]) (by simp [results, Try.results42, go_sem]) rfl ⟨rfl, ?_⟩
      (repeat (first | exact Ext.refl _ | apply Ext.alloc | apply Ext.ext | (refine Ext.setCell ?_ (by simp) _)))

def boundF (l : List (Nat × Nat)) : Int × Int × Int × Int := l.foldl (fun b q => joinB b ((q.1 : Int), (q.2 : Int), (q.1 : Int) + 1, (q.2 : Int) + 1)) (0, 0, 0, 0)

set_option maxRecDepth 100000 in
set_option maxHeartbeats 1600000 in
theorem bound_any (v : Value) (l : List (Nat × Nat)) (w : World) (hl : Pts w v l) (hb : ∀ i, (l.getD i (0, 0)).1 ≤ 1000000 ∧ (l.getD i (0, 0)).2 ≤ 1000000) :
    Calls Try.prog 24 #[v] w fun e w' => e = .returned (boxV (boundF l)) ∧ Ext w w' := by
  have P := Lib.hid hl
  have HB := Lib.hid hb
  obtain ⟨X, c, rfl, hc1, hc2, _⟩ := hl
  obtain ⟨N, hN⟩ : ∃ N, l.length = N := ⟨_, rfl⟩
  rw [hN] at P hc1
  rw [hN]
  have HN := Lib.hid hN
  clear hN hb
  have F1 : Hid (∀ wr, Ext (w.alloc (.cells #[.int .i64 0, .int .i64 0, .int .i64 0, .int .i64 0] 26)) wr → wr.cell? ⟨w.heap.size, 0, none⟩ = some (.int .i64 0) ∧ wr.cell? ⟨w.heap.size, 1, none⟩ = some (.int .i64 0) ∧ wr.cell? ⟨w.heap.size, 2, none⟩ = some (.int .i64 0) ∧ wr.cell? ⟨w.heap.size, 3, none⟩ = some (.int .i64 0) ∧ (∀ j, wr.frozen? ⟨w.heap.size, j, none⟩ = false) ∧ Ext w wr) := Lib.hid (fun wr hx => by
    have hb : w.heap.size < (w.alloc (.cells #[.int .i64 0, .int .i64 0, .int .i64 0, .int .i64 0] 26)).heap.size := by simp
    refine ⟨(hx.cell hb).trans ?_, (hx.cell hb).trans ?_, (hx.cell hb).trans ?_, (hx.cell hb).trans ?_, fun j => (hx.frozen hb).trans ?_, ((Ext.refl w).alloc _).trans hx⟩
    all_goals simp [go_sem])
  go_enter Try.func24, Try.ntmps24
  go_wp2
  go_loopw [8] (fun t8 wr => ∃ (i : Nat) (a0 b0 a1 b1 : Int), i ≤ N ∧ t8 = .int .i64 (i : Int) ∧ (wr.cell? ⟨w.heap.size + 1, 0, none⟩ = some (.int .i64 a0) ∧ wr.cell? ⟨w.heap.size + 1, 1, none⟩ = some (.int .i64 b0) ∧ wr.cell? ⟨w.heap.size + 1, 2, none⟩ = some (.int .i64 a1) ∧ wr.cell? ⟨w.heap.size + 1, 3, none⟩ = some (.int .i64 b1) ∧ (∀ j, wr.frozen? ⟨w.heap.size + 1, j, none⟩ = false)) ∧
     Hid (w.heap.size + 1 < wr.heap.size ∧ Ext (w.alloc (.cells #[.int .i64 0, .int .i64 0, .int .i64 0, .int .i64 0] 26)) wr ∧ boundF (l.take i) = (a0, b0, a1, b1))) (fun t8 _ => N - (intOf t8).toNat)
  case atStart =>
    refine ⟨0, 0, 0, 0, 0, by omega, rfl, ⟨by simp [go_sem], by simp [go_sem], by simp [go_sem], by simp [go_sem], fun j => by simp [go_sem]⟩, Lib.hid ⟨by simp, (Ext.refl _).alloc _, rfl⟩⟩
  case round =>
    obtain ⟨i, a0, b0, a1, b1, hi, rfl, ⟨k0, k1, k2, k3, kf⟩, ST⟩ := hrel
    have hsz := ST.out.1
    obtain ⟨y0, y1, y2, y3, yf, hE⟩ := F1.out _ ST.out.2.1
    have E := Lib.hid hE
    clear hE
    by_cases hlt : i < N
    · have hlt' : (i : Int) < (N : Int) := by omega
      obtain ⟨x, y, hxy⟩ : ∃ x y, l.getD i (0, 0) = (x, y) := ⟨_, _, rfl⟩
      have hbd := HB.out i
      rw [hxy] at hbd
      obtain ⟨hx, hy⟩ := hbd
      obtain ⟨A', cc, e, _, _, hc⟩ := P.out.ext E.out
      simp only [Value.slice.injEq] at e
      obtain ⟨rfl, -, -⟩ := e
      obtain ⟨b, rfl, hbs, hcell⟩ := hc (by have := HN.out; omega)
      obtain ⟨c0, c1⟩ := hcell i (by have := HN.out; omega)
      rw [hxy] at c0 c1
      simp only at hx hy c0 c1
      have HT : Hid (boundF (l.take (i + 1)) = joinB (a0, b0, a1, b1) ((x : Int), (y : Int), (x : Int) + 1, (y : Int) + 1)) := Lib.hid (by
        rw [take_succ_getD l i (0, 0) (by have := HN.out; omega), hxy]
        unfold boundF
        rw [List.foldl_append]
        have := ST.out.2.2
        unfold boundF at this
        rw [this]; rfl)
      obtain ⟨⟨a2, b2, a3, b3⟩, hj⟩ : ∃ j, joinB (a0, b0, a1, b1) ((x : Int), (y : Int), (x : Int) + 1, (y : Int) + 1) = j := ⟨_, rfl⟩
      have JN := Lib.hid (fun wx => join_any a0 b0 a1 b1 (x : Int) (y : Int) ((x : Int) + 1) ((y : Int) + 1) wx)
      rw [hj] at JN HT
      simp only [boxV] at JN
      clear hcell hc hj hxy y0 y1 y2 y3 yf
      go_wp2_with fail
      refine (JN.out _).mono ?_
      rintro e w9 ⟨rfl, hE9⟩
      have H9 : Ext wr w9 := ((Ext.refl wr).alloc _).trans hE9
      have S9 := Lib.hid (And.intro (Nat.lt_of_lt_of_le hsz H9.size) (ST.out.2.1.trans H9))
      replace k0 := (H9.cell hsz).trans k0
      replace k1 := (H9.cell hsz).trans k1
      replace k2 := (H9.cell hsz).trans k2
      replace k3 := (H9.cell hsz).trans k3
      replace kf := fun j => (H9.frozen (i := j) hsz).trans (kf j)
      clear hE9 H9 c0 c1 hsz
      go_wp2
      go_roundw
      case rel =>
        refine ⟨i + 1, a2, b2, a3, b3, by omega, by go_num, ⟨by simp [go_sem, k0], by simp [go_sem, k1], by simp [go_sem, k2], by simp [go_sem, k3], fun j => by simp [go_sem, kf]⟩, Lib.hid ⟨by simpa [World.setCell] using S9.out.1, ?_, HT.out⟩⟩
        exact ((((S9.out.2.setCell (by simp) _).setCell (by simp) _).setCell (by simp) _).setCell (by simp) _)
      case measure => simp [intOf]; omega
    · have hlt' : ¬ (i : Int) < (N : Int) := by omega
      have hfull : l.take i = l := List.take_of_length_le (by have := HN.out; omega)
      have HF : Hid (boundF l = (a0, b0, a1, b1)) := Lib.hid (by have := ST.out.2.2; rwa [hfull] at this)
      clear hfull
      go_wp2
      refine bodyPost_ret (v := .agg #[.int .i64 a0, .int .i64 b0, .int .i64 a1, .int .i64 b1]) (by simp [results, Try.results24, go_sem, y0, y1, y2, y3, yf]) rfl ⟨by rw [HF.out]; rfl, ?_⟩
      exact ((((E.out.setCell (by simp) _).setCell (by simp) _).setCell (by simp) _).setCell (by simp) _)

end Go.Proofs.Ytncphiphgkjflaa
