import Derived.Test.YtblfplkocljlgaaTImgB
namespace Go.Proofs.Ytblfplkocljlgaa
open Go.RowKit
set_option linter.unusedVariables false
set_option linter.unusedSimpArgs false

/-- where a tile is -/
abbrev KK := Int × Int
def inK (k : KK) : Prop := -9223372036854775808 ≤ k.1 ∧ k.1 ≤ 9223372036854775807 ∧ -9223372036854775808 ≤ k.2 ∧ k.2 ≤ 9223372036854775807
def cellsK (k : KK) : List Value := [.int .i64 k.1, .int .i64 k.2]
def keyV (k : KK) : Value := .agg #[.int .i64 k.1, .int .i64 k.2]
def noK : KK := (0, 0)
def rightK (k : KK) : Bool := decide (-524288 ≤ k.1 ∧ k.1 ≤ 524287 ∧ -524288 ≤ k.2 ∧ k.2 ≤ 524287)

/-- a slice of keys, in memory -/
def Kys (w : World) (v : Value) (l : List KK) : Prop :=
  ∃ (A : Option Addr) (cap : Nat), v = .slice A l.length cap ∧ l.length ≤ cap ∧ cap ≤ 9223372036854775807 ∧ (A = none → cap = 0) ∧ (∀ i, inK (l.getD i noK)) ∧
    (0 < l.length → ∃ b off, A = some ⟨b, off, none⟩ ∧ b < w.heap.size ∧ ∀ i, i < l.length → ∀ j, j < 2 → w.cell? ⟨b, off + (i * 2 + j), none⟩ = (cellsK (l.getD i noK))[j]?)

theorem Kys.ext {w w' : World} {v : Value} {l : List KK} (h : Kys w v l) (he : Ext w w') : Kys w' v l := by
  obtain ⟨A, cap, h1, h2, h3, h4, h5, h6⟩ := h
  refine ⟨A, cap, h1, h2, h3, h4, h5, fun hn => ?_⟩
  obtain ⟨b, off, e1, e2, e3⟩ := h6 hn
  exact ⟨b, off, e1, Nat.lt_of_lt_of_le e2 he.size, fun i hi j hj => by rw [he.cell e2]; exact e3 i hi j hj⟩

theorem Kys.len {w : World} {A : Option Addr} {n c : Nat} {l : List KK} (h : Kys w (.slice A n c) l) : n = l.length := by
  obtain ⟨_, _, e, _⟩ := h
  simp only [Value.slice.injEq] at e
  exact e.2.1

theorem Kys.nil (w : World) : Kys w (.slice none 0 0) [] := ⟨none, 0, rfl, Nat.le_refl _, by omega, fun _ => rfl, fun i => by simp [inK, noK], fun h => by simp at h⟩

/-- one key, cell by cell -/
theorem Kys.at {w : World} {A : Option Addr} {n c : Nat} {l : List KK} (h : Kys w (.slice A n c) l) {i : Nat} (hi : i < n) :
    ∃ b off x y, A = some ⟨b, off, none⟩ ∧ b < w.heap.size ∧ l.getD i noK = (x, y) ∧ inK (x, y) ∧
      w.cell? ⟨b, off + i * 2, none⟩ = some (.int .i64 x) ∧ w.cell? ⟨b, off + (i * 2 + 1), none⟩ = some (.int .i64 y) := by
  have hn := h.len
  obtain ⟨A', cap, e, _, _, _, hb, hc⟩ := h
  simp only [Value.slice.injEq] at e
  obtain ⟨rfl, _, _⟩ := e
  obtain ⟨b, off, e1, e2, e3⟩ := hc (by omega)
  have hi' : i < l.length := by omega
  have e4 := e3 i hi'
  have e5 := hb i
  obtain ⟨⟨x, y⟩, hp⟩ : ∃ p, l.getD i noK = p := ⟨_, rfl⟩
  rw [hp] at e4 e5
  exact ⟨b, off, x, y, e1, e2, hp, e5, by simpa [cellsK] using e4 0 (by omega), by simpa [cellsK] using e4 1 (by omega)⟩

/-- keys of the call's own -/
def OwnK (T : TypeId) (base : Nat) (w : World) (v : Value) (l : List KK) : Prop :=
  w.ownsRow base T 2 v l.length (l.flatMap cellsK) ∧ ∀ i, inK (l.getD i noK)

theorem OwnK.nil (T : TypeId) (base : Nat) (w : World) : OwnK T base w (.slice none 0 0) [] := ⟨World.ownsRow_nil w base T 2, fun i => by simp [inK, noK]⟩
theorem OwnK.ext {T : TypeId} {base : Nat} {w w' : World} {v : Value} {l : List KK} (h : OwnK T base w v l) (he : Ext w w') : OwnK T base w' v l := ⟨row_ext h.1 he, h.2⟩
theorem OwnK.row {T : TypeId} {base : Nat} {w : World} {v : Value} {l : List KK} (h : OwnK T base w v l) : ∀ k, v.ownBlock = some k → base ≤ k := fun k hk => (h.1.lt k hk).1
theorem OwnK.mono {T : TypeId} {b b' : Nat} {w : World} {v : Value} {l : List KK} (h : OwnK T b w v l) (hb : b' ≤ b) : OwnK T b' w v l := ⟨row_mono h.1 hb, h.2⟩

theorem flat2 : ∀ (l : List KK) (i j : Nat), i < l.length → j < 2 → (l.flatMap cellsK)[i * 2 + j]? = (cellsK (l.getD i noK))[j]? := by
  intro l
  induction l with
  | nil => intro i j h; simp at h
  | cons x l ih =>
    intro i j h hj
    cases i with
    | zero => rw [List.flatMap_cons, List.getElem?_append_left (by simp [cellsK]; omega)]; simp
    | succ i =>
      rw [List.flatMap_cons, List.getElem?_append_right (by simp [cellsK]; omega)]
      have := ih i j (by simpa using h) hj
      rw [show (x :: l).getD (i + 1) noK = l.getD i noK by simp, ← this]
      congr 1
      simp [cellsK]
      omega

theorem flat2_len (l : List KK) : (l.flatMap cellsK).length = l.length * 2 := by
  induction l with
  | nil => rfl
  | cons x l ih => rw [List.flatMap_cons, List.length_append, ih]; simp [cellsK]; omega

theorem OwnK.kys {T : TypeId} {base : Nat} {w : World} {v : Value} {l : List KK} (h : OwnK T base w v l) : Kys w v l := by
  obtain ⟨h, hb⟩ := h
  have hh := h
  rcases h.2 with ⟨h', h0⟩ | ⟨g, cap, cur, h', _, hg, hn, hm, hs, htake⟩
  · exact ⟨none, 0, by rw [h', h0], by omega, by omega, fun _ => rfl, hb, fun h => by omega⟩
  · subst h'
    refine ⟨_, cap, rfl, hn, hm, (fun h => by cases h), hb, fun _ => ⟨g, 0, rfl, (Array.getElem?_eq_some_iff.1 hg).1, fun i hi j hj => ?_⟩⟩
    rw [Nat.zero_add, hh.cellAt _ (by omega)]
    exact flat2 l i j hi hj

theorem getD_inK {l m : List KK} (hl : ∀ i, inK (l.getD i noK)) (hm : ∀ i, inK (m.getD i noK)) (i : Nat) : inK ((l ++ m).getD i noK) := by
  rw [List.getD_eq_getElem?_getD, List.getElem?_append]
  split
  · have := hl i; rwa [List.getD_eq_getElem?_getD] at this
  · have := hm (i - l.length); rwa [List.getD_eq_getElem?_getD] at this

/-- what a slice type of keys and its element type are -/
structure KyT (S T : TypeId) : Prop where
  und : Try.prog.underlying S = some (.slice T)
  info : ∃ i : TypeInfo, Try.prog.info? T = some i ∧ (∃ z, i.zero = some z ∧ z.cells.size = 2) ∧ i.size = 2 ∧ i.bytes ≤ 32

theorem infoKey : (Try.prog.info? 23).map (fun i => (i.zero, i.size, i.bytes)) = some (some (.agg #[.int .i64 0, .int .i64 0]), 2, 16) := by kernel_rfl
theorem infoRKey : (Try.prog.info? 28).map (fun i => (i.zero, i.size, i.bytes)) = some (some (.agg #[.int .i64 0, .int .i64 0]), 2, 16) := by kernel_rfl
theorem kyK : KyT 33 23 := by
  obtain ⟨i0, hi, hz0, hz1, hz2⟩ := info_parts infoKey
  exact ⟨Try.underlying33, i0, hi, ⟨_, hz0, rfl⟩, hz1, by omega⟩
theorem kyR : KyT 58 28 := by
  obtain ⟨i0, hi, hz0, hz1, hz2⟩ := info_parts infoRKey
  exact ⟨Try.underlying58, i0, hi, ⟨_, hz0, rfl⟩, hz1, by omega⟩

/-- keys put behind keys of the call's own -/
theorem run_kys {S T : TypeId} (ht : KyT S T) {base : Nat} {w : World} {v : Value} {l m : List KK} {x : Value} (ty : TypeId) (hv : OwnK T base w v l) (hx : Kys w x m) (hlen : l.length + m.length ≤ 1000000) (hbase : base ≤ w.heap.size) :
    ∃ v' w', (Builtin.append_ #[S, S] ty #[v, x]).run Try.prog w = .ok v' w' ∧ OwnK T base w' v' (l ++ m) ∧ w.grownBy w' v.ownBlock ∧ (v'.ownBlock = v.ownBlock ∨ v'.ownBlock = some w.heap.size) := by
  obtain ⟨hv, hb⟩ := hv
  obtain ⟨X, c, rfl, h2, h3, h4, h5, h6⟩ := hx
  obtain ⟨und, i0, hi, ⟨z, hz0, hz⟩, hz1, hz2⟩ := ht
  cases X with
  | none =>
    have hc := h4 rfl
    subst hc
    have hm : m = [] := List.eq_nil_of_length_eq_zero (by omega)
    subst hm
    obtain ⟨A, cap, rfl⟩ := own_slice hv
    have hr := run_append_owned_none (P := Try.prog) (w := w) base S ty T i0 2 und hi _ l.length _ hv
    exact ⟨_, w, hr, ⟨by simpa using hv, by simpa using hb⟩, ⟨rfl, rfl, rfl, Nat.le_refl _, fun _ _ _ => rfl⟩, .inl rfl⟩
  | some a =>
    have hcells : ∀ j u, (m.flatMap cellsK)[j]? = some u → w.cell? (a.add j) = some u := by
      intro j u hj
      have hj1 : j < m.length * 2 := by have := (List.getElem?_eq_some_iff.1 hj).1; rwa [flat2_len] at this
      obtain ⟨b, off, e1, e2, e3⟩ := h6 (by omega)
      simp only [Option.some.injEq] at e1
      subst e1
      have e4 := e3 (j / 2) (by omega) (j % 2) (by omega)
      rw [← flat2 m (j / 2) (j % 2) (by omega) (by omega), show j / 2 * 2 + j % 2 = j by omega] at e4
      rw [show (⟨b, off, none⟩ : Addr).add j = ⟨b, off + j, none⟩ by unfold Addr.add; split <;> simp_all]
      rw [e4, hj]
    obtain ⟨v', w', hr, ho, hg, _, h5'⟩ := run_append_own_at (P := Try.prog) w base S ty T i0 z 2 i0.bytes und hi hz0 hz1 rfl hz (by decide) _ l.length _ hv a m.length c (m.flatMap cellsK) (flat2_len m) hcells
      (by intro u hu; obtain ⟨y, _, hy⟩ := List.mem_flatMap.1 hu; simp [cellsK] at hy; rcases hy with rfl | rfl <;> rfl) (by unfold maxLen; omega) (by
        have := Nat.mul_le_mul hlen hz2
        omega) hbase
    rw [← List.flatMap_append, ← List.length_append] at ho
    exact ⟨v', w', hr, ⟨ho, getD_inK hb h5⟩, hg, h5'⟩

/-- one key in a block of its own -/
theorem ky_one {w : World} {g : Nat} {p : KK} (hg : g < w.heap.size) (hb : inK p) (h : ∀ j, j < 2 → w.cell? ⟨g, j, none⟩ = (cellsK p)[j]?) : Kys w (.slice (some ⟨g, 0, none⟩) 1 1) [p] :=
  ⟨_, 1, rfl, by simp, by omega, (fun h => by cases h), fun i => by
    match i with
    | 0 => simpa using hb
    | i + 1 => simp [inK, noK], fun _ => ⟨g, 0, rfl, hg, fun i hi j hj => by
    obtain rfl : i = 0 := by simpa using hi
    rw [Nat.zero_add, Nat.zero_mul, Nat.zero_add, h j hj]; rfl⟩⟩

theorem wpList_kys {S T : TypeId} (ht : KyT S T) {base : Nat} {w : World} {v : Value} {l m : List KK} {x : Value} {ops : Array Oper} {rest : List Oper} {o : Oper} {a : Act} {Q : Exit → Act → World → Prop} (hgd : o.guard = none) (s y : Operand)
    (ho : o.op = .call { callee := .builtin .append, args := #[s, y], argTypes := #[S, S] }) (hs : a.eval s = v) (hy : a.eval y = x)
    (hv : OwnK T base w v l) (hx : Kys w x m) (hlen : l.length + m.length ≤ 1000000) (hbase : base ≤ w.heap.size)
    (h : ∀ v' w', OwnK T base w' v' (l ++ m) → w.grownBy w' v.ownBlock → (v'.ownBlock = v.ownBlock ∨ v'.ownBlock = some w.heap.size) → wpList Try.prog ops Q rest (a.put o.dst v') w') : wpList Try.prog ops Q (o :: rest) a w := by
  refine wpList_plain hgd fun K hK => ?_
  obtain ⟨v', w', hr, h1, h2, h3⟩ := run_kys ht o.type hv hx hlen hbase
  unfold Oper.wp execOp
  simp only [ho, resolve, invoke, builtin, Sem.run_bind, Sem.run_pure, Result.andThen_ok, List.map_toArray, List.map_cons, List.map_nil, hs, hy, hr]
  exact hK _ _ (h v' w' h1 h2 h3)

/-- at a step of a region that draws -/
theorem step_kys {S T : TypeId} (ht : KyT S T) {base : Nat} {w : World} {v : Value} {l m : List KK} {x : Value} {ops : Array Oper} {o : Oper} {a : Act} {K : Act → World → Prop} {Q : Exit → Act → World → Prop} {E : Prop} (hgd : o.guard = none) (s y : Operand)
    (ho : o.op = .call { callee := .builtin .append, args := #[s, y], argTypes := #[S, S] }) (hs : a.eval s = v) (hy : a.eval y = x)
    (hv : OwnK T base w v l) (hx : Kys w x m) (hlen : l.length + m.length ≤ 1000000) (hbase : base ≤ w.heap.size)
    (h : ∀ v' w', OwnK T base w' v' (l ++ m) → w.grownBy w' v.ownBlock → (v'.ownBlock = v.ownBlock ∨ v'.ownBlock = some w.heap.size) → K (a.put o.dst v') w') :
    if Region.wanted o (yielded ops a.tmps) = true then Oper.wp Try.prog o a w K Q else E := by
  have hw : Region.wanted o (yielded ops a.tmps) = true := by simp [Region.wanted, hgd]
  rw [if_pos hw]
  obtain ⟨v', w', hr, h1, h2, h3⟩ := run_kys ht o.type hv hx hlen hbase
  unfold Oper.wp execOp
  simp only [ho, resolve, invoke, builtin, Sem.run_bind, Sem.run_pure, Result.andThen_ok, List.map_toArray, List.map_cons, List.map_nil, hs, hy, hr]
  exact h v' w' h1 h2 h3

theorem key_nil_eq (w : World) : (binOp .eql 33 (.slice none 0 0) (.slice none 0 0)).run Try.prog w = .ok (.bool true) w := by kernel_rfl
theorem key_some_eq (a : Addr) (n c : Nat) (w : World) : (binOp .eql 33 (.slice (some a) n c) (.slice none 0 0)).run Try.prog w = .ok (.bool false) w := by kernel_rfl

theorem ownK_empty {T : TypeId} {w0 w : World} (h : Ext w0 w) : OwnK T w0.heap.size (w.alloc (.cells #[] T)) (.slice (some ⟨w.heap.size, 0, none⟩) 0 0) [] := by
  refine ⟨?_, fun i => by simp [inK, noK]⟩
  have := World.ownsRow_lit (e := T) (size := 2) w (#[] : Array Value) 0 h.size (by simp) (by simp)
  simpa using this

set_option maxRecDepth 100000 in
set_option maxHeartbeats 1600000 in
theorem kclone_any (v : Value) (l : List KK) (w : World) (hl : Kys w v l) (hn : l.length ≤ 1000000) :
    Calls Try.prog 35 #[v] w fun e w' => ∃ v', e = .returned v' ∧ OwnK 23 w.heap.size w' v' l ∧ Ext w w' := by
  have P := Lib.hid hl
  obtain ⟨X, c, rfl, h2, h3, h4, h5, h6⟩ := hl
  cases X with
  | none =>
    have hc := h4 rfl
    subst hc
    have hm : l = [] := List.eq_nil_of_length_eq_zero (by omega)
    subst hm
    have he1 := key_nil_eq
    have he2 := key_some_eq
    go_enter Try.func35, Try.ntmps35
    go_wp2
    go_ret
    exact ⟨_, rfl, OwnK.nil _ _ _, Ext.refl _⟩
  | some a =>
    clear h4 h5 h6 h2 h3
    have E := Lib.hid ((Ext.refl w).alloc (.cells #[] 23))
    have O := Lib.hid (ownK_empty (T := 23) (Ext.refl w))
    have Y := Lib.hid (P.out.ext E.out)
    have Z : Hid (([] : List KK).length + l.length ≤ 1000000) := Lib.hid (by simpa using hn)
    have he1 := key_nil_eq
    have he2 := key_some_eq
    go_enter Try.func35, Try.ntmps35
    go_wp2_with (at_builtin; refine wpList_kys kyK rfl (.tmp 5) (.tmp 6) rfl rfl rfl O.out Y.out Z.out E.out.size ?_)
    intro v' w1 hO hgr _
    have O1 := Lib.hid hO
    have E1 := Lib.hid (E.out.grown hgr O.out.row)
    clear hO hgr
    go_wp2
    go_ret
    exact ⟨v', rfl, O1.out, E1.out⟩

end Go.Proofs.Ytblfplkocljlgaa
