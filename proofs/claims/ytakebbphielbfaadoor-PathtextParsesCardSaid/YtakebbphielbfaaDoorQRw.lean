import Derived.Test.YtakebbphielbfaaDoorQByt
namespace Go.Proofs.YtakebbphielbfaaDoor
open Go.RowKit
set_option linter.unusedVariables false
set_option linter.unusedSimpArgs false

/-- how things of a kind lie in memory -/
structure Rp (α : Type) where
  n : Nat
  cells : α → List Value
  no : α
  ok : α → Prop
  len : ∀ x, (cells x).length = n
  nok : ok no
  pos : 0 < n
  one : ∀ x, ∀ u ∈ cells x, u.oneCell' = true

variable {α : Type}

/-- a slice of such things, in memory -/
def Sl (R : Rp α) (w : World) (v : Value) (l : List α) : Prop :=
  ∃ (A : Option Addr) (cap : Nat), v = .slice A l.length cap ∧ l.length ≤ cap ∧ cap ≤ 9223372036854775807 ∧ (A = none → cap = 0) ∧ (∀ i, R.ok (l.getD i R.no)) ∧
    (0 < l.length → ∃ b off, A = some ⟨b, off, none⟩ ∧ b < w.heap.size ∧ ∀ i, i < l.length → ∀ j, j < R.n → w.cell? ⟨b, off + (i * R.n + j), none⟩ = (R.cells (l.getD i R.no))[j]?)

theorem Sl.ext {R : Rp α} {w w' : World} {v : Value} {l : List α} (h : Sl R w v l) (he : Ext w w') : Sl R w' v l := by
  obtain ⟨A, cap, h1, h2, h3, h4, h5, h6⟩ := h
  refine ⟨A, cap, h1, h2, h3, h4, h5, fun hn => ?_⟩
  obtain ⟨b, off, e1, e2, e3⟩ := h6 hn
  exact ⟨b, off, e1, Nat.lt_of_lt_of_le e2 he.size, fun i hi j hj => by rw [he.cell e2]; exact e3 i hi j hj⟩

theorem Sl.len {R : Rp α} {w : World} {A : Option Addr} {n c : Nat} {l : List α} (h : Sl R w (.slice A n c) l) : n = l.length := by
  obtain ⟨_, _, e, _⟩ := h
  simp only [Value.slice.injEq] at e
  exact e.2.1

theorem Sl.nil (R : Rp α) (w : World) : Sl R w (.slice none 0 0) [] := ⟨none, 0, rfl, Nat.le_refl _, by omega, fun _ => rfl, fun i => by simpa using R.nok, fun h => by simp at h⟩

/-- one thing, cell by cell -/
theorem Sl.at {R : Rp α} {w : World} {A : Option Addr} {n c : Nat} {l : List α} (h : Sl R w (.slice A n c) l) {i : Nat} (hi : i < n) :
    ∃ b off, A = some ⟨b, off, none⟩ ∧ b < w.heap.size ∧ R.ok (l.getD i R.no) ∧ ∀ j, j < R.n → w.cell? ⟨b, off + (i * R.n + j), none⟩ = (R.cells (l.getD i R.no))[j]? := by
  have hn := h.len
  obtain ⟨A', cap, e, _, _, _, hb, hc⟩ := h
  simp only [Value.slice.injEq] at e
  obtain ⟨rfl, _, _⟩ := e
  obtain ⟨b, off, e1, e2, e3⟩ := hc (by omega)
  exact ⟨b, off, e1, e2, hb i, e3 i (by omega)⟩

/-- things of the call's own -/
def OwnR (R : Rp α) (T : TypeId) (base : Nat) (w : World) (v : Value) (l : List α) : Prop :=
  w.ownsRow base T R.n v l.length (l.flatMap R.cells) ∧ ∀ i, R.ok (l.getD i R.no)

theorem OwnR.nil (R : Rp α) (T : TypeId) (base : Nat) (w : World) : OwnR R T base w (.slice none 0 0) [] := ⟨World.ownsRow_nil w base T R.n, fun i => by simpa using R.nok⟩
theorem OwnR.ext {R : Rp α} {T : TypeId} {base : Nat} {w w' : World} {v : Value} {l : List α} (h : OwnR R T base w v l) (he : Ext w w') : OwnR R T base w' v l := ⟨row_ext h.1 he, h.2⟩
theorem OwnR.keep {R : Rp α} {T : TypeId} {base : Nat} {w w' : World} {v : Value} {l : List α} {S : Nat → Prop} (h : OwnR R T base w v l) (hk : Keep w w' S) (hS : ∀ k, v.ownBlock = some k → ¬ S k) : OwnR R T base w' v l := ⟨row_keep h.1 hk hS, h.2⟩
theorem OwnR.row {R : Rp α} {T : TypeId} {base : Nat} {w : World} {v : Value} {l : List α} (h : OwnR R T base w v l) : ∀ k, v.ownBlock = some k → base ≤ k := fun k hk => (h.1.lt k hk).1
theorem OwnR.lt {R : Rp α} {T : TypeId} {base : Nat} {w : World} {v : Value} {l : List α} (h : OwnR R T base w v l) : ∀ k, v.ownBlock = some k → k < w.heap.size := fun k hk => (h.1.lt k hk).2
theorem OwnR.mono {R : Rp α} {T : TypeId} {b b' : Nat} {w : World} {v : Value} {l : List α} (h : OwnR R T b w v l) (hb : b' ≤ b) : OwnR R T b' w v l := ⟨row_mono h.1 hb, h.2⟩
theorem OwnR.set {R : Rp α} {T : TypeId} {base : Nat} {w : World} {v u : Value} {l : List α} {g i : Nat} (h : OwnR R T base w v l) (hg : g < base) : OwnR R T base (w.setCell ⟨g, i, none⟩ u) v l := ⟨row_set h.1 hg, h.2⟩
theorem OwnR.slice {R : Rp α} {T : TypeId} {base : Nat} {w : World} {v : Value} {l : List α} (h : OwnR R T base w v l) : ∃ A cap, v = .slice A l.length cap := own_slice h.1

theorem flatR (R : Rp α) : ∀ (l : List α) (i j : Nat), i < l.length → j < R.n → (l.flatMap R.cells)[i * R.n + j]? = (R.cells (l.getD i R.no))[j]? := by
  intro l
  induction l with
  | nil => intro i j h; simp at h
  | cons x l ih =>
    intro i j h hj
    cases i with
    | zero => rw [List.flatMap_cons, List.getElem?_append_left (by rw [R.len]; omega)]; simp
    | succ i =>
      have e1 : (i + 1) * R.n = i * R.n + R.n := Nat.succ_mul i R.n
      rw [List.flatMap_cons, List.getElem?_append_right (by rw [R.len, e1]; omega)]
      have := ih i j (by simpa using h) hj
      rw [show (x :: l).getD (i + 1) R.no = l.getD i R.no by simp, ← this]
      congr 1
      rw [R.len, e1]
      omega

theorem flatR_len (R : Rp α) (l : List α) : (l.flatMap R.cells).length = l.length * R.n := by
  induction l with
  | nil => simp
  | cons x l ih => rw [List.flatMap_cons, List.length_append, ih, R.len, List.length_cons, Nat.succ_mul, Nat.add_comm]

theorem OwnR.sl {R : Rp α} {T : TypeId} {base : Nat} {w : World} {v : Value} {l : List α} (h : OwnR R T base w v l) : Sl R w v l := by
  obtain ⟨h, hb⟩ := h
  have hh := h
  rcases h.2 with ⟨h', h0⟩ | ⟨g, cap, cur, h', _, hg, hn, hm, hs, htake⟩
  · exact ⟨none, 0, by rw [h', h0], by omega, by omega, fun _ => rfl, hb, fun h => by omega⟩
  · subst h'
    refine ⟨_, cap, rfl, hn, hm, (fun h => by cases h), hb, fun _ => ⟨g, 0, rfl, (Array.getElem?_eq_some_iff.1 hg).1, fun i hi j hj => ?_⟩⟩
    have hlt : i * R.n + j < l.length * R.n := by
      have := Nat.mul_le_mul_right R.n (show i + 1 ≤ l.length by omega)
      rw [Nat.succ_mul] at this
      omega
    rw [Nat.zero_add, hh.cellAt _ hlt]
    exact flatR R l i j hi hj

theorem getD_okR {R : Rp α} {l m : List α} (hl : ∀ i, R.ok (l.getD i R.no)) (hm : ∀ i, R.ok (m.getD i R.no)) (i : Nat) : R.ok ((l ++ m).getD i R.no) := by
  rw [List.getD_eq_getElem?_getD, List.getElem?_append]
  split
  · have := hl i; rwa [List.getD_eq_getElem?_getD] at this
  · have := hm (i - l.length); rwa [List.getD_eq_getElem?_getD] at this

/-- what a slice type of such things and its element type are -/
structure RpT (R : Rp α) (S T : TypeId) : Prop where
  und : Tryd.prog.underlying S = some (.slice T)
  info : ∃ i : TypeInfo, Tryd.prog.info? T = some i ∧ (∃ z, i.zero = some z ∧ z.cells.size = R.n) ∧ i.size = R.n ∧ i.bytes ≤ 64

/-- things put behind things of the call's own -/
theorem run_rs {R : Rp α} {S T : TypeId} (ht : RpT R S T) {base : Nat} {w : World} {v : Value} {l m : List α} {x : Value} (ty : TypeId) (hv : OwnR R T base w v l) (hx : Sl R w x m) (hlen : l.length + m.length ≤ 1000000) (hbase : base ≤ w.heap.size) :
    ∃ v' w', (Builtin.append_ #[S, S] ty #[v, x]).run Tryd.prog w = .ok v' w' ∧ OwnR R T base w' v' (l ++ m) ∧ w.grownBy w' v.ownBlock ∧ (v'.ownBlock = v.ownBlock ∨ v'.ownBlock = some w.heap.size) := by
  obtain ⟨hv, hb⟩ := hv
  obtain ⟨X, c, rfl, h2, h3, h4, h5, h6⟩ := hx
  obtain ⟨und, i0, hi, ⟨z, hz0, hz⟩, hz1, hz2⟩ := ht
  cases X with
  | none =>
    have hc := h4 rfl
    subst hc
    have hm : m = [] := List.eq_nil_of_length_eq_zero (by omega)
    subst hm
    obtain ⟨A, cap, rfl⟩ := own_slice hv
    have hr := run_append_owned_none (P := Tryd.prog) (w := w) base S ty T i0 R.n und hi _ l.length _ hv
    exact ⟨_, w, hr, ⟨by simpa using hv, by simpa using hb⟩, ⟨rfl, rfl, rfl, Nat.le_refl _, fun _ _ _ => rfl⟩, .inl rfl⟩
  | some a =>
    have hcells : ∀ j u, (m.flatMap R.cells)[j]? = some u → w.cell? (a.add j) = some u := by
      intro j u hj
      have hj1 : j < m.length * R.n := by have := (List.getElem?_eq_some_iff.1 hj).1; rwa [flatR_len] at this
      have hm0 : 0 < m.length := by
        rcases Nat.eq_zero_or_pos m.length with h0 | h0
        · rw [h0] at hj1; omega
        · exact h0
      obtain ⟨b, off, e1, e2, e3⟩ := h6 hm0
      simp only [Option.some.injEq] at e1
      subst e1
      have hd : j / R.n < m.length := (Nat.div_lt_iff_lt_mul R.pos).2 hj1
      have hmd : j % R.n < R.n := Nat.mod_lt _ R.pos
      have e4 := e3 (j / R.n) hd (j % R.n) hmd
      have e5 : j / R.n * R.n + j % R.n = j := by rw [Nat.mul_comm]; exact Nat.div_add_mod j R.n
      rw [← flatR R m (j / R.n) (j % R.n) hd hmd, e5] at e4
      rw [show (⟨b, off, none⟩ : Addr).add j = ⟨b, off + j, none⟩ by unfold Addr.add; split <;> simp_all]
      rw [e4, hj]
    obtain ⟨v', w', hr, ho, hg, _, h5'⟩ := run_append_own_at (P := Tryd.prog) w base S ty T i0 z R.n i0.bytes und hi hz0 hz1 rfl hz R.pos _ l.length _ hv a m.length c (m.flatMap R.cells) (flatR_len R m) hcells
      (by intro u hu; obtain ⟨y, _, hy⟩ := List.mem_flatMap.1 hu; exact R.one y u hy) (by unfold maxLen; omega) (by
        have := Nat.mul_le_mul hlen hz2
        omega) hbase
    rw [← List.flatMap_append, ← List.length_append] at ho
    exact ⟨v', w', hr, ⟨ho, getD_okR hb h5⟩, hg, h5'⟩

/-- some things in a block of their own -/
theorem sl_block {R : Rp α} {w : World} {g : Nat} {l : List α} (hg : g < w.heap.size) (hb : ∀ i, R.ok (l.getD i R.no)) (hm : l.length ≤ 9223372036854775807) (h : ∀ j, j < l.length * R.n → w.cell? ⟨g, j, none⟩ = (l.flatMap R.cells)[j]?) : Sl R w (.slice (some ⟨g, 0, none⟩) l.length l.length) l :=
  ⟨_, _, rfl, Nat.le_refl _, hm, (fun h => by cases h), hb, fun _ => ⟨g, 0, rfl, hg, fun i hi j hj => by
    have hlt : i * R.n + j < l.length * R.n := by
      have := Nat.mul_le_mul_right R.n (show i + 1 ≤ l.length by omega)
      rw [Nat.succ_mul] at this
      omega
    rw [Nat.zero_add, h _ hlt]
    exact flatR R l i j hi hj⟩⟩

/-- one thing in a block of its own -/
theorem sl_one {R : Rp α} {w : World} {g : Nat} {p : α} (hg : g < w.heap.size) (hb : R.ok p) (h : ∀ j, j < R.n → w.cell? ⟨g, j, none⟩ = (R.cells p)[j]?) : Sl R w (.slice (some ⟨g, 0, none⟩) 1 1) [p] :=
  sl_block (l := [p]) hg (fun i => by
    match i with
    | 0 => simpa using hb
    | i + 1 => simpa using R.nok) (by simp) (fun j hj => by rw [h j (by simpa using hj)]; simp)

theorem wpList_rs {R : Rp α} {S T : TypeId} (ht : RpT R S T) {base : Nat} {w : World} {v : Value} {l m : List α} {x : Value} {ops : Array Oper} {rest : List Oper} {o : Oper} {a : Act} {Q : Exit → Act → World → Prop} (hgd : o.guard = none) (s y : Operand)
    (ho : o.op = .call { callee := .builtin .append, args := #[s, y], argTypes := #[S, S] }) (hs : a.eval s = v) (hy : a.eval y = x)
    (hv : OwnR R T base w v l) (hx : Sl R w x m) (hlen : l.length + m.length ≤ 1000000) (hbase : base ≤ w.heap.size)
    (h : ∀ v' w', OwnR R T base w' v' (l ++ m) → w.grownBy w' v.ownBlock → (v'.ownBlock = v.ownBlock ∨ v'.ownBlock = some w.heap.size) → wpList Tryd.prog ops Q rest (a.put o.dst v') w') : wpList Tryd.prog ops Q (o :: rest) a w := by
  refine wpList_plain hgd fun K hK => ?_
  obtain ⟨v', w', hr, h1, h2, h3⟩ := run_rs ht o.type hv hx hlen hbase
  unfold Oper.wp execOp
  simp only [ho, resolve, invoke, builtin, Sem.run_bind, Sem.run_pure, Result.andThen_ok, List.map_toArray, List.map_cons, List.map_nil, hs, hy, hr]
  exact hK _ _ (h v' w' h1 h2 h3)

/-- at a step of a region that draws -/
theorem step_rs {R : Rp α} {S T : TypeId} (ht : RpT R S T) {base : Nat} {w : World} {v : Value} {l m : List α} {x : Value} {ops : Array Oper} {o : Oper} {a : Act} {K : Act → World → Prop} {Q : Exit → Act → World → Prop} {E : Prop} (hgd : o.guard = none) (s y : Operand)
    (ho : o.op = .call { callee := .builtin .append, args := #[s, y], argTypes := #[S, S] }) (hs : a.eval s = v) (hy : a.eval y = x)
    (hv : OwnR R T base w v l) (hx : Sl R w x m) (hlen : l.length + m.length ≤ 1000000) (hbase : base ≤ w.heap.size)
    (h : ∀ v' w', OwnR R T base w' v' (l ++ m) → w.grownBy w' v.ownBlock → (v'.ownBlock = v.ownBlock ∨ v'.ownBlock = some w.heap.size) → K (a.put o.dst v') w') :
    if Region.wanted o (yielded ops a.tmps) = true then Oper.wp Tryd.prog o a w K Q else E := by
  have hw : Region.wanted o (yielded ops a.tmps) = true := by simp [Region.wanted, hgd]
  rw [if_pos hw]
  obtain ⟨v', w', hr, h1, h2, h3⟩ := run_rs ht o.type hv hx hlen hbase
  unfold Oper.wp execOp
  simp only [ho, resolve, invoke, builtin, Sem.run_bind, Sem.run_pure, Result.andThen_ok, List.map_toArray, List.map_cons, List.map_nil, hs, hy, hr]
  exact h v' w' h1 h2 h3

def ba (l : List UInt8) : ByteArray := ⟨l.toArray⟩
theorem ba_app (a b : List UInt8) : ba a ++ ba b = ba (a ++ b) := by
  apply ByteArray.ext
  simp [ba]
theorem ba_size (l : List UInt8) : (ba l).size = l.length := by show (List.toArray l).size = _; simp
theorem ba_data (l : List UInt8) : (ba l).data.toList = l := by simp [ba]
theorem ba_list (l : List UInt8) : (ba l).toList = l := by rw [ByteArray.toList_eq]; simp [ba]
theorem ba_self (s : ByteArray) : ba s.data.toList = s := by apply ByteArray.ext; simp [ba]
theorem ba_sub (l : List UInt8) (a b : Nat) : (ba l).extract a b = ba ((l.take b).drop a) := by
  apply ByteArray.ext
  rw [ByteArray.data_extract]
  simp [ba, List.drop_take]
theorem ba_inj {a b : List UInt8} (h : ba a = ba b) : a = b := by
  have := congrArg (fun x : ByteArray => x.data.toList) h
  simpa [ba] using this

/-- strings -/
def strR : Rp (List UInt8) where
  n := 1
  cells := fun s => [.string (ba s)]
  no := []
  ok := fun s => s.length ≤ 100000
  len := fun _ => rfl
  nok := by decide
  pos := by decide
  one := fun x u hu => by simp at hu; subst hu; rfl

theorem infoStr : (Tryd.prog.info? 9).map (fun i => (i.zero, i.size, i.bytes)) = some (some (.string ⟨#[]⟩), 1, 16) := by kernel_rfl
theorem strT : RpT strR 23 9 := by
  obtain ⟨i0, hi, hz0, hz1, hz2⟩ := info_parts infoStr
  exact ⟨Tryd.underlying23, i0, hi, ⟨_, hz0, rfl⟩, hz1, by omega⟩

end Go.Proofs.YtakebbphielbfaaDoor
