import Derived.Test.YtobnbdoehobigaaDoorInMore
namespace Go.Proofs.YtobnbdoehobigaaDoor
open Go.RowKit
set_option linter.unusedVariables false
set_option linter.unusedSimpArgs false

/-- a slice of whole numbers -/
def Ints (w : World) (v : Value) (L : List Int) : Prop :=
  ∃ (A : Option Addr) (cap : Nat), v = .slice A L.length cap ∧ L.length ≤ cap ∧ cap ≤ 9223372036854775807 ∧ (∀ i, -9223372036854775808 ≤ L.getD i 0 ∧ L.getD i 0 ≤ 9223372036854775807) ∧
    (0 < L.length → ∃ b off, A = some ⟨b, off, none⟩ ∧ b < w.heap.size ∧ ∀ i, i < L.length → w.cell? ⟨b, off + i, none⟩ = some (.int .i64 (L.getD i 0)))

/-- a slice of texts -/
def Texts (w : World) (v : Value) (T : List (List Nat)) : Prop :=
  ∃ (A : Option Addr) (cap : Nat), v = .slice A T.length cap ∧ T.length ≤ cap ∧ cap ≤ 9223372036854775807 ∧
    (0 < T.length → ∃ b off, A = some ⟨b, off, none⟩ ∧ b < w.heap.size ∧ ∀ i, i < T.length → ∃ B m c, Bytes w (.slice B m c) (T.getD i []) ∧ w.cell? ⟨b, off + i, none⟩ = some (.slice B m c))

theorem Ints.ext {w w' : World} {v : Value} {L : List Int} (h : Ints w v L) (he : Ext w w') : Ints w' v L := by
  obtain ⟨A, cap, h1, h2, h3, h5, h6⟩ := h
  refine ⟨A, cap, h1, h2, h3, h5, fun hn => ?_⟩
  obtain ⟨b, off, e1, e2, e3⟩ := h6 hn
  exact ⟨b, off, e1, Nat.lt_of_lt_of_le e2 he.size, fun i hi => by rw [he.cell e2]; exact e3 i hi⟩

theorem Texts.ext {w w' : World} {v : Value} {T : List (List Nat)} (h : Texts w v T) (he : Ext w w') : Texts w' v T := by
  obtain ⟨A, cap, h1, h2, h3, h6⟩ := h
  refine ⟨A, cap, h1, h2, h3, fun hn => ?_⟩
  obtain ⟨b, off, e1, e2, e3⟩ := h6 hn
  refine ⟨b, off, e1, Nat.lt_of_lt_of_le e2 he.size, fun i hi => ?_⟩
  obtain ⟨B, m, c, q1, q2⟩ := e3 i hi
  exact ⟨B, m, c, q1.ext he, by rw [he.cell e2]; exact q2⟩

/-- the cell of a number, at once -/
theorem Ints.at {w : World} {A : Option Addr} {n cap : Nat} {L : List Int} (h : Ints w (.slice A n cap) L) {i : Nat} (hi : i < n) :
    ∃ b off z, A = some ⟨b, off, none⟩ ∧ w.cell? ⟨b, off + i, none⟩ = some (.int .i64 z) ∧ (-9223372036854775808 ≤ z ∧ z ≤ 9223372036854775807) ∧ L.getD i 0 = z := by
  obtain ⟨A', cap', e, h2, h3, h5, h6⟩ := h
  simp only [Value.slice.injEq] at e
  obtain ⟨rfl, rfl, rfl⟩ := e
  obtain ⟨b, off, e1, e2, e3⟩ := h6 (by omega)
  exact ⟨b, off, _, e1, e3 i hi, h5 i, rfl⟩

theorem Texts.at {w : World} {A : Option Addr} {n cap : Nat} {T : List (List Nat)} (h : Texts w (.slice A n cap) T) {i : Nat} (hi : i < n) :
    ∃ b off B m c t, A = some ⟨b, off, none⟩ ∧ w.cell? ⟨b, off + i, none⟩ = some (.slice B m c) ∧ Bytes w (.slice B m c) t ∧ T.getD i [] = t := by
  obtain ⟨A', cap', e, h2, h3, h6⟩ := h
  simp only [Value.slice.injEq] at e
  obtain ⟨rfl, rfl, rfl⟩ := e
  obtain ⟨b, off, e1, e2, e3⟩ := h6 (by omega)
  obtain ⟨B, m, c, q1, q2⟩ := e3 i hi
  exact ⟨b, off, B, m, c, _, e1, q2, q1, rfl⟩

def numsL (L : List Int) : List Nat := L.flatMap intL
def textL (t : List Nat) : List Nat := intL t.length ++ t
def textsL (T : List (List Nat)) : List Nat := T.flatMap textL

theorem take_succ_getD {α : Type} (l : List α) (i : Nat) (d : α) (hi : i < l.length) : l.take (i + 1) = l.take i ++ [l.getD i d] := by
  rw [List.take_add_one, List.getD_eq_getElem?_getD, List.getElem?_eq_getElem hi]; rfl
theorem drop_getD {α : Type} (l : List α) (i : Nat) (d : α) (hi : i < l.length) : l.drop i = l.getD i d :: l.drop (i + 1) := by
  rw [List.drop_eq_getElem_cons hi, List.getD_eq_getElem?_getD, List.getElem?_eq_getElem hi]; rfl

theorem nums_take (L : List Int) (i : Nat) (hi : i < L.length) : numsL (L.take (i + 1)) = numsL (L.take i) ++ intL (L.getD i 0) := by
  rw [take_succ_getD L i 0 hi]; simp [numsL]
theorem nums_drop (L : List Int) (i : Nat) (hi : i < L.length) : numsL (L.drop i) = intL (L.getD i 0) ++ numsL (L.drop (i + 1)) := by
  rw [drop_getD L i 0 hi]; simp [numsL]
theorem texts_take (T : List (List Nat)) (i : Nat) (hi : i < T.length) : textsL (T.take (i + 1)) = textsL (T.take i) ++ textL (T.getD i []) := by
  rw [take_succ_getD T i [] hi]; simp [textsL]
theorem texts_drop (T : List (List Nat)) (i : Nat) (hi : i < T.length) : textsL (T.drop i) = textL (T.getD i []) ++ textsL (T.drop (i + 1)) := by
  rw [drop_getD T i [] hi]; simp [textsL]

theorem flat_len {α : Type} (f : α → List Nat) (k : Nat) : ∀ (l : List α), (∀ x ∈ l, (f x).length ≤ k) → (l.flatMap f).length ≤ l.length * k := by
  intro l
  induction l with
  | nil => intro _; simp
  | cons x l ih =>
    intro h
    have h1 := h x (by simp)
    have h2 := ih (fun y hy => h y (by simp [hy]))
    simp only [List.flatMap_cons, List.length_append, List.length_cons]
    rw [Nat.add_mul]; omega

theorem nums_len (L : List Int) (i : Nat) (h : L.length ≤ 60) : (numsL (L.take i)).length ≤ 600 := by
  have := flat_len intL 10 (L.take i) (fun x _ => uvarL_len x)
  have h2 : (L.take i).length ≤ 60 := by simp; omega
  unfold numsL
  omega

/-- the first i texts have no more than 300 bytes each -/
def Small (T : List (List Nat)) (i : Nat) : Prop := ∀ j, j < i → (T.getD j []).length ≤ 300

theorem texts_len (T : List (List Nat)) (i : Nat) (hs : Small T i) (hi : i ≤ T.length) (h : T.length ≤ 30) : (textsL (T.take i)).length ≤ 9300 := by
  have := flat_len textL 310 (T.take i) (fun x hx => by
    obtain ⟨j, hj, rfl⟩ := List.getElem_of_mem hx
    have hj2 : j < i := by simp at hj; omega
    have := hs j hj2
    rw [List.getD_eq_getElem?_getD, List.getElem?_eq_getElem (by omega)] at this
    simp only [Option.getD_some] at this
    have h3 := uvarL_len ((((T.take i)[j]).length : Nat) : Int)
    simp only [textL, List.length_append, List.getElem_take] at h3 ⊢
    omega)
  have h2 : (T.take i).length ≤ 30 := by simp; omega
  unfold textsL
  omega

/-- what is put, and what the document has, each of the call's own, apart -/
structure Two (base : Nat) (w : World) (gb : Nat) (A : Option Addr) (n c : Nat) (lo : List Nat) (A2 : Option Addr) (n2 c2 : Nat) (lw : List Nat) : Prop where
  out : OutAt base w gb A n c lo
  want : Own base w A2 n2 c2 lw
  ne : Value.ownBlock (.slice A2 n2 c2) ≠ some gb
  apart : ∀ k, Value.ownBlock (.slice A n c) = some k → Value.ownBlock (.slice A2 n2 c2) ≠ some k

theorem Two.ext {base : Nat} {w w' : World} {gb : Nat} {A A2 : Option Addr} {n c n2 c2 : Nat} {lo lw : List Nat} (h : Two base w gb A n c lo A2 n2 c2 lw) (he : Ext w w') : Two base w' gb A n c lo A2 n2 c2 lw := by
  obtain ⟨⟨h1, h2, h3, h4, h5, h6⟩, h7, h8, h9⟩ := h
  refine ⟨⟨h1, Nat.lt_of_lt_of_le h2 he.size, by rw [he.cell h2]; exact h3, ?_, h5.ext he, h6⟩, h7.ext he, h8, h9⟩
  rw [(Keep.ofExt he (fun _ => False)).frozen h2 (fun h => h)]; exact h4

theorem Two.put {base : Nat} {w w' : World} {gb : Nat} {A A2 A' : Option Addr} {n c n2 c2 n' c' : Nat} {lo lw lo' : List Nat} (h : Two base w gb A n c lo A2 n2 c2 lw) (ho : OutAt base w' gb A' n' c' lo')
    (hk : Keep w w' (fun k => k = gb ∨ Value.ownBlock (.slice A n c) = some k)) (ha : A' = A ∨ ∀ k, Value.ownBlock (.slice A' n' c') = some k → w.heap.size ≤ k) : Two base w' gb A' n' c' lo' A2 n2 c2 lw := by
  refine ⟨ho, h.want.keep hk fun k hk2 hs => ?_, h.ne, fun k hk2 e => ?_⟩
  · rcases hs with rfl | hs
    · exact h.ne hk2
    · exact h.apart k hs hk2
  · rcases ha with rfl | ha
    · exact h.apart k (by rw [ob _ _ _ n' c']; exact hk2) e
    · have := ha k hk2
      have := (h.want.2.1.lt k e).2
      omega

theorem Two.grow {base : Nat} {w w' : World} {gb : Nat} {A A2 A' : Option Addr} {n c n2 c2 n' c' : Nat} {lo lw lw' : List Nat} (h : Two base w gb A n c lo A2 n2 c2 lw) (hO : Own base w' A' n' c' lw') (hg : w.grownBy w' (Value.ownBlock (.slice A2 n2 c2)))
    (hA : A' = A2 ∨ A' = some ⟨w.heap.size, 0, none⟩) : Two base w' gb A n c lo A' n' c' lw' := by
  have K := Keep.grown hg
  obtain ⟨⟨h1, h2, h3, h4, h5, h6⟩, h7, h8, h9⟩ := h
  refine ⟨⟨h1, Nat.lt_of_lt_of_le h2 K.size, by rw [K.cell h2 h8]; exact h3, by rw [K.frozen h2 h8]; exact h4, h5.keep K (fun k hk e => h9 k hk e), h6⟩, hO, ?_, ?_⟩
  · rcases hA with rfl | rfl
    · rw [ob _ _ _ n2 c2]; exact h8
    · intro e
      have e' : w.heap.size = gb := by simpa [Value.ownBlock] using e
      omega
  · intro k hk
    rcases hA with rfl | rfl
    · rw [ob _ _ _ n2 c2]; exact h9 k hk
    · intro e
      have e' : w.heap.size = k := by simpa [Value.ownBlock] using e
      have := (h5.2.1.lt k hk).2
      omega

/-- a row of bytes of the call's own, that is written over -/
def Row (base : Nat) (w : World) (g n : Nat) : Prop := base ≤ g ∧ g < w.heap.size ∧ ∀ i, i < n → w.frozen? ⟨g, i, none⟩ = false ∧ ∃ x : Nat, x < 256 ∧ w.cell? ⟨g, i, none⟩ = some (.int .u8 (x : Int))

theorem Own.toRow {base : Nat} {w : World} {A : Option Addr} {n c : Nat} {l : List Nat} (h : Own base w A n c l) (hn : 0 < n) : ∃ g, A = some ⟨g, 0, none⟩ ∧ Row base w g n := by
  have hB := h.bytes
  have hlt := h.2.1.lt
  rcases h.2.1.2 with ⟨_, h0⟩ | ⟨g, cap', cur, h', hb, hg, _⟩
  · omega
  · simp only [Value.slice.injEq, true_and] at h'
    obtain ⟨rfl, rfl⟩ := h'
    obtain ⟨A', cap, e, h2, h3, h4, h5, h6⟩ := hB
    simp only [Value.slice.injEq] at e
    obtain ⟨rfl, rfl, rfl⟩ := e
    obtain ⟨b, off, e1, e2, e3⟩ := h6 hn
    simp only [Option.some.injEq, Addr.mk.injEq, and_true] at e1
    obtain ⟨rfl, rfl⟩ := e1
    refine ⟨g, rfl, hb, e2, fun i hi => ⟨?_, _, h5 i, by simpa using e3 i hi⟩⟩
    simp [World.frozen?, hg]

theorem Row.set {base : Nat} {w : World} {g n : Nat} (h : Row base w g n) (i : Nat) (x : Int) (h0 : 0 ≤ x) (h1 : x < 256) : Row base (w.setCell ⟨g, i, none⟩ (.int .u8 x)) g n := by
  obtain ⟨h2, h3, h4⟩ := h
  refine ⟨h2, by simpa [World.setCell] using h3, fun j hj => ?_⟩
  obtain ⟨q1, y, q2, q3⟩ := h4 j hj
  refine ⟨by simp [go_sem, q1], ?_⟩
  by_cases hij : i = j
  · subst hij
    exact ⟨x.toNat, by omega, by rw [show ((x.toNat : Nat) : Int) = x by omega]; simp [go_sem, q3]⟩
  · exact ⟨y, q2, by simp [go_sem, hij, q3]⟩

end Go.Proofs.YtobnbdoehobigaaDoor
