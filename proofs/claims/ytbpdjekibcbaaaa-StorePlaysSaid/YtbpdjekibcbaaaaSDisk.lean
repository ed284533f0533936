import Derived.Test.YtbpdjekibcbaaaaSLow
namespace Go.Proofs.Ytbpdjekibcbaaaa
open Go.RowKit
set_option linter.unusedVariables false
set_option linter.unusedSimpArgs false

/-- a slice of bytes of the call's own: its address, its room, its bytes -/
abbrev Sec := Option Addr × Nat × List Nat
def secV (x : Sec) : Value := .slice x.1 x.2.2.length x.2.1
def waitV (x : Nat × Sec) : List Value := [.int .i64 (x.1 : Int), secV x.2]
def SecOk (base : Nat) (w : World) (x : Sec) : Prop := Own base w x.1 x.2.2.length x.2.1 x.2.2

def natV (n : Nat) : Value := .int .i64 (n : Int)

/-- what a disk is -/
structure DS where
  safe : List Sec
  size : Nat
  wait : List (Nat × Sec)
  reads : List Nat
  left : Int
  done : Nat
  down : Bool

def fields (SA : Option Addr) (sc : Nat) (WA : Option Addr) (wc : Nat) (RA : Option Addr) (rc : Nat) (S : DS) : Array Value :=
  #[.slice SA S.safe.length sc, .int .i64 (S.size : Int), .slice WA S.wait.length wc, .slice RA S.reads.length rc, .int .i64 S.left, .int .i64 (S.done : Int), .bool S.down]

/-- a disk, in blocks of the call's own -/
structure DiskAt (base : Nat) (w : World) (D : Nat) (SA : Option Addr) (sc : Nat) (WA : Option Addr) (wc : Nat) (RA : Option Addr) (rc : Nat) (S : DS) : Prop where
  blk : w.heap[D]? = some (.cells (fields SA sc WA wc RA rc S) 67 (0, 0))
  lo : base ≤ D
  rows : w.ownsRow base 24 1 (.slice SA S.safe.length sc) S.safe.length (S.safe.map secV)
  waits : w.ownsRow base 79 2 (.slice WA S.wait.length wc) S.wait.length (S.wait.flatMap waitV)
  rds : w.ownsRow base 3 1 (.slice RA S.reads.length rc) S.reads.length (S.reads.map natV)
  oks : ∀ x ∈ S.safe, SecOk base w x
  okw : ∀ x ∈ S.wait, SecOk base w x.2
def Disk (base : Nat) (w : World) (D : Nat) (S : DS) : Prop := ∃ SA sc WA wc RA rc, DiskAt base w D SA sc WA wc RA rc S

/-- the block of a row has the row's type -/
theorem row_type {b e size : Nat} {w : World} {v : Value} {n : Nat} {xs : List Value} (h : w.ownsRow b e size v n xs) {k : Nat} (hk : v.ownBlock = some k) : ∃ cur, w.heap[k]? = some (.cells cur e (0, 0)) := by
  rcases h.2 with ⟨rfl, _⟩ | ⟨g, c, cur, rfl, _, hg, _⟩
  · simp [Value.ownBlock] at hk
  · simp only [Value.ownBlock, Option.some.injEq] at hk
    subst hk
    exact ⟨cur, hg⟩

theorem row_keep {b e size : Nat} {w w' : World} {v : Value} {n : Nat} {xs : List Value} {X : Nat → Prop} (h : w.ownsRow b e size v n xs) (hk : Keep w w' X) (hX : ∀ k, v.ownBlock = some k → ¬ X k) : w'.ownsRow b e size v n xs := by
  refine ⟨h.1, ?_⟩
  rcases h.2 with h2 | ⟨g, c, cur, rfl, hb, hg, rest⟩
  · exact .inl h2
  · exact .inr ⟨g, c, cur, rfl, hb, by rw [hk.block g (Array.getElem?_eq_some_iff.1 hg).1 (hX g rfl)]; exact hg, rest⟩

theorem type_ne {w : World} {k : Nat} {c c' : Array Value} {t t' : TypeId} {f f' : Nat × Nat} (h : w.heap[k]? = some (.cells c t f)) (h' : w.heap[k]? = some (.cells c' t' f')) : t = t' := by
  rw [h] at h'
  simp only [Option.some.injEq, Obj.cells.injEq] at h'
  exact h'.2.1

section
variable {base : Nat} {w w' : World} {D : Nat} {SA : Option Addr} {sc : Nat} {WA : Option Addr} {wc : Nat} {RA : Option Addr} {rc : Nat} {S : DS}

theorem DiskAt.lt (h : DiskAt base w D SA sc WA wc RA rc S) : D < w.heap.size := (Array.getElem?_eq_some_iff.1 h.blk).1

theorem DiskAt.ext (h : DiskAt base w D SA sc WA wc RA rc S) (he : Ext w w') : DiskAt base w' D SA sc WA wc RA rc S :=
  ⟨he.heapAt h.blk, h.lo, row_ext h.rows he, row_ext h.waits he, row_ext h.rds he, fun x hx => Own.ext (h.oks x hx) he, fun x hx => Own.ext (h.okw x hx) he⟩

theorem DiskAt.cell (h : DiskAt base w D SA sc WA wc RA rc S) (j : Nat) : w.cell? ⟨D, j, none⟩ = (fields SA sc WA wc RA rc S)[j]? := cell_of_row w D j _ _ (0, 0) h.blk
theorem DiskAt.frozen (h : DiskAt base w D SA sc WA wc RA rc S) (j : Nat) : w.frozen? ⟨D, j, none⟩ = false := by simp [World.frozen?, h.blk]

/-- the disk's own blocks, told by their types -/
def Tch (base : Nat) (w : World) (k : Nat) : Prop := base ≤ k ∧ ∃ c t f, w.heap[k]? = some (.cells c t f) ∧ (t = 67 ∨ t = 24 ∨ t = 79 ∨ t = 3)

theorem DiskAt.tchD (h : DiskAt base w D SA sc WA wc RA rc S) : Tch base w D := ⟨h.lo, _, _, _, h.blk, .inl rfl⟩

/-- a field is set -/
theorem disk_put (hD : w.heap[D]? = some (.cells (fields SA sc WA wc RA rc S) 67 (0, 0))) (hlo : base ≤ D) (j : Nat) (u : Value) (S' : DS) (SA' : Option Addr) (sc' : Nat) (WA' : Option Addr) (wc' : Nat) (RA' : Option Addr) (rc' : Nat)
    (hf : (fields SA sc WA wc RA rc S).setIfInBounds j u = fields SA' sc' WA' wc' RA' rc' S')
    (h1 : w.ownsRow base 24 1 (.slice SA' S'.safe.length sc') S'.safe.length (S'.safe.map secV))
    (h2 : w.ownsRow base 79 2 (.slice WA' S'.wait.length wc') S'.wait.length (S'.wait.flatMap waitV))
    (h3 : w.ownsRow base 3 1 (.slice RA' S'.reads.length rc') S'.reads.length (S'.reads.map natV))
    (h4 : ∀ x ∈ S'.safe, SecOk base w x) (h5 : ∀ x ∈ S'.wait, SecOk base w x.2) :
    DiskAt base (w.setCell ⟨D, j, none⟩ u) D SA' sc' WA' wc' RA' rc' S' ∧ Keep w (w.setCell ⟨D, j, none⟩ u) (Tch base w) := by
  have K : Keep w (w.setCell ⟨D, j, none⟩ u) (fun k => k = D) := Keep.setCell
  have ne : ∀ {e size : Nat} {v : Value} {n : Nat} {xs : List Value}, w.ownsRow base e size v n xs → e ≠ 67 → ∀ k, v.ownBlock = some k → ¬ k = D := fun hr hne k hk e => by
    subst e
    obtain ⟨cur, hc⟩ := row_type hr hk
    exact hne (type_ne hc hD)
  refine ⟨⟨?_, hlo, row_keep h1 K (ne h1 (by decide)), row_keep h2 K (ne h2 (by decide)), row_keep h3 K (ne h3 (by decide)), fun x hx => Own.keep (h4 x hx) K (ne (h4 x hx).2.1 (by decide)), fun x hx => Own.keep (h5 x hx) K (ne (h5 x hx).2.1 (by decide))⟩, K.mono fun k e => by subst e; exact ⟨hlo, _, _, _, hD, .inl rfl⟩⟩
  rw [heap_setCell_same w D j _ 67 u hD, hf]

/-- a field is set -/
theorem DiskAt.put (h : DiskAt base w D SA sc WA wc RA rc S) (j : Nat) (u : Value) (S' : DS) (SA' : Option Addr) (sc' : Nat) (WA' : Option Addr) (wc' : Nat) (RA' : Option Addr) (rc' : Nat)
    (hf : (fields SA sc WA wc RA rc S).setIfInBounds j u = fields SA' sc' WA' wc' RA' rc' S')
    (h1 : w.ownsRow base 24 1 (.slice SA' S'.safe.length sc') S'.safe.length (S'.safe.map secV))
    (h2 : w.ownsRow base 79 2 (.slice WA' S'.wait.length wc') S'.wait.length (S'.wait.flatMap waitV))
    (h3 : w.ownsRow base 3 1 (.slice RA' S'.reads.length rc') S'.reads.length (S'.reads.map natV))
    (h4 : ∀ x ∈ S'.safe, SecOk base w x) (h5 : ∀ x ∈ S'.wait, SecOk base w x.2) :
    DiskAt base (w.setCell ⟨D, j, none⟩ u) D SA' sc' WA' wc' RA' rc' S' ∧ Keep w (w.setCell ⟨D, j, none⟩ u) (Tch base w) :=
  disk_put h.blk h.lo j u S' SA' sc' WA' wc' RA' rc' hf h1 h2 h3 h4 h5

end

end Go.Proofs.Ytbpdjekibcbaaaa
