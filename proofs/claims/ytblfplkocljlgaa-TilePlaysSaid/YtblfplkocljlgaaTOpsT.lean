import Derived.Test.YtblfplkocljlgaaTPlay0
namespace Go.Proofs.Ytblfplkocljlgaa
open Go.RowKit Go.ChangeMaps
set_option linter.unusedVariables false
set_option linter.unusedSimpArgs false

def noO : OpT := ⟨0, 0, 0, 0, false, 0, 0, 0, 0⟩

/-- a script, in memory -/
def OpsT (w : World) (v : Value) (l : List OpT) : Prop :=
  ∃ (A : Option Addr) (cap : Nat), v = .slice A l.length cap ∧ l.length ≤ cap ∧ cap ≤ 9223372036854775807 ∧
    (0 < l.length → ∃ b off, A = some ⟨b, off, none⟩ ∧ b < w.heap.size ∧ ∀ i, i < l.length → (l.getD i noO).Ok ∧ ∀ j, j < 9 → w.cell? ⟨b, off + (i * 9 + j), none⟩ = ((l.getD i noO).cells)[j]?)

theorem OpsT.ext {w w' : World} {v : Value} {l : List OpT} (h : OpsT w v l) (he : Ext w w') : OpsT w' v l := by
  obtain ⟨A, cap, h1, h2, h3, h4⟩ := h
  refine ⟨A, cap, h1, h2, h3, fun hn => ?_⟩
  obtain ⟨b, off, e1, e2, e3⟩ := h4 hn
  exact ⟨b, off, e1, Nat.lt_of_lt_of_le e2 he.size, fun i hi => ⟨(e3 i hi).1, fun j hj => by rw [he.cell e2]; exact (e3 i hi).2 j hj⟩⟩

/-- one call, cell by cell -/
theorem OpsT.at {w : World} {A : Option Addr} {n c : Nat} {l : List OpT} (h : OpsT w (.slice A n c) l) {i : Nat} (hi : i < n) :
    ∃ b off kind x y fill wide b0 b1 b2 b3, A = some ⟨b, off, none⟩ ∧ b < w.heap.size ∧ OpT.Ok ⟨kind, x, y, fill, wide, b0, b1, b2, b3⟩ ∧
      w.cell? ⟨b, off + i * 9, none⟩ = some (.int .i64 kind) ∧ w.cell? ⟨b, off + (i * 9 + 1), none⟩ = some (.int .i64 x) ∧ w.cell? ⟨b, off + (i * 9 + 2), none⟩ = some (.int .i64 y) ∧ w.cell? ⟨b, off + (i * 9 + 3), none⟩ = some (.int .u8 (fill : Int)) ∧ w.cell? ⟨b, off + (i * 9 + 4), none⟩ = some (.bool wide) ∧
      w.cell? ⟨b, off + (i * 9 + 5), none⟩ = some (.int .i64 b0) ∧ w.cell? ⟨b, off + (i * 9 + 6), none⟩ = some (.int .i64 b1) ∧ w.cell? ⟨b, off + (i * 9 + 7), none⟩ = some (.int .i64 b2) ∧ w.cell? ⟨b, off + (i * 9 + 8), none⟩ = some (.int .i64 b3) := by
  obtain ⟨A', cap, e, _, _, hc⟩ := h
  simp only [Value.slice.injEq] at e
  obtain ⟨rfl, rfl, _⟩ := e
  obtain ⟨b, off, e1, e2, e3⟩ := hc (by omega)
  obtain ⟨hok, e4⟩ := e3 i hi
  obtain ⟨⟨kind, x, y, fill, wide, b0, b1, b2, b3⟩, hp⟩ : ∃ p, l.getD i noO = p := ⟨_, rfl⟩
  rw [hp] at hok e4
  refine ⟨b, off, kind, x, y, fill, wide, b0, b1, b2, b3, e1, e2, hok, by simpa [OpT.cells] using e4 0 (by omega), ?_, ?_, ?_, ?_, ?_, ?_, ?_, ?_⟩
  · simpa [OpT.cells] using e4 1 (by omega)
  · simpa [OpT.cells] using e4 2 (by omega)
  · simpa [OpT.cells] using e4 3 (by omega)
  · simpa [OpT.cells] using e4 4 (by omega)
  · simpa [OpT.cells] using e4 5 (by omega)
  · simpa [OpT.cells] using e4 6 (by omega)
  · simpa [OpT.cells] using e4 7 (by omega)
  · simpa [OpT.cells] using e4 8 (by omega)

end Go.Proofs.Ytblfplkocljlgaa
