import Derived.Test.YtbpdjekibcbaaaaSStC
namespace Go.Proofs.Ytbpdjekibcbaaaa
open Go.RowKit
set_option linter.unusedVariables false
set_option linter.unusedSimpArgs false

/-- blocks of a disk or of a store -/
def TchS (base : Nat) (w : World) (k : Nat) : Prop := Tch base w k ∨ (base ≤ k ∧ ∃ c f, w.heap[k]? = some (.cells c 71 f))
theorem Keep.tchS {base : Nat} {a b c : World} (h : Keep a b (TchS base a)) (k : Keep b c (TchS base b)) : Keep a c (TchS base a) := by
  refine h.trans k (fun x hx ht => ?_)
  by_cases e : TchS base a x
  · exact e
  · have := h.block x hx e
    rcases ht with ⟨h1, c, t, f, h2, h3⟩ | ⟨h1, c, f, h2⟩
    · exact .inl ⟨h1, c, t, f, by rw [← this]; exact h2, h3⟩
    · exact .inr ⟨h1, c, f, by rw [← this]; exact h2⟩
theorem Keep.ofTch {base : Nat} {a b : World} (h : Keep a b (Tch base a)) : Keep a b (TchS base a) := h.mono fun _ h => .inl h

section
variable {base : Nat} {w w' : World} {D : Nat} {SA : Option Addr} {sc : Nat} {WA : Option Addr} {wc : Nat} {RA : Option Addr} {rc : Nat} {S : DS}
theorem DiskAt.off (H : DiskAt base w D SA sc WA wc RA rc S) {X : Nat → Prop} (hk : Keep w w' X) (hX : ∀ k, X k → ∃ c f, w.heap[k]? = some (.cells c 71 f)) : DiskAt base w' D SA sc WA wc RA rc S := by
  have ho : ∀ {A : Option Addr} {n cap : Nat} {l : List Nat}, Own base w A n cap l → Own base w' A n cap l := fun h => h.keep hk (fun k hk' hx => by
    obtain ⟨c, f, e⟩ := hX k hx
    obtain ⟨cur, hc⟩ := row_type h.2.1 hk'
    exact absurd (type_ne hc e) (by decide))
  refine ⟨?_, H.lo, row_keep H.rows hk ?_, row_keep H.waits hk ?_, row_keep H.rds hk ?_, fun x hx => ho (H.oks x hx), fun x hx => ho (H.okw x hx)⟩
  · rw [hk.block D H.lt (fun hx => by obtain ⟨c, f, e⟩ := hX D hx; exact absurd (type_ne H.blk e) (by decide))]; exact H.blk
  · intro k hk' hx; obtain ⟨c, f, e⟩ := hX k hx; obtain ⟨cur, hc⟩ := row_type H.rows hk'; exact absurd (type_ne hc e) (by decide)
  · intro k hk' hx; obtain ⟨c, f, e⟩ := hX k hx; obtain ⟨cur, hc⟩ := row_type H.waits hk'; exact absurd (type_ne hc e) (by decide)
  · intro k hk' hx; obtain ⟨c, f, e⟩ := hX k hx; obtain ⟨cur, hc⟩ := row_type H.rds hk'; exact absurd (type_ne hc e) (by decide)
theorem DK.off {m : DM} (H : DK base w D m) {X : Nat → Prop} (hk : Keep w w' X) (hX : ∀ k, X k → ∃ c f, w.heap[k]? = some (.cells c 71 f)) : DK base w' D m := by
  obtain ⟨SA, sc, WA, wc, RA, rc, S, h1, h2⟩ := H
  exact ⟨SA, sc, WA, wc, RA, rc, S, h1.off hk hX, h2⟩
end

theorem setCell_row {w : World} {g j : Nat} {cs : Array Value} {t : TypeId} {v : Value} (h : w.heap[g]? = some (.cells cs t (0, 0))) : (w.setCell ⟨g, j, none⟩ v).heap[g]? = some (.cells (cs.setIfInBounds j v) t (0, 0)) := by
  rw [setCell_eq_setRow w g j cs t (0, 0) v h]
  exact setRow_heap _ _ _ _ _ _ h

/-- a field of the store's own block is set -/
theorem StAt.put {base : Nat} {w : World} {s D : Nat} {h h' : Hd} {A A' : Option Addr} {n n' cap cap' : Nat} {b b' : List Nat} {dn dn' : Bool} (H : StAt base w s D h A n cap b dn) (j : Nat) (v : Value)
    (hf : (stCells D h A n cap dn).setIfInBounds j v = stCells D h' A' n' cap' dn') (ho : Own base w A' n' cap' b') : StAt base (w.setCell ⟨s, j, none⟩ v) s D h' A' n' cap' b' dn' := by
  refine ⟨by rw [setCell_row H.blk, hf], H.lo, ho.keep Keep.setCell ?_⟩
  rintro k hk rfl
  obtain ⟨cur, hc⟩ := row_type ho.2.1 hk
  exact absurd (type_ne hc H.blk) (by decide)
theorem StAt.tch {base : Nat} {w : World} {s D : Nat} {h : Hd} {A : Option Addr} {n cap : Nat} {b : List Nat} {dn : Bool} (H : StAt base w s D h A n cap b dn) : ∀ k, k = s → ∃ c f, w.heap[k]? = some (.cells c 71 f) := by
  rintro k rfl; exact ⟨_, _, H.blk⟩
theorem StAt.tchS {base : Nat} {w : World} {s D : Nat} {h : Hd} {A : Option Addr} {n cap : Nat} {b : List Nat} {dn : Bool} (H : StAt base w s D h A n cap b dn) : ∀ k, k = s → TchS base w k := by
  rintro k rfl; exact .inr ⟨H.lo, _, _, H.blk⟩

theorem write_nf (m : DM) (i : Nat) (b : List Nat) (hl : m.left = -1) (hd : m.down = false) (hi : i < m.B.length) : m.write i b = ({ m with W := m.W ++ [(i, b)], done := m.done + 1 }, 0) := by
  have hc : m.check (i : Int) = 0 := by
    unfold DM.check
    rw [hd, if_neg (by simp), if_neg (by omega)]
  unfold DM.write
  rw [if_pos hc]
  unfold DM.cmd
  dsimp only
  rw [if_neg (by omega), if_neg (by omega)]
  rfl
theorem sync_nf (m : DM) (hl : m.left = -1) (hd : m.down = false) : m.sync = ({ m with B := layB m.B m.W, W := [], done := m.done + 1 }, 0) := by
  unfold DM.sync DM.cmd
  rw [hd]
  simp [hl]

/-- the waiting writes of a save -/
def wrW (first sz : Nat) (b : List Nat) (fr : Nat) : Nat → List (Nat × List Nat)
  | 0 => []
  | k + 1 => wrW first sz b fr k ++ [(first + (fr + k), chunk sz b (fr + k))]
def DM.wrote (m : DM) (half : Nat) (b : List Nat) (fr k : Nat) : DM := { m with W := wrW (2 + half * m.hs) m.sz b fr k, done := m.done + k }
def DM.saved (m : DM) (h : Hd) (b : List Nat) (fr k : Nat) : DM := { m with B := (layB m.B (wrW (2 + h.half * m.hs) m.sz b fr k)).set (h.gen % 2) (hdrL h.gen h.half h.snap h.log m.sz), W := [], done := m.done + k + 3 }
theorem wrW_len (first sz : Nat) (b : List Nat) (fr k : Nat) : (wrW first sz b fr k).length = k := by
  induction k with
  | zero => rfl
  | succ k ih => simp [wrW, ih]

/-- a disk at rest, without faults -/
structure Rest (m : DM) (n : Nat) : Prop where
  ok : m.Ok n
  left : m.left = -1
  down : m.down = false
  wait : m.W = []
  sz : 32 ≤ m.sz
  nb : 4 ≤ m.B.length ∧ m.B.length ≤ 60

theorem Rest.wrote0 {m : DM} {n : Nat} (H : Rest m n) (half : Nat) (b : List Nat) (fr : Nat) : m.wrote half b fr 0 = m := by
  unfold DM.wrote wrW
  rw [← H.wait]
  rfl
theorem Rest.wrote {m : DM} {n : Nat} (H : Rest m n) (half : Nat) (b : List Nat) (fr k : Nat) (hi : 2 + half * m.hs + (fr + k) < m.B.length) :
    (m.wrote half b fr k).write ((2 + half * m.hs + (fr + k) : Nat) : Int) (chunk m.sz b (fr + k)) = (m.wrote half b fr (k + 1), 0) := by
  rw [write_nf (m.wrote half b fr k) (2 + half * m.hs + (fr + k)) _ H.left H.down hi]
  rfl
theorem Rest.wroteOk {m : DM} {n : Nat} (H : Rest m n) (half : Nat) (b : List Nat) (fr k : Nat) (hk : k ≤ 100) (hi : ∀ j, j < k → 2 + half * m.hs + (fr + j) < m.B.length) : (m.wrote half b fr k).Ok (n + 2 * k) := by
  induction k with
  | zero => rw [H.wrote0]; exact H.ok
  | succ k ih =>
    have h1 := ih (by omega) (fun j hj => hi j (by omega))
    have h2 := h1.write ((2 + half * m.hs + (fr + k) : Nat) : Int) (chunk m.sz b (fr + k)) (padL_len _ _) (by unfold DM.wrote; dsimp only; rw [wrW_len]; omega)
    rw [H.wrote half b fr k (hi k (by omega))] at h2
    exact h2
def DM.mid (m : DM) (h : Hd) (b : List Nat) (fr k : Nat) : DM := { m with B := layB m.B (wrW (2 + h.half * m.hs) m.sz b fr k), W := [], done := m.done + k + 1 }
def DM.mid2 (m : DM) (h : Hd) (b : List Nat) (fr k : Nat) : DM := { m with B := layB m.B (wrW (2 + h.half * m.hs) m.sz b fr k), W := [(h.gen % 2, hdrL h.gen h.half h.snap h.log m.sz)], done := m.done + k + 2 }
theorem Rest.eqs {m : DM} {n : Nat} (H : Rest m n) (h : Hd) (b : List Nat) (fr k : Nat) :
    (m.wrote h.half b fr k).sync = (m.mid h b fr k, 0) ∧ (m.mid h b fr k).write ((h.gen % 2 : Nat) : Int) (hdrL h.gen h.half h.snap h.log m.sz) = (m.mid2 h b fr k, 0) ∧ (m.mid2 h b fr k).sync = (m.saved h b fr k, 0) := by
  have h2 := H.nb.1
  refine ⟨sync_nf (m.wrote h.half b fr k) H.left H.down, ?_, sync_nf (m.mid2 h b fr k) H.left H.down⟩
  rw [write_nf (m.mid h b fr k) (h.gen % 2) _ H.left H.down (by unfold DM.mid; dsimp only; rw [layB_len]; omega)]
  rfl
theorem Rest.midOk {m : DM} {n : Nat} (H : Rest m n) (h : Hd) (b : List Nat) (fr k : Nat) (hk : k ≤ 40) (hi : ∀ j, j < k → 2 + h.half * m.hs + (fr + j) < m.B.length) : (m.mid h b fr k).Ok (n + 81) ∧ (m.mid2 h b fr k).Ok (n + 83) := by
  have e := H.eqs h b fr k
  have h1 := (H.wroteOk h.half b fr k (by omega) hi).sync
  rw [e.1] at h1
  have h3 := h1.write ((h.gen % 2 : Nat) : Int) (hdrL h.gen h.half h.snap h.log m.sz) (hdr_len _ _ _ _ _ H.sz) (by unfold DM.mid; simp)
  rw [e.2.1] at h3
  exact ⟨h1.mono (by omega), h3.mono (by omega)⟩
theorem Rest.saved {m : DM} {n : Nat} (H : Rest m n) (h : Hd) (b : List Nat) (fr k : Nat) (hk : k ≤ 40) (hi : ∀ j, j < k → 2 + h.half * m.hs + (fr + j) < m.B.length) : Rest (m.saved h b fr k) (n + 100) := by
  have h4 := (H.midOk h b fr k hk hi).2.sync
  rw [(H.eqs h b fr k).2.2] at h4
  exact ⟨h4.mono (by omega), H.left, H.down, rfl, H.sz, by simp only [DM.saved, List.length_set, layB_len]; exact H.nb⟩

/-- how many sectors a save writes -/
def cnt (len sz fr : Nat) : Nat := (len + sz - 1) / sz - fr
theorem cnt_lt {len sz fr j : Nat} (hs : 0 < sz) (hf : fr * sz ≤ len) (hj : j ≤ cnt len sz fr) : j < cnt len sz fr ↔ (fr + j) * sz < len := by
  have e1 : ∀ x, x < (len + sz - 1) / sz ↔ x * sz < len := by
    intro x
    rw [Nat.lt_iff_add_one_le, Nat.le_div_iff_mul_le hs, Nat.add_mul]
    omega
  have e2 := e1 (fr + j)
  unfold cnt
  omega

end Go.Proofs.Ytbpdjekibcbaaaa
