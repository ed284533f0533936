import Derived.Test.YtblfplkocljlgaaTJoin
import Derived.Test.YtblfplkocljlgaaTDropsW
namespace Go.Proofs.Ytblfplkocljlgaa
open Go.RowKit Go.ChangeMaps
set_option linter.unusedVariables false
set_option linter.unusedSimpArgs false

/-- a call of a function value, at a step of a region that draws -/
theorem step_enter {P : Program} {ops : Array Oper} {o : Oper} {a : Act} {w : World} {K : Act → World → Prop} {Q : Exit → Act → World → Prop} {E : Prop} {f : FuncId} {vs : Array Value} {R : Ending → World → Prop}
    (hg : o.guard = none) (he : (execOp a.eval o).run P w = .ok (.enter f vs) w) (hc : Calls P f vs w R)
    (hK : ∀ e w', R e w' → ∃ v, e = .returned v ∧ K (a.put o.dst v) w') : if Region.wanted o (yielded ops a.tmps) = true then Oper.wp P o a w K Q else E := by
  have hw : Region.wanted o (yielded ops a.tmps) = true := by simp [Region.wanted, hg]
  rw [if_pos hw]
  unfold Oper.wp
  rw [he]
  refine hc.mono fun e w' hR => ?_
  obtain ⟨v, rfl, hk⟩ := hK e w' hR
  exact hk

/-- the tile of a key -/
def tileJ (s : Nat) (k : KK) : List Px := (List.range 64).map fun t => colJ s (8 * k.1 + ((t % 8 : Nat) : Int)) (8 * k.2 + ((t / 8 : Nat) : Int))

theorem tileJ_len (s : Nat) (k : KK) : (tileJ s k).length = 64 := by simp [tileJ]
theorem tileJ_take (s : Nat) (k : KK) (t : Nat) (ht : t < 64) : (tileJ s k).take (t + 1) = (tileJ s k).take t ++ [colJ s (8 * k.1 + ((t % 8 : Nat) : Int)) (8 * k.2 + ((t / 8 : Nat) : Int))] := by
  rw [take_succ_getD _ t noP (by rw [tileJ_len]; exact ht)]
  congr 2
  unfold tileJ
  rw [List.getD_eq_getElem?_getD, List.getElem?_map, List.getElem?_range ht]; rfl

theorem tileJ_V (s : Nat) (k : KK) : TileV (tileJ s k) k (colJ s) := by
  refine ⟨tileJ_len s k, fun x y h => ?_⟩
  obtain ⟨kx, ky⟩ := k
  simp only [Prod.mk.injEq] at h
  obtain ⟨a, ha⟩ : ∃ a : Nat, x - 8 * kx = a := ⟨(x - 8 * kx).toNat, by omega⟩
  obtain ⟨b, hb⟩ : ∃ b : Nat, y - 8 * ky = b := ⟨(y - 8 * ky).toNat, by omega⟩
  dsimp only
  rw [ha, hb, Int.toNat_natCast, Int.toNat_natCast]
  have ha8 : a < 8 := by omega
  have hb8 : b < 8 := by omega
  unfold tileJ
  rw [List.getD_eq_getElem?_getD, List.getElem?_map, List.getElem?_range (by omega)]
  simp only [Option.map_some, Option.getD_some]
  rw [show (b * 8 + a) % 8 = a by omega, show (b * 8 + a) / 8 = b by omega]
  congr 1 <;> omega

theorem tileJ_ok (s : Nat) (k : KK) (hs : s ≤ 255) : rightI 8 8 (tileJ s k) = true := by
  unfold rightI allRight
  rw [tileJ_len]
  have h : (tileJ s k).all rightP = true := by
    unfold tileJ
    rw [List.all_map, List.all_eq_true]
    intro t _
    exact colJ_right s _ _ hs
  rw [h]
  simp [sideB]

/-- the tiles that were put -/
def tilesJ (s : Nat) (X Y : Int) (nx : Nat) (miss : Int) (i : Nat) : List (KK × List Px) := ((List.range i).filter fun j : Nat => decide ((j : Int) ≠ miss)).map fun j => (keyAt X Y nx j, tileJ s (keyAt X Y nx j))

theorem tilesJ_mem {s : Nat} {X Y : Int} {nx : Nat} {miss : Int} {i : Nat} {t : KK × List Px} (h : t ∈ tilesJ s X Y nx miss i) : ∃ j, j < i ∧ (j : Int) ≠ miss ∧ t = (keyAt X Y nx j, tileJ s (keyAt X Y nx j)) := by
  unfold tilesJ at h
  obtain ⟨j, hj, e⟩ := List.mem_map.1 h
  obtain ⟨h1, h2⟩ := List.mem_filter.1 hj
  exact ⟨j, List.mem_range.1 h1, by simpa using h2, e.symm⟩

theorem tilesJ_len (s : Nat) (X Y : Int) (nx : Nat) (miss : Int) (i : Nat) : (tilesJ s X Y nx miss i).length ≤ i := by
  unfold tilesJ
  rw [List.length_map]
  refine Nat.le_trans (List.length_filter_le _ _) ?_
  simp

theorem tilesJ_skip (s : Nat) (X Y : Int) (nx : Nat) (miss : Int) (i : Nat) (h : (i : Int) = miss) : tilesJ s X Y nx miss (i + 1) = tilesJ s X Y nx miss i := by
  unfold tilesJ
  rw [List.range_succ, List.filter_append]
  simp [h]

theorem tilesJ_put (s : Nat) (X Y : Int) (nx : Nat) (miss : Int) (i N : Nat) (hn : 0 < nx) (h : (i : Int) ≠ miss) (hi : i < N) : (TM.put ⟨N, tilesJ s X Y nx miss i⟩ (keyAt X Y nx i) (tileJ s (keyAt X Y nx i))) = ⟨N, tilesJ s X Y nx miss (i + 1)⟩ := by
  have hg : TM.gone ⟨N, tilesJ s X Y nx miss i⟩ (keyAt X Y nx i) = ⟨N, tilesJ s X Y nx miss i⟩ := by
    unfold TM.gone
    simp only [TM.mk.injEq, true_and]
    refine List.filter_eq_self.2 (fun t ht => ?_)
    obtain ⟨j, hj, _, rfl⟩ := tilesJ_mem ht
    simp only [decide_eq_true_eq]
    intro e
    have := keyAt_inj hn e
    omega
  have ha : TM.add ⟨N, tilesJ s X Y nx miss i⟩ (keyAt X Y nx i) (tileJ s (keyAt X Y nx i)) = ⟨N, tilesJ s X Y nx miss (i + 1)⟩ := by
    unfold TM.add tilesJ
    simp only [TM.mk.injEq, true_and]
    rw [List.range_succ, List.filter_append, List.map_append]
    simp [h]
  unfold TM.put
  rw [hg, ha]
  unfold TM.trim
  rw [if_neg]
  have := tilesJ_len s X Y nx miss (i + 1)
  simp only
  omega

theorem tilesJ_find (s : Nat) (X Y : Int) (nx : Nat) (miss : Int) (N j : Nat) (hn : 0 < nx) (hj : j < N) : TM.find ⟨N, tilesJ s X Y nx miss N⟩ (keyAt X Y nx j) = if (j : Int) = miss then none else some (tileJ s (keyAt X Y nx j)) := by
  unfold TM.find
  simp only
  cases hf : (tilesJ s X Y nx miss N).find? (fun t => decide (t.1 = keyAt X Y nx j)) with
  | none =>
    split
    · rfl
    · rename_i hm
      have hmem : (keyAt X Y nx j, tileJ s (keyAt X Y nx j)) ∈ tilesJ s X Y nx miss N := by
        unfold tilesJ
        exact List.mem_map.2 ⟨j, List.mem_filter.2 ⟨List.mem_range.2 hj, by simpa using hm⟩, rfl⟩
      have := List.find?_eq_none.1 hf _ hmem
      simp at this
  | some t =>
    have h1 := List.find?_some hf
    simp only [decide_eq_true_eq] at h1
    obtain ⟨j', hj', hm', rfl⟩ := tilesJ_mem (List.mem_of_find?_eq_some hf)
    have := keyAt_inj hn h1
    subst this
    rw [if_neg hm']; rfl

end Go.Proofs.Ytblfplkocljlgaa
