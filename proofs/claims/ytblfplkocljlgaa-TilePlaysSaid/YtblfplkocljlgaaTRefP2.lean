import Derived.Test.YtblfplkocljlgaaTRefP
namespace Go.Proofs.Ytblfplkocljlgaa
open Go.RowKit Go.ChangeMaps
set_option linter.unusedVariables false
set_option linter.unusedSimpArgs false

def putL (l : List KK) (k : KK) (most : Nat) : List KK := if most < (dropK l k ++ [k]).length then (dropK l k ++ [k]).tail else dropK l k ++ [k]

theorem kys_tail {T : TypeId} {base : Nat} {w : World} {g n c : Nat} {l : List KK} (h : OwnK T base w (.slice (some ⟨g, 0, none⟩) n c) l) (hn : 2 ≤ n) : Kys w (.slice (some ⟨g, 2, none⟩) (n - 1) (c - 1)) l.tail := by
  obtain ⟨A, cap, e, h1, h2, h3, h4, h5⟩ := h.kys
  simp only [Value.slice.injEq] at e
  obtain ⟨rfl, rfl, rfl⟩ := e
  obtain ⟨b, off, e1, e2, e3⟩ := h5 (by omega)
  simp only [Option.some.injEq, Addr.mk.injEq, and_true] at e1
  obtain ⟨rfl, rfl⟩ := e1
  have hg : ∀ i, l.tail.getD i noK = l.getD (i + 1) noK := fun i => by
    cases l with
    | nil => simp
    | cons a l => simp
  refine ⟨_, _, by rw [List.length_tail], by rw [List.length_tail]; omega, by omega, (fun h => by cases h), fun i => by rw [hg]; exact h4 (i + 1), fun _ => ⟨g, 2, rfl, e2, fun i hi j hj => ?_⟩⟩
  rw [List.length_tail] at hi
  rw [hg, ← e3 (i + 1) (by omega) j hj]
  congr 2
  omega

set_option maxRecDepth 100000 in
set_option maxHeartbeats 3200000 in
theorem refPut_any (v : Value) (l : List KK) (x y : Int) (most : Nat) (w : World) (hl : Kys w v l) (hn : l.length ≤ 10000) (hm : 1 ≤ most ∧ most ≤ 4096) (hk : inK (x, y)) :
    Calls Try.prog 40 #[v, .agg #[.int .i64 x, .int .i64 y], .int .i64 (most : Int)] w fun e w' => ∃ A n c, e = .returned (.slice A n c) ∧ Kys w' (.slice A n c) (putL l (x, y) most) ∧ (∀ b, (Value.slice A n c).ownBlock = some b → w.heap.size ≤ b ∧ b < w'.heap.size) ∧ Ext w w' := by
  have P := Lib.hid hl
  obtain ⟨A, cap, rfl, hcap, hmx, _⟩ := hl
  obtain ⟨N, hN⟩ : ∃ N, l.length = N := ⟨_, rfl⟩
  rw [hN] at P hcap hn ⊢
  have HN := Lib.hid hN
  have IK := Lib.hid hk
  obtain ⟨D, hD⟩ : ∃ D, dropK l (x, y) = D := ⟨_, rfl⟩
  have WO := Lib.hid (fun wx (hx : Ext w wx) => without_any (.slice A N cap) l x y wx (P.out.ext hx) (by omega))
  have hDl : D.length ≤ 10000 := by
    have := List.length_filter_le (fun p => decide (p ≠ (x, y))) l
    rw [← hD]; refine Nat.le_trans this ?_; omega
  rw [hD] at WO
  have HD := Lib.hid hD
  clear hN hk hD
  obtain ⟨q, hq⟩ : ∃ q, w.heap.size = q := ⟨_, rfl⟩
  obtain ⟨wa, hwa⟩ : ∃ wa, w.alloc (.cells #[.int .i64 x, .int .i64 y] 28) = wa := ⟨_, rfl⟩
  have EA : Hid (Ext w wa) := Lib.hid (by rw [← hwa]; exact (Ext.refl _).alloc _)
  have hql : q < wa.heap.size := by rw [← hwa, ← hq]; simp
  have z0 : ∀ g', (wa.ext g').cell? ⟨q, 0, none⟩ = some (.int .i64 x) := fun g' => by rw [(Ext.ext (Ext.refl _) g').cell hql, ← hwa, ← hq]; simp [go_sem]
  have z1 : ∀ g', (wa.ext g').cell? ⟨q, 1, none⟩ = some (.int .i64 y) := fun g' => by rw [(Ext.ext (Ext.refl _) g').cell hql, ← hwa, ← hq]; simp [go_sem]
  have HQ := Lib.hid hq
  have HWA := Lib.hid hwa
  clear hwa hq
  go_enter Try.func40, Try.ntmps40
  go_wp2_with (first | rw [HWA.out, HQ.out] | fail)
  refine region_flow 5 [10, 12] (fun t v => match t with | 10 => ∃ A n c, v = .slice A n c | 12 => ∃ g, v = .slice (some ⟨g, 0, none⟩) 1 1 | _ => False) (fun t v w' => match t with | 10 => OwnK 28 wa.heap.size w' v D | 12 => Kys w' v [(x, y)] | _ => False) (by kernel_rfl) (by kernel_rfl) ?hq ?hu ?hR ?h
  case hq => intro t v h; split at h <;> simp_all
  case hu => intro t h; split at h <;> simp [undef] at h
  case hR => intro t v wx wy _ h he; split at h <;> first | exact OwnK.ext h he | exact Kys.ext h he | exact h.elim
  case h =>
    dsimp only [List.take, List.drop]
    iterate 2 (refine Flow.plain rfl rfl ?_; go_big_quiet_step (fail); refine wpQuiet_nil ?_)
    refine Flow.call Try.call42 [.slice A N cap, .agg #[.int .i64 x, .int .i64 y]] rfl rfl rfl ?_ (fun wx hx hf => (WO.out wx (EA.out.trans hx)).mono ?_) ?_
    · exact ⟨.slice none 0 0, _, _, _, rfl⟩
    · rintro e w' ⟨v', rfl, hO, hE⟩
      obtain ⟨A1, cap1, rfl⟩ := own_slice hO.1
      exact ⟨_, rfl, hE, ⟨_, _, _, rfl⟩, hO.mono hx.size⟩
    rintro v ⟨A1, n1, cap1, rfl⟩
    simp only [Act.put, List.setIfInBounds_toArray, List.set_cons_zero, List.set_cons_succ]
    refine Flow.plain rfl rfl ?_; go_big_quiet_step (fail); refine wpQuiet_nil ?_
    refine Flow.make 12 rfl rfl rfl ⟨.slice (some ⟨0, 0, none⟩) 1 1, 0, rfl⟩ (fun wx hx hf => ⟨.slice (some ⟨wx.heap.size, 0, none⟩) 1 1, wx.alloc (.cells #[.int .i64 x, .int .i64 y] 28), ?_, (Ext.refl _).alloc _, ⟨_, rfl⟩, ?_⟩) ?_
    · simp [execOp, go_sem]
    · exact ky_one (by simp) IK.out (by intro j hj; rcases j with _ | _ | j <;> (first | omega | simp [go_sem, cellsK]))
    rintro v ⟨g2, rfl⟩
    simp only [Act.put, List.setIfInBounds_toArray, List.set_cons_zero, List.set_cons_succ]
    refine Flow.nil fun w5 hx5 hf => ?_
    have hO := hf 10 (by simp) ⟨A1, n1, cap1, rfl⟩
    have hY := hf 12 (by simp) ⟨g2, rfl⟩
    simp only [Act.eval] at hO hY
    have O5 : Hid (OwnK 28 wa.heap.size w5 (.slice A1 n1 cap1) D) := Lib.hid hO
    have Y5 : Hid (Kys w5 (.slice (some ⟨g2, 0, none⟩) 1 1) [(x, y)]) := Lib.hid hY
    obtain rfl : n1 = D.length := O5.out.kys.len
    have E5 := Lib.hid (EA.out.trans hx5)
    have Z : Hid (D.length + ([(x, y)] : List KK).length ≤ 1000000) := Lib.hid (by simp; omega)
    have BB : Hid (wa.heap.size ≤ w5.heap.size) := Lib.hid hx5.size
    clear hO hY hf z0 z1 hx5
    go_wp2_with (at_builtin; refine wpList_kys kyR rfl (.tmp 10) (.tmp 12) rfl rfl rfl O5.out Y5.out Z.out BB.out ?_)
    intro v9 w9 hO9 hg9 hown9
    obtain ⟨A9, cap9, rfl⟩ := own_slice hO9.1
    obtain ⟨L, hL⟩ : ∃ L, D ++ [(x, y)] = L := ⟨_, rfl⟩
    have hLl : L.length = D.length + 1 := by rw [← hL]; simp
    rw [hL] at hO9 ⊢
    rw [hLl] at hO9 ⊢
    have PL : Hid (putL l (x, y) most = if most < D.length + 1 then L.tail else L) := Lib.hid (by unfold putL; rw [HD.out, hL, hLl])
    have E9 : Ext w w9 := Keep.toExt E5.out (Keep.grown hg9) (fun k hk => by have := (O5.out.1.lt k hk).1; have := EA.out.size; omega)
    have R9 := Lib.hid (And.intro hO9 E9)
    have WS := Lib.hid EA.out.size
    obtain ⟨dn, hdn⟩ : ∃ dn, D.length = dn := ⟨_, rfl⟩
    rw [hdn] at R9 PL ⊢
    have hdn2 : dn ≤ 10000 := by omega
    clear hO9 hg9 hown9 E9 hL hLl
    by_cases hgt : most < dn + 1
    · have hgt' : (most : Int) < (dn : Int) + 1 := by omega
      have hcap9 : dn + 1 ≤ cap9 := by obtain ⟨A', c', e, h1, h2, _⟩ := R9.out.1.kys; simp only [Value.slice.injEq] at e; obtain ⟨-, e2, e3⟩ := e; omega
      have hrow := R9.out.1.1
      rw [← R9.out.1.kys.len] at hrow
      obtain ⟨g, rfl⟩ := own_some hrow (by omega)
      clear hrow
      have KT := Lib.hid (kys_tail R9.out.1 (by omega))
      rw [if_pos hgt] at PL
      clear hdn
      go_wp2
      go_ret
      exact ⟨_, _, _, rfl, by rw [PL.out]; exact KT.out, fun b hb => by
        simp only [Value.ownBlock, Option.some.injEq] at hb
        have := R9.out.1.1.lt g rfl
        have := WS.out
        omega, R9.out.2⟩
    · have hgt' : ¬ (most : Int) < (dn : Int) + 1 := by omega
      rw [if_neg hgt] at PL
      clear hdn
      go_wp2
      go_ret
      exact ⟨_, _, _, rfl, by rw [PL.out]; exact R9.out.1.kys, fun b hb => by have := R9.out.1.1.lt b hb; have := WS.out; omega, R9.out.2⟩

end Go.Proofs.Ytblfplkocljlgaa
