import Derived.Test.YtblfplkocljlgaaTPut
namespace Go.Proofs.Ytblfplkocljlgaa
open Go.RowKit Go.ChangeMaps
set_option linter.unusedVariables false
set_option linter.unusedSimpArgs false

def TM.find (m : TM) (k : KK) : Option (List Px) := (m.l.find? (fun t => decide (t.1 = k))).map (·.2)

theorem look_map (l : List (KK × List Px)) (f : KK → Value) (k : KK) : lookK (l.map fun t => (t.1, f t.1)) k = (l.find? (fun t => decide (t.1 = k))).map (fun _ => f k) := by
  unfold lookK
  rw [List.find?_map, Option.map_map]
  have e : ((fun p : KK × Value => decide (p.1 = k)) ∘ fun t : KK × List Px => (t.1, f t.1)) = fun t => decide (t.1 = k) := rfl
  rw [e]
  cases h : l.find? (fun t => decide (t.1 = k)) with
  | none => rfl
  | some t =>
    have := List.find?_some h
    simp only [decide_eq_true_eq] at this
    simp [this]

set_option maxHeartbeats 1600000 in
theorem len_any (c : Nat) (m : TM) (S : Nat → Prop) (w : World) (h : TK w c m S) : Calls Try.prog 26 #[.pointer (some ⟨c, 0, none⟩)] w fun e w' => e = .returned (.int .i64 (m.l.length : Int)) ∧ w' = w := by
  obtain ⟨M, ov, f, h⟩ := h
  obtain ⟨A0, cap0, rfl⟩ := own_slice h.ord.1
  rw [keys_len] at h
  have c2 := h.cell.2.2
  have hcl := h.lt c h.sc
  clear h
  go_enter Try.func26, Try.ntmps26
  go_wp2
  go_ret
  exact ⟨rfl, rfl⟩

set_option maxHeartbeats 1600000 in
theorem all_any (c : Nat) (m : TM) (S : Nat → Prop) (w : World) (h : TK w c m S) (hlen : m.l.length ≤ 5000) : Calls Try.prog 21 #[.pointer (some ⟨c, 0, none⟩)] w fun e w' => ∃ v', e = .returned v' ∧ OwnK 23 w.heap.size w' v' m.keys ∧ Ext w w' := by
  obtain ⟨M, ov, f, h⟩ := h
  have CL := Lib.hid (kclone_any ov m.keys w h.ord.kys (by rw [keys_len]; omega))
  obtain ⟨A0, cap0, rfl⟩ := own_slice h.ord.1
  obtain ⟨N0, hN0⟩ : ∃ N, m.keys.length = N := ⟨_, rfl⟩
  rw [hN0] at h CL
  have c2 := h.cell.2.2
  have hcl := h.lt c h.sc
  clear h
  go_enter Try.func21, Try.ntmps21
  go_wp2_with fail
  refine CL.out.mono ?_
  rintro e w1 ⟨v1, rfl, hO, hE⟩
  have HO := Lib.hid (And.intro hO hE)
  clear hO hE c2
  go_wp2
  go_ret
  exact ⟨_, rfl, HO.out⟩

set_option maxRecDepth 100000 in
set_option maxHeartbeats 3200000 in
theorem clear_any (c : Nat) (m : TM) (S : Nat → Prop) (w : World) (h : TK w c m S) : Calls Try.prog 43 #[.pointer (some ⟨c, 0, none⟩)] w fun e w' => e = .returned (.tuple #[]) ∧ TK w' c { m with l := [] } S ∧ Keep w w' S := by
  obtain ⟨M, ov, f, h⟩ := h
  obtain ⟨A0, cap0, rfl⟩ := own_slice h.ord.1
  have H := Lib.hid h
  obtain ⟨c0, c1, c2⟩ := h.cell
  have fz := fun j => h.frozen j
  have hcl := h.lt c h.sc
  obtain ⟨w3, hd, hM3, hK3⟩ := run_clearM (t := 75) (K := 23) (E := 47) 0 Try.underlying75 h.mp
  have hb3 : w3.heap[c]? = some (.cells #[.int .i64 (m.most : Int), .map (some M), .slice A0 m.keys.length cap0] 77 (0, 0)) := by rw [hK3.block c hcl h.cM]; exact h.blk
  have d2 : w3.cell? ⟨c, 2, none⟩ = some (.slice A0 m.keys.length cap0) := by rw [cell_of_row w3 c _ _ _ (0, 0) hb3]; rfl
  have f2 : w3.frozen? ⟨c, 2, none⟩ = false := by simp [World.frozen?, hb3]
  have K5 : Keep w3 (w3.setCell ⟨c, 2, none⟩ (.slice none 0 0)) (fun b => b = c) := Keep.setCell
  have FIN : Hid (TK (w3.setCell ⟨c, 2, none⟩ (.slice none 0 0)) c { m with l := [] } S ∧ Keep w (w3.setCell ⟨c, 2, none⟩ (.slice none 0 0)) S) := Lib.hid ⟨⟨M, .slice none 0 0, f, by rw [heap_setCell_same w3 c 2 _ 77 _ hb3]; rfl, hM3.block (K5.block M hM3.lt h.cM.symm), OwnK.nil _ _ _, (fun t ht => by simp at ht), h.sc, h.sM, (fun b hb => by simp [Value.ownBlock] at hb), fun b hb => Nat.lt_of_lt_of_le (Nat.lt_of_lt_of_le (h.lt b hb) hK3.size) K5.size⟩,
    (hK3.mono (T := S) (fun b e => by rw [e]; exact h.sM)).trans (K5.mono (T := S) (fun b e => by rw [e]; exact h.sc)) (fun _ _ x => x)⟩
  clear h hM3 hK3 hb3 K5
  go_enter Try.func43, Try.ntmps43
  go_wp2
  refine bodyPost_end (results_none rfl _ _ _) rfl ?_
  exact ⟨rfl, FIN.out⟩

set_option maxRecDepth 100000 in
set_option maxHeartbeats 3200000 in
/-- a tile that is there, in new memory -/
theorem get_any (c : Nat) (m : TM) (S : Nat → Prop) (k : KK) (w : World) (h : TK w c m S) (hk : inK k) (hlen : ∀ t ∈ m.l, t.2.length ≤ 1000) :
    Calls Try.prog 23 #[.pointer (some ⟨c, 0, none⟩), .agg #[.int .i64 k.1, .int .i64 k.2]] w fun e w' => (∃ pv, e = .returned (.tuple #[.agg #[.int .i64 (if (m.find k).isSome then 8 else 0), .int .i64 (if (m.find k).isSome then 8 else 0), pv], .bool (m.find k).isSome]) ∧ OwnP .u8 68 w.heap.size w' pv ((m.find k).getD [])) ∧ Ext w w' := by
  obtain ⟨M, ov, f, h⟩ := h
  obtain ⟨x, y⟩ := k
  have hz : ∀ w, (zeroValue 47).run Try.prog w = .ok (.agg #[.int .i64 0, .int .i64 0, .slice none 0 0]) w := fun w => by kernel_rfl
  have hru0 : ∀ wx, Ext w wx → (Instr.lookup 75 (.map (some M)) (keyV (x, y)) true).run Try.prog wx = _ := fun wx hx => run_look (t := 75) (K := 23) (E := 47) mapK_Key Try.underlying75 hz (h.mp.ext hx) true (x, y) hk
  rw [look_map] at hru0
  simp only [if_true, keyV] at hru0
  obtain ⟨d, bb, lp, A, n, cap, hd, hb, hlp, hP, hru, hll⟩ : ∃ (d : Int) (bb : Bool) (lp : List Px) (A : Option Addr) (n cap : Nat), (if (m.find (x, y)).isSome then 8 else 0) = d ∧ (m.find (x, y)).isSome = bb ∧ (m.find (x, y)).getD [] = lp ∧ Pix .u8 w (.slice A n cap) lp ∧
      (∀ wx, Ext w wx → (Instr.lookup 75 (.map (some M)) (.agg #[.int .i64 x, .int .i64 y]) true).run Try.prog wx = .ok (.tuple #[.agg #[.int .i64 d, .int .i64 d, .slice A n cap], .bool bb]) wx) ∧ lp.length ≤ 1000 := by
    unfold TM.find
    cases hf : m.l.find? (fun t => decide (t.1 = (x, y))) with
    | none =>
      rw [hf] at hru0
      exact ⟨0, false, [], none, 0, 0, rfl, rfl, rfl, ⟨none, 0, rfl, Nat.le_refl _, by omega, fun _ => rfl, fun i => by simp [okP, noP], fun h => by simp at h⟩, fun wx hx => by rw [hru0 wx hx]; rfl, by simp⟩
    | some t =>
      rw [hf] at hru0
      have ht := List.mem_of_find?_eq_some hf
      have hk1 := List.find?_some hf
      simp only [decide_eq_true_eq] at hk1
      obtain ⟨pv, e1, e2, e3⟩ := h.px t ht
      obtain ⟨A, cap, rfl⟩ := own_slice e2.1
      refine ⟨8, true, t.2, A, t.2.length, cap, rfl, rfl, rfl, e2.pix, fun wx hx => ?_, hlen t ht⟩
      rw [hru0 wx hx, ← hk1]
      simp only [Option.map_some, Option.getD_some, Option.isSome_some]
      rw [e1]
  rw [hd, hb, hlp]
  have P := Lib.hid hP
  have HL := Lib.hid hll
  have c1 := h.cell.2.1
  have hcl := h.lt c h.sc
  have HN := Lib.hid hP.len
  clear h hru0 hd hb hlp hP hll hlen hz hk
  go_enter Try.func23, Try.ntmps23
  go_wp2
  obtain ⟨wa, hwa⟩ : ∃ wa, (w.alloc (.cells #[.int .i64 x, .int .i64 y] 23)).alloc (.cells #[.int .i64 0, .int .i64 0, .slice none 0 0] 47) = wa := ⟨_, rfl⟩
  obtain ⟨q, hq⟩ : ∃ q, w.heap.size = q := ⟨_, rfl⟩
  have EA : Hid (Ext w wa) := Lib.hid (by rw [← hwa]; exact ((Ext.refl w).alloc _).alloc _)
  have BA : Hid (wa.cell? ⟨q, 0, none⟩ = some (.int .i64 x) ∧ wa.cell? ⟨q, 1, none⟩ = some (.int .i64 y) ∧ q + 1 < wa.heap.size ∧ wa.heap[q + 1]? = some (.cells #[.int .i64 0, .int .i64 0, .slice none 0 0] 47 (0, 0))) := Lib.hid (by
    rw [← hwa, ← hq]; refine ⟨by simp [go_sem], by simp [go_sem], by simp, ?_⟩
    have := heap_alloc_new (w.alloc (.cells #[.int .i64 x, .int .i64 y] 23)) (.cells #[.int .i64 0, .int .i64 0, .slice none 0 0] 47)
    simpa using this)
  rw [hwa, hq]
  have HQ := Lib.hid hq
  clear hwa
  have y0 : wa.cell? ⟨c, 1, none⟩ = some (.map (some M)) := by rw [EA.out.cell hcl]; exact c1
  have y1 := BA.out.1
  have y2 := BA.out.2.1
  have y3 : q < wa.heap.size := by have := BA.out.2.2.1; omega
  have y4 : c < wa.heap.size := Nat.lt_of_lt_of_le hcl EA.out.size
  have r0 := hru wa EA.out
  have r1 := hru wa.drew (EA.out.drew')
  have r2 := hru ((wa.alloc (.cells #[.int .i64 0, .int .i64 0, .slice none 0 0] 47)).drew) ((EA.out.alloc _).drew')
  have r3 := hru (wa.drew.alloc (.cells #[.int .i64 0, .int .i64 0, .slice none 0 0] 47)) ((EA.out.drew').alloc _)
  have CP := Lib.hid (fun wx (hx : Ext w wx) => copied_any d d (.slice A n cap) lp wx (P.out.ext hx) (by have := HL.out; omega))
  have RD : Hid ((.slice A n cap : Value) = .slice A n cap) := Lib.hid rfl
  clear hru hq c1
  go_region
  all_goals (
    obtain ⟨wb, hwb⟩ : ∃ wb, (wa.alloc (.cells #[.int .i64 d, .int .i64 d, .slice A n cap] 47)).drew = wb := ⟨_, rfl⟩
    have EB : Ext wa wb := by rw [← hwb]; exact ((Ext.refl wa).alloc _).drew'
    have EB' : Hid (Ext w wb ∧ wb.heap[q + 1]? = some (.cells #[.int .i64 0, .int .i64 0, .slice none 0 0] 47 (0, 0))) := Lib.hid ⟨EA.out.trans EB, EB.heapAt BA.out.2.2.2⟩
    have g0 : wb.cell? ⟨wa.heap.size, 0, none⟩ = some (.int .i64 d) := by rw [← hwb]; simp [go_sem]
    have g1 : wb.cell? ⟨wa.heap.size, 1, none⟩ = some (.int .i64 d) := by rw [← hwb]; simp [go_sem]
    have g2 : wb.cell? ⟨wa.heap.size, 2, none⟩ = some (.slice A n cap) := by rw [← hwb]; simp [go_sem]
    rw [hwb]
    clear hwb EB r0 r1 r2 r3 y0 y1 y2 y3 y4
    go_wp2_with fail
    refine (CP.out wb EB'.out.1).mono ?_
    rintro e w9 ⟨pv, rfl, hO, hE⟩
    obtain ⟨A1, cap1, rfl⟩ := own_slice hO.1
    obtain ⟨n1, hn1⟩ : ∃ n1, lp.length = n1 := ⟨_, rfl⟩
    rw [hn1] at hO ⊢
    have hb9 := hE.heapAt EB'.out.2
    have f0 : ∀ j, w9.frozen? ⟨q + 1, j, none⟩ = false := fun j => by simp [World.frozen?, hb9]
    have k0 : w9.cell? ⟨q + 1, 0, none⟩ = some (.int .i64 0) := by rw [cell_of_row w9 _ _ _ _ (0, 0) hb9]; rfl
    have k1 : w9.cell? ⟨q + 1, 1, none⟩ = some (.int .i64 0) := by rw [cell_of_row w9 _ _ _ _ (0, 0) hb9]; rfl
    have k2 : w9.cell? ⟨q + 1, 2, none⟩ = some (.slice none 0 0) := by rw [cell_of_row w9 _ _ _ _ (0, 0) hb9]; rfl
    have hq9 : q + 1 < w9.heap.size := (Array.getElem?_eq_some_iff.1 hb9).1
    have O9 : Hid (OwnP .u8 68 (q + 2) w9 (.slice A1 n1 cap1) lp) := Lib.hid (hO.mono (by have := (Array.getElem?_eq_some_iff.1 EB'.out.2).1; omega))
    have E9 : Hid (Ext w w9) := Lib.hid (EB'.out.1.trans hE)
    have HN1 := Lib.hid hn1
    have hbF : (((w9.setCell ⟨q + 1, 0, none⟩ (.int .i64 d)).setCell ⟨q + 1, 1, none⟩ (.int .i64 d)).setCell ⟨q + 1, 2, none⟩ (.slice A1 n1 cap1)).heap[q + 1]? = some (.cells #[.int .i64 d, .int .i64 d, .slice A1 n1 cap1] 47 (0, 0)) := by
      have h1 := heap_setCell_same w9 (q + 1) 0 _ 47 (.int .i64 d) hb9
      have h2 := heap_setCell_same _ (q + 1) 1 _ 47 (.int .i64 d) h1
      have h3 := heap_setCell_same _ (q + 1) 2 _ 47 (.slice A1 n1 cap1) h2
      exact h3
    clear hO hE hb9 g0 g1 g2 hn1
    go_wp2
    have hE10 : Ext w (((w9.setCell ⟨q + 1, 0, none⟩ (.int .i64 d)).setCell ⟨q + 1, 1, none⟩ (.int .i64 d)).setCell ⟨q + 1, 2, none⟩ (.slice A1 n1 cap1)) := ((E9.out.setCell (by rw [HQ.out]; simp) _).setCell (by rw [HQ.out]; simp) _).setCell (by rw [HQ.out]; simp) _
    have hrow := row_set (g := q + 1) (i := 2) (u := .slice A1 n1 cap1) (row_set (g := q + 1) (i := 1) (u := .int .i64 d) (row_set (g := q + 1) (i := 0) (u := .int .i64 d) O9.out.1 (by omega)) (by omega)) (by omega)
    obtain ⟨wF, hwF⟩ : ∃ wF, (((w9.setCell ⟨q + 1, 0, none⟩ (.int .i64 d)).setCell ⟨q + 1, 1, none⟩ (.int .i64 d)).setCell ⟨q + 1, 2, none⟩ (.slice A1 n1 cap1)) = wF := ⟨_, rfl⟩
    rw [hwF] at hbF hE10 hrow ⊢
    have p0 : wF.cell? ⟨q + 1, 0, none⟩ = some (.int .i64 d) := by rw [cell_of_row wF _ _ _ _ (0, 0) hbF]; rfl
    have p1 : wF.cell? ⟨q + 1, 1, none⟩ = some (.int .i64 d) := by rw [cell_of_row wF _ _ _ _ (0, 0) hbF]; rfl
    have p2 : wF.cell? ⟨q + 1, 2, none⟩ = some (.slice A1 n1 cap1) := by rw [cell_of_row wF _ _ _ _ (0, 0) hbF]; rfl
    refine bodyPost_ret (v := .tuple #[.agg #[.int .i64 d, .int .i64 d, .slice A1 n1 cap1], .bool bb]) (by simp [results, Try.results23, go_sem, p0, p1, p2]) rfl ⟨⟨_, rfl, ?_⟩, hE10⟩
    exact OwnP.mono (b := q + 2) ⟨hrow, O9.out.2⟩ (by rw [HQ.out]; omega))

end Go.Proofs.Ytblfplkocljlgaa
