import Derived.Test.YtbhpnbeplomkoaaDOps
namespace Go.Proofs.Ytbhpnbeplomkoaa
open Go.RowKit
set_option linter.unusedVariables false
set_option linter.unusedSimpArgs false

def armInv (m : DM) (a : Int) : Prop := (0 ≤ a → m.left = a - m.done ∧ 0 ≤ m.left ∧ (m.down = true → m.left = 0)) ∧ (a < 0 → m.left = -1 ∧ m.down = false)
theorem armInv.cmd {m : DM} {a : Int} (h : armInv m a) : armInv m.cmd.1 a := by
  obtain ⟨h1, h2⟩ := h
  unfold DM.cmd
  constructor
  · intro ha
    obtain ⟨q1, q2, q3⟩ := h1 ha
    split
    · rename_i e; exact ⟨q1, q2, fun _ => e⟩
    · split
      · refine ⟨by dsimp only; omega, by dsimp only; omega, fun hd => ?_⟩
        have := q3 hd
        omega
      · omega
  · intro ha
    obtain ⟨q1, q2⟩ := h2 ha
    split
    · omega
    · split
      · omega
      · exact ⟨q1, q2⟩
theorem armInv.wait {m : DM} {a : Int} (h : armInv m a) (B : List (List Nat)) (W : List (Nat × List Nat)) : armInv { m with B := B, W := W } a := h
theorem armInv.write {m : DM} {a : Int} (h : armInv m a) (i : Int) (b : List Nat) : armInv (m.write i b).1 a := by
  unfold DM.write
  split
  · exact armInv.cmd (m := { m with W := m.W ++ [(i.toNat, b)] }) h
  · exact h
theorem armInv.sync {m : DM} {a : Int} (h : armInv m a) : armInv m.sync.1 a := by
  unfold DM.sync
  split
  · exact h
  · split
    · exact h.cmd
    · exact h.cmd
theorem cmd_same (m : DM) : m.cmd.1.B = m.B ∧ m.cmd.1.sz = m.sz ∧ m.cmd.1.R = m.R := by
  unfold DM.cmd
  split
  · exact ⟨rfl, rfl, rfl⟩
  · split <;> exact ⟨rfl, rfl, rfl⟩
theorem write_same (m : DM) (i : Int) (b : List Nat) : (m.write i b).1.B = m.B ∧ (m.write i b).1.sz = m.sz ∧ (m.write i b).1.R = m.R := by
  unfold DM.write
  split
  · exact cmd_same _
  · exact ⟨rfl, rfl, rfl⟩
theorem sync_same (m : DM) : m.sync.1.B.length = m.B.length ∧ m.sync.1.sz = m.sz ∧ m.sync.1.R = m.R := by
  unfold DM.sync
  split
  · exact ⟨rfl, rfl, rfl⟩
  · split
    · exact ⟨layB_len _ _, (cmd_same m).2⟩
    · have := cmd_same m; exact ⟨by rw [this.1], this.2⟩

/-- what the walk keeps: the disk, and the reads counted beside it -/
structure CSt (base : Nat) (w0 wr : World) (D g : Nat) (a : Int) (n : Nat) (m : DM) : Prop where
  dk : DK base wr D m
  ok : m.Ok n
  nb : m.B.length = 4
  sz : m.sz = 16
  inv : armInv m a
  blk : wr.heap[g]? = some (.cells (m.R.map natV).toArray 37 (0, 0))
  ext : Ext w0 wr
  lo : w0.heap.size = base ∧ base ≤ g

theorem CSt.lt {base : Nat} {w0 wr : World} {D g : Nat} {a : Int} {n : Nat} {m : DM} (h : CSt base w0 wr D g a n m) : g < wr.heap.size := (Array.getElem?_eq_some_iff.1 h.blk).1
theorem CSt.grow {base : Nat} {w0 wr wr' : World} {D g : Nat} {a : Int} {n n' : Nat} {m : DM} (h : CSt base w0 wr D g a n m) (he : Ext wr wr') (hn : n ≤ n') : CSt base w0 wr' D g a n' m :=
  ⟨h.dk.ext he, h.ok.mono hn, h.nb, h.sz, h.inv, he.heapAt h.blk, h.ext.trans he, h.lo⟩
theorem CSt.notTch {base : Nat} {w0 wr : World} {D g : Nat} {a : Int} {n : Nat} {m : DM} (h : CSt base w0 wr D g a n m) : ¬ Tch base wr g := by
  rintro ⟨_, c, t, f, h2, h3⟩
  have e := type_ne h.blk h2
  subst e
  revert h3; decide
theorem CSt.cell {base : Nat} {w0 wr : World} {D g : Nat} {a : Int} {n : Nat} {m : DM} (h : CSt base w0 wr D g a n m) {k : Nat} (hk : k < 4) : wr.cell? ⟨g, k, none⟩ = some (.int .i64 ((m.R.getD k 0 : Nat) : Int)) := by
  rw [cell_of_row _ _ _ _ _ _ h.blk]
  have hl : k < m.R.length := by rw [h.ok.rl, h.nb]; exact hk
  simp [List.getElem?_eq_getElem hl, List.getD_eq_getElem?_getD, natV]
theorem CSt.frozen {base : Nat} {w0 wr : World} {D g : Nat} {a : Int} {n : Nat} {m : DM} (h : CSt base w0 wr D g a n m) (k : Nat) : wr.frozen? ⟨g, k, none⟩ = false := by simp [World.frozen?, h.blk]
/-- a command on the disk -/
theorem CSt.disk {base : Nat} {w0 wr wr' : World} {D g : Nat} {a : Int} {n n' : Nat} {m m' : DM} (h : CSt base w0 wr D g a n m) (hd : DK base wr' D m') (hk : Keep wr wr' (Tch base wr)) (ho : m'.Ok n') (h1 : m'.B.length = m.B.length) (h2 : m'.sz = m.sz) (h3 : m'.R = m.R) (h4 : armInv m' a) : CSt base w0 wr' D g a n' m' :=
  ⟨hd, ho, h1.trans h.nb, h2.trans h.sz, h4, by rw [hk.block g h.lt h.notTch, h3]; exact h.blk, Keep.toExt' (by exact h.ext) (by rw [h.lo.1]; exact hk), h.lo⟩
/-- a read, counted beside the disk, too -/
theorem CSt.read {base : Nat} {w0 wr wr' : World} {D g : Nat} {a : Int} {n : Nat} {m : DM} {k : Nat} (h : CSt base w0 wr D g a n m) (hd : DK base wr' D (m.bump k)) (hk : Keep wr wr' (Tch base wr)) (hk4 : k < 4) :
    wr'.cell? ⟨g, k, none⟩ = some (.int .i64 ((m.R.getD k 0 : Nat) : Int)) ∧ wr'.frozen? ⟨g, k, none⟩ = false ∧ CSt base w0 (wr'.setCell ⟨g, k, none⟩ (.int .i64 (((m.R.getD k 0 : Nat) : Int) + 1))) D g a (n + 1) (m.bump k) := by
  have hb : wr'.heap[g]? = some (.cells (m.R.map natV).toArray 37 (0, 0)) := by rw [hk.block g h.lt h.notTch]; exact h.blk
  have hl : k < m.R.length := by rw [h.ok.rl, h.nb]; exact hk4
  have K : Keep wr' (wr'.setCell ⟨g, k, none⟩ (.int .i64 (((m.R.getD k 0 : Nat) : Int) + 1))) (fun x => x = g) := Keep.setCell
  refine ⟨?_, by simp [World.frozen?, hb], ⟨?_, h.ok.bump k, h.nb, h.sz, h.inv, ?_, ?_, h.lo⟩⟩
  · rw [cell_of_row _ _ _ _ _ _ hb]
    simp [List.getElem?_eq_getElem hl, List.getD_eq_getElem?_getD, natV]
  · obtain ⟨SA, sc, WA, wc, RA, rc, S, h1, h2⟩ := hd
    have nt : ∀ x, Tch base wr' x → ¬ x = g := fun x ⟨_, c, t, f, q2, q3⟩ e => by
      subst e
      have e := type_ne hb q2
      subst e
      revert q3; decide
    have ne : ∀ {e size : Nat} {v : Value} {n : Nat} {xs : List Value}, wr'.ownsRow base e size v n xs → e ≠ 37 → ∀ k, v.ownBlock = some k → ¬ k = g := fun hr hne k hk e => by
      subst e
      obtain ⟨c, hc⟩ := row_type hr hk
      exact hne (type_ne hc hb)
    exact ⟨SA, sc, WA, wc, RA, rc, S, ⟨by rw [K.block D h1.lt (nt D h1.tchD)]; exact h1.blk, h1.lo, row_keep h1.rows K (ne h1.rows (by decide)), row_keep h1.waits K (ne h1.waits (by decide)), row_keep h1.rds K (ne h1.rds (by decide)), fun x hx => Own.keep (h1.oks x hx) K (ne (h1.oks x hx).2.1 (by decide)), fun x hx => Own.keep (h1.okw x hx) K (ne (h1.okw x hx).2.1 (by decide))⟩, h2⟩
  · rw [heap_setCell_same wr' g k _ 37 _ hb]
    simp only [DM.bump, List.setIfInBounds_toArray, List.map_set]
    rfl
  · exact (Keep.toExt (Keep.toExt' (by exact h.ext) (by rw [h.lo.1]; exact hk)) K (fun x e => by have := h.lo; omega))

set_option maxRecDepth 100000 in
set_option maxHeartbeats 25600000 in
theorem DiskCounts_walk (v : Value) (N : Nat) (a : Int) (w : World) (h : OpsAt w v N) (hb : -9223372036854775808 ≤ a ∧ a ≤ 9223372036854775807) :
    Calls Try.prog 4 #[v, .int .i64 a] w fun e w' => e = .returned (.bool true) ∧ Ext w w' := by
  have P := Lib.hid h
  obtain ⟨X, c, rfl, hc1, hc2, _⟩ := h
  have OA : Hid ((DM.new 4 16).Ok 0) := Lib.hid (DM.Ok.new 4 16 (by omega) (by omega))
  have NW := Lib.hid (new_d 4 16 w (by omega) (by omega))
  go_enter Try.func4, Try.ntmps4
  go_wp2_with fail
  refine NW.out.mono ?_
  rintro e w1 ⟨D, rfl, hD, hE⟩
  have D1 : Hid (DK w.heap.size w1 D (DM.new 4 16)) := Lib.hid hD
  have E1 := Lib.hid hE
  clear hD hE NW
  go_wp2_with fail
  refine (small_any _ N w1 (P.out.ext E1.out)).mono ?_
  rintro e w2 ⟨(⟨rfl, hN⟩ | rfl), hE⟩
  rotate_left
  · have E2 := Lib.hid (E1.out.trans hE)
    have AW := Lib.hid (awake_any w2)
    clear hE
    go_wp2_with fail
    refine AW.out.mono ?_
    rintro e w3 ⟨rfl, hE⟩
    have E3 := Lib.hid (E2.out.trans hE)
    clear hE
    go_wp2
    go_ret
    exact ⟨rfl, E3.out⟩
  have E2 := Lib.hid (E1.out.trans hE)
  have D2 := Lib.hid (D1.out.ext hE)
  clear hE D1 E1
  go_wp2_with fail
  refine (arm_d a w2 D2.out).mono ?_
  rintro e w3 ⟨⟨v0, rfl⟩, hD, hK⟩
  have S3 : Hid (CSt w.heap.size w (w3.alloc (.cells #[.int .i64 0, .int .i64 0, .int .i64 0, .int .i64 0] 37)) D w3.heap.size a 0 { DM.new 4 16 with left := max a (-1) }) := Lib.hid ⟨hD.ext ((Ext.refl w3).alloc _), ⟨OA.out.sz, OA.out.nb, OA.out.bs, OA.out.ws, OA.out.rl, OA.out.wl, OA.out.dl, OA.out.rs, by dsimp only; omega⟩, rfl, rfl,
    ⟨fun h0 => ⟨by simp only [DM.new]; omega, by dsimp only; omega, fun hd => by simp [DM.new] at hd⟩, fun h0 => ⟨by dsimp only; omega, rfl⟩⟩, heap_alloc_new _ _, (Keep.toExt' E2.out hK).alloc _, rfl, by have := (Keep.toExt' E2.out hK).size; omega⟩
  clear hD hK D2 E2 OA
  go_wp2
  obtain ⟨wb, hwb⟩ : ∃ wb, w3.alloc (.cells #[.int .i64 0, .int .i64 0, .int .i64 0, .int .i64 0] 37) = wb := ⟨_, rfl⟩
  obtain ⟨g, hg⟩ : ∃ g, w3.heap.size = g := ⟨_, rfl⟩
  rw [hwb, hg] at S3 ⊢
  clear hwb hg
  go_loopw [30] (fun t30 wr => ∃ (i : Nat) (m : DM), i ≤ N ∧ t30 = .int .i64 (i : Int) ∧ Hid (CSt w.heap.size w wr D g a (2 * i) m)) (fun t30 _ => N - (intOf t30).toNat)
  case atStart => exact ⟨0, _, by omega, rfl, S3⟩
  case round =>
    obtain ⟨i, m, hi, rfl, ST⟩ := hrel
    by_cases hlt : i < N
    · have hlt' : (i : Int) < (N : Int) := by omega
      obtain ⟨b, off, ⟨kind, nn, fill, short, KA, kn, kc, torn, cut⟩, rfl, hbs, ho, c0, c1, c2, c3, c4, c5, c6⟩ := (P.out.ext ST.out.ext).at hlt
      obtain ⟨hok1, hok2, hok3, hok4⟩ := ho
      simp only at hok1 hok2 hok3 hok4 c0 c1 c2 c3 c4 c5 c6
      have hgl := ST.out.lt
      obtain ⟨wa, hwa⟩ : ∃ wa, wr.alloc (.cells #[.int .i64 kind, .int .i64 nn, .int .u8 (fill : Int), .int .i64 short, .slice KA kn kc, .int .i64 torn, .int .i64 cut] 40) = wa := ⟨_, rfl⟩
      obtain ⟨q, hq⟩ : ∃ q, wr.heap.size = q := ⟨_, rfl⟩
      have SA := Lib.hid (ST.out.grow ((Ext.refl wr).alloc (.cells #[.int .i64 kind, .int .i64 nn, .int .u8 (fill : Int), .int .i64 short, .slice KA kn kc, .int .i64 torn, .int .i64 cut] 40)) (Nat.le_refl _))
      have k0 : wa.cell? ⟨q, 0, none⟩ = some (.int .i64 kind) := by rw [← hwa, ← hq]; simp [go_sem]
      have k1 : wa.cell? ⟨q, 1, none⟩ = some (.int .i64 nn) := by rw [← hwa, ← hq]; simp [go_sem]
      have k2 : wa.cell? ⟨q, 2, none⟩ = some (.int .u8 (fill : Int)) := by rw [← hwa, ← hq]; simp [go_sem]
      have hql : q < wa.heap.size := by rw [← hwa, ← hq]; simp
      rw [hwa] at SA
      have HWA := Lib.hid hwa
      have HQ := Lib.hid hq
      clear hwa hq
      by_cases hk1 : kind = 1
      · subst hk1
        have z0 : ∀ g', (wa.ext g').cell? ⟨q, 1, none⟩ = some (.int .i64 nn) := fun g' => (Ext.cell (⟨g', rfl⟩ : Ext wa (wa.ext g')) hql).trans k1
        have z1 : ∀ g', (wa.ext g').cell? ⟨q, 2, none⟩ = some (.int .u8 (fill : Int)) := fun g' => (Ext.cell (⟨g', rfl⟩ : Ext wa (wa.ext g')) hql).trans k2
        go_wp2_with (rw [HWA.out, HQ.out])
        refine region_flow 6 [43] (fun t v => t = 43 ∧ ∃ g2, v = .slice (some ⟨g2, 0, none⟩) 16 16) (fun t v w' => ∃ g2 b2, v = .slice (some ⟨g2, 0, none⟩) 16 16 ∧ Own b2 w' (some ⟨g2, 0, none⟩) 16 16 (List.replicate 16 fill)) (by kernel_rfl) (by kernel_rfl) ?hq ?hu ?hR ?h
        case hq => rintro t v ⟨rfl, _⟩; simp
        case hu => rintro t ⟨_, g2, h⟩; simp [undef] at h
        case hR => rintro t v wx wy _ ⟨g2, b2, e, hO⟩ he; exact ⟨g2, b2, e, hO.ext he⟩
        case h =>
          dsimp only [List.take, List.drop]
          iterate 5 (refine Flow.plain rfl rfl ?_; go_big_quiet_step (fail); refine wpQuiet_nil ?_)
          refine Flow.call Try.call7 [.int .i64 16, .int .u8 (fill : Int)] rfl rfl rfl ?_ (fun wx hx hf => (fill_any 16 fill wx (by omega) hok3).mono ?_) ?_
          · exact ⟨.slice (some ⟨0, 0, none⟩) 16 16, rfl, _, rfl⟩
          · rintro e w' ⟨g2, rfl, hO, hE⟩
            exact ⟨_, rfl, hE, ⟨rfl, g2, rfl⟩, g2, _, rfl, hO⟩
          rintro v ⟨-, g2, rfl⟩
          simp only [Act.put, List.setIfInBounds_toArray, List.set_cons_zero, List.set_cons_succ]
          refine Flow.nil fun w5 hx5 hf => ?_
          obtain ⟨g3, b2, e3, hO⟩ := hf 43 (by simp) ⟨rfl, g2, rfl⟩
          simp [Act.eval] at e3
          subst e3
          have O5 := Lib.hid hO
          have C5 := Lib.hid (SA.out.grow hx5 (Nat.le_refl _))
          clear hO hf z0 z1 hx5 k0 k1 k2 c0 c1 c2 c3 c4 c5 c6
          go_wp2_with fail
          refine (write_d nn _ (List.replicate 16 fill) w5 C5.out.dk C5.out.ok (by omega) O5.out.bytes (by have := C5.out.ext.size; exact this) (by rw [C5.out.sz]; simp)).mono ?_
          rintro e wz ⟨rfl, hD, hK⟩
          have hs := write_same m nn (List.replicate 16 fill)
          have CZ : Hid (CSt w.heap.size w wz D g a (2 * i + 2) (m.write nn (List.replicate 16 fill)).1) := Lib.hid (C5.out.disk hD hK (C5.out.ok.write nn _ (by rw [C5.out.sz]; simp)) (by rw [hs.1]) hs.2.1 hs.2.2 (C5.out.inv.write nn _))
          obtain ⟨v9, hv9⟩ : ∃ v9, (m.write nn (List.replicate 16 fill)).2 = v9 := ⟨_, rfl⟩
          rw [hv9]
          obtain ⟨mz, hmz⟩ : ∃ mz, (m.write nn (List.replicate 16 fill)).1 = mz := ⟨_, rfl⟩
          rw [hmz] at CZ
          clear hD hK hs O5 C5 SA hmz hv9
          go_wp2
          go_loopw [66] (fun t66 wx => ∃ k : Nat, k ≤ 4 ∧ t66 = .int .i64 (k : Int) ∧ Hid (Ext wz wx)) (fun t66 _ => 4 - (intOf t66).toNat)
          case atStart => exact ⟨0, by omega, rfl, Lib.hid (Ext.refl _)⟩
          case round =>
            obtain ⟨k, hk, rfl, RT⟩ := hrel
            have CX := Lib.hid (CZ.out.grow RT.out (Nat.le_refl _))
            by_cases hkl : k < 4
            · have hkl' : (k : Int) < 4 := by omega
              obtain ⟨r, hr⟩ : ∃ r, mz.R.getD k 0 = r := ⟨_, rfl⟩
              have z0 : ∀ g', (wr.ext g').cell? ⟨g, k, none⟩ = some (.int .i64 (r : Int)) := fun g' => hr ▸ (CX.out.grow ⟨g', rfl⟩ (Nat.le_refl _)).cell hkl
              have RD : Hid (∀ g', Calls Try.prog 14 #[.pointer (some ⟨D, 0, none⟩), .int .i64 (k : Int)] (wr.ext g') fun e w' => e = .returned (.int .i64 (r : Int)) ∧ Ext (wr.ext g') w') := Lib.hid fun g' => (reads_d k (wr.ext g') (CX.out.grow ⟨g', rfl⟩ (Nat.le_refl _)).dk (by rw [CX.out.ok.rl, CX.out.nb]; omega) (by omega)).mono (fun e w' ⟨h1, h2⟩ => ⟨hr ▸ h1, h2 ▸ Ext.refl _⟩)
              clear hr
              go_wp2
              refine region_quiet (by kernel_rfl) (by kernel_rfl) ?_
              iterate 7 (go_big_quiet_step (exact calls_ext (RD.out _)))
              refine wpQuiet_nil ?_
              rintro _ ⟨g7, rfl⟩
              clear z0
              go_wp2
              go_roundw
              case rel => exact ⟨k + 1, by omega, by go_num, Lib.hid (RT.out.ext g7)⟩
              case measure => simp [intOf]; omega
            · have hkl' : ¬ (k : Int) < 4 := by omega
              have DN := Lib.hid (done_d wr CX.out.dk)
              have DO := Lib.hid (down_d wr CX.out.dk)
              obtain ⟨dn, hdn⟩ : ∃ dn, mz.done = dn := ⟨_, rfl⟩
              obtain ⟨dw, hdw⟩ : ∃ dw, mz.down = dw := ⟨_, rfl⟩
              rw [hdn] at DN
              rw [hdw] at DO
              have hinv := CX.out.inv
              unfold armInv at hinv
              rw [hdn, hdw] at hinv
              clear hdn hdw
              by_cases ha : 0 ≤ a
              · obtain ⟨h1, h2, h3⟩ := hinv.1 ha
                have hnd : ¬ a < (dn : Int) := by omega
                have h3' : dw = true → (dn : Int) = a := fun e => by have := h3 e; omega
                clear hinv h1 h2 h3
                go_wp2_with fail
                refine DN.out.mono ?_
                rintro e w9 ⟨rfl, rfl⟩
                go_wp2_with fail
                refine DO.out.mono ?_
                rintro e w9 ⟨rfl, rfl⟩
                cases dw with
                | true =>
                  have h4 := h3' rfl
                  clear h3'
                  subst h4
                  go_wp2_with fail
                  refine DN.out.mono ?_
                  rintro e w9 ⟨rfl, rfl⟩
                  go_wp2
                  go_roundw
                  case rel => exact ⟨i + 1, mz, by omega, by go_num, Lib.hid (CX.out.grow (Ext.refl _) (by omega))⟩
                  case measure => simp [intOf]; omega
                | false =>
                  clear h3'
                  go_wp2
                  go_roundw
                  case rel => exact ⟨i + 1, mz, by omega, by go_num, Lib.hid (CX.out.grow (Ext.refl _) (by omega))⟩
                  case measure => simp [intOf]; omega
              · have ha' : a < 0 := by omega
                obtain ⟨h1, rfl⟩ := hinv.2 ha'
                clear hinv h1
                go_wp2_with fail
                refine DO.out.mono ?_
                rintro e w9 ⟨rfl, rfl⟩
                go_wp2
                go_roundw
                case rel => exact ⟨i + 1, mz, by omega, by go_num, Lib.hid (CX.out.grow (Ext.refl _) (by omega))⟩
                case measure => simp [intOf]; omega

      · have hk1' : (kind == 1) = false := by simpa using hk1
        by_cases hk2 : kind = 2
        · subst hk2
          go_wp2_with (first | rw [HWA.out, HQ.out] | fail)
          by_cases hck : m.check nn = 0
          · have hcp := DM.check_pos hck
            rw [SA.out.nb] at hcp
            obtain ⟨j, rfl⟩ : ∃ j : Nat, nn = (j : Int) := ⟨nn.toNat, by omega⟩
            have hj4 : j < 4 := by omega
            have hj4' : (j : Int) < 4 := by omega
            refine (read_d j wa SA.out.dk SA.out.ok (by omega) hck).mono ?_
            rintro e w5 ⟨A5, cap5, rfl, hO, hD, hK⟩
            rw [SA.out.sz]
            obtain ⟨e1, e2, hC⟩ := SA.out.read hD hK hj4
            have q1 : w5.cell? ⟨q, 1, none⟩ = some (.int .i64 (j : Int)) := by
              rw [hK.cell hql (fun ht => by
                obtain ⟨_, cc, tt, ff, r2, r3⟩ := ht
                have hx := heap_alloc_new wr (.cells #[.int .i64 2, .int .i64 (j : Int), .int .u8 (fill : Int), .int .i64 short, .slice KA kn kc, .int .i64 torn, .int .i64 cut] 40)
                rw [HWA.out, HQ.out] at hx
                have e := type_ne hx r2
                subst e
                revert r3; decide)]
              exact k1
            obtain ⟨r, hr⟩ : ∃ r, m.R.getD j 0 = r := ⟨_, rfl⟩
            have hrb : r ≤ 2 * i := by
              rw [← hr, List.getD_eq_getElem?_getD]
              cases h : m.R[j]? with
              | none => simp
              | some r => exact SA.out.ok.rs r (List.mem_of_getElem? h)
            rw [hr] at e1 hC
            have CC := Lib.hid hC
            have hql5 : q < w5.heap.size := Nat.lt_of_lt_of_le hql hK.size
            have hgl5 : g < w5.heap.size := by have := hC.lt; simpa [World.setCell] using this
            clear hC hD hK hO hr k0 k1 k2 c0 c1 c2 c3 c4 c5 c6 hcp hck hql
            go_wp2
            obtain ⟨wz, hwz⟩ : ∃ wz, w5.setCell ⟨g, j, none⟩ (.int .i64 ((r : Int) + 1)) = wz := ⟨_, rfl⟩
            rw [hwz] at CC ⊢
            have CZ : Hid (CSt w.heap.size w wz D g a (2 * i + 2) (m.bump j)) := Lib.hid (CC.out.grow (Ext.refl _) (by omega))
            obtain ⟨mz, hmz⟩ : ∃ mz, m.bump j = mz := ⟨_, rfl⟩
            rw [hmz] at CZ
            clear hmz hwz CC SA e1 e2 q1 hgl5 hql5
            go_wp2
            go_loopw [66] (fun t66 wx => ∃ k : Nat, k ≤ 4 ∧ t66 = .int .i64 (k : Int) ∧ Hid (Ext wz wx)) (fun t66 _ => 4 - (intOf t66).toNat)
            case atStart => exact ⟨0, by omega, rfl, Lib.hid (Ext.refl _)⟩
            case round =>
              obtain ⟨k, hk, rfl, RT⟩ := hrel
              have CX := Lib.hid (CZ.out.grow RT.out (Nat.le_refl _))
              by_cases hkl : k < 4
              · have hkl' : (k : Int) < 4 := by omega
                obtain ⟨r, hr⟩ : ∃ r, mz.R.getD k 0 = r := ⟨_, rfl⟩
                have z0 : ∀ g', (wr.ext g').cell? ⟨g, k, none⟩ = some (.int .i64 (r : Int)) := fun g' => hr ▸ (CX.out.grow ⟨g', rfl⟩ (Nat.le_refl _)).cell hkl
                have RD : Hid (∀ g', Calls Try.prog 14 #[.pointer (some ⟨D, 0, none⟩), .int .i64 (k : Int)] (wr.ext g') fun e w' => e = .returned (.int .i64 (r : Int)) ∧ Ext (wr.ext g') w') := Lib.hid fun g' => (reads_d k (wr.ext g') (CX.out.grow ⟨g', rfl⟩ (Nat.le_refl _)).dk (by rw [CX.out.ok.rl, CX.out.nb]; omega) (by omega)).mono (fun e w' ⟨h1, h2⟩ => ⟨hr ▸ h1, h2 ▸ Ext.refl _⟩)
                clear hr
                go_wp2
                refine region_quiet (by kernel_rfl) (by kernel_rfl) ?_
                iterate 7 (go_big_quiet_step (exact calls_ext (RD.out _)))
                refine wpQuiet_nil ?_
                rintro _ ⟨g7, rfl⟩
                clear z0
                go_wp2
                go_roundw
                case rel => exact ⟨k + 1, by omega, by go_num, Lib.hid (RT.out.ext g7)⟩
                case measure => simp [intOf]; omega
              · have hkl' : ¬ (k : Int) < 4 := by omega
                have DN := Lib.hid (done_d wr CX.out.dk)
                have DO := Lib.hid (down_d wr CX.out.dk)
                obtain ⟨dn, hdn⟩ : ∃ dn, mz.done = dn := ⟨_, rfl⟩
                obtain ⟨dw, hdw⟩ : ∃ dw, mz.down = dw := ⟨_, rfl⟩
                rw [hdn] at DN
                rw [hdw] at DO
                have hinv := CX.out.inv
                unfold armInv at hinv
                rw [hdn, hdw] at hinv
                clear hdn hdw
                by_cases ha : 0 ≤ a
                · obtain ⟨h1, h2, h3⟩ := hinv.1 ha
                  have hnd : ¬ a < (dn : Int) := by omega
                  have h3' : dw = true → (dn : Int) = a := fun e => by have := h3 e; omega
                  clear hinv h1 h2 h3
                  go_wp2_with fail
                  refine DN.out.mono ?_
                  rintro e w9 ⟨rfl, rfl⟩
                  go_wp2_with fail
                  refine DO.out.mono ?_
                  rintro e w9 ⟨rfl, rfl⟩
                  cases dw with
                  | true =>
                    have h4 := h3' rfl
                    clear h3'
                    subst h4
                    go_wp2_with fail
                    refine DN.out.mono ?_
                    rintro e w9 ⟨rfl, rfl⟩
                    go_wp2
                    go_roundw
                    case rel => exact ⟨i + 1, mz, by omega, by go_num, Lib.hid (CX.out.grow (Ext.refl _) (by omega))⟩
                    case measure => simp [intOf]; omega
                  | false =>
                    clear h3'
                    go_wp2
                    go_roundw
                    case rel => exact ⟨i + 1, mz, by omega, by go_num, Lib.hid (CX.out.grow (Ext.refl _) (by omega))⟩
                    case measure => simp [intOf]; omega
                · have ha' : a < 0 := by omega
                  obtain ⟨h1, rfl⟩ := hinv.2 ha'
                  clear hinv h1
                  go_wp2_with fail
                  refine DO.out.mono ?_
                  rintro e w9 ⟨rfl, rfl⟩
                  go_wp2
                  go_roundw
                  case rel => exact ⟨i + 1, mz, by omega, by go_num, Lib.hid (CX.out.grow (Ext.refl _) (by omega))⟩
                  case measure => simp [intOf]; omega

          · refine (read_d_err nn wa SA.out.dk hck).mono ?_
            rintro e w5 ⟨rfl, rfl⟩
            have hck' : (m.check nn == 0) = false := by simpa using hck
            obtain ⟨v9, hv9⟩ : ∃ v9, m.check nn = v9 := ⟨_, rfl⟩
            rw [hv9] at hck' ⊢
            have CZ : Hid (CSt w.heap.size w w5 D g a (2 * i + 2) m) := Lib.hid (SA.out.grow (Ext.refl _) (by omega))
            obtain ⟨mz, rfl⟩ : ∃ mz, mz = m := ⟨_, rfl⟩
            obtain ⟨wz, rfl⟩ : ∃ wz, wz = w5 := ⟨_, rfl⟩
            clear hck hv9 SA HWA k0 k1 k2 c0 c1 c2 c3 c4 c5 c6
            go_wp2
            go_loopw [66] (fun t66 wx => ∃ k : Nat, k ≤ 4 ∧ t66 = .int .i64 (k : Int) ∧ Hid (Ext wz wx)) (fun t66 _ => 4 - (intOf t66).toNat)
            case atStart => exact ⟨0, by omega, rfl, Lib.hid (Ext.refl _)⟩
            case round =>
              obtain ⟨k, hk, rfl, RT⟩ := hrel
              have CX := Lib.hid (CZ.out.grow RT.out (Nat.le_refl _))
              by_cases hkl : k < 4
              · have hkl' : (k : Int) < 4 := by omega
                obtain ⟨r, hr⟩ : ∃ r, mz.R.getD k 0 = r := ⟨_, rfl⟩
                have z0 : ∀ g', (wr.ext g').cell? ⟨g, k, none⟩ = some (.int .i64 (r : Int)) := fun g' => hr ▸ (CX.out.grow ⟨g', rfl⟩ (Nat.le_refl _)).cell hkl
                have RD : Hid (∀ g', Calls Try.prog 14 #[.pointer (some ⟨D, 0, none⟩), .int .i64 (k : Int)] (wr.ext g') fun e w' => e = .returned (.int .i64 (r : Int)) ∧ Ext (wr.ext g') w') := Lib.hid fun g' => (reads_d k (wr.ext g') (CX.out.grow ⟨g', rfl⟩ (Nat.le_refl _)).dk (by rw [CX.out.ok.rl, CX.out.nb]; omega) (by omega)).mono (fun e w' ⟨h1, h2⟩ => ⟨hr ▸ h1, h2 ▸ Ext.refl _⟩)
                clear hr
                go_wp2
                refine region_quiet (by kernel_rfl) (by kernel_rfl) ?_
                iterate 7 (go_big_quiet_step (exact calls_ext (RD.out _)))
                refine wpQuiet_nil ?_
                rintro _ ⟨g7, rfl⟩
                clear z0
                go_wp2
                go_roundw
                case rel => exact ⟨k + 1, by omega, by go_num, Lib.hid (RT.out.ext g7)⟩
                case measure => simp [intOf]; omega
              · have hkl' : ¬ (k : Int) < 4 := by omega
                have DN := Lib.hid (done_d wr CX.out.dk)
                have DO := Lib.hid (down_d wr CX.out.dk)
                obtain ⟨dn, hdn⟩ : ∃ dn, mz.done = dn := ⟨_, rfl⟩
                obtain ⟨dw, hdw⟩ : ∃ dw, mz.down = dw := ⟨_, rfl⟩
                rw [hdn] at DN
                rw [hdw] at DO
                have hinv := CX.out.inv
                unfold armInv at hinv
                rw [hdn, hdw] at hinv
                clear hdn hdw
                by_cases ha : 0 ≤ a
                · obtain ⟨h1, h2, h3⟩ := hinv.1 ha
                  have hnd : ¬ a < (dn : Int) := by omega
                  have h3' : dw = true → (dn : Int) = a := fun e => by have := h3 e; omega
                  clear hinv h1 h2 h3
                  go_wp2_with fail
                  refine DN.out.mono ?_
                  rintro e w9 ⟨rfl, rfl⟩
                  go_wp2_with fail
                  refine DO.out.mono ?_
                  rintro e w9 ⟨rfl, rfl⟩
                  cases dw with
                  | true =>
                    have h4 := h3' rfl
                    clear h3'
                    subst h4
                    go_wp2_with fail
                    refine DN.out.mono ?_
                    rintro e w9 ⟨rfl, rfl⟩
                    go_wp2
                    go_roundw
                    case rel => exact ⟨i + 1, mz, by omega, by go_num, Lib.hid (CX.out.grow (Ext.refl _) (by omega))⟩
                    case measure => simp [intOf]; omega
                  | false =>
                    clear h3'
                    go_wp2
                    go_roundw
                    case rel => exact ⟨i + 1, mz, by omega, by go_num, Lib.hid (CX.out.grow (Ext.refl _) (by omega))⟩
                    case measure => simp [intOf]; omega
                · have ha' : a < 0 := by omega
                  obtain ⟨h1, rfl⟩ := hinv.2 ha'
                  clear hinv h1
                  go_wp2_with fail
                  refine DO.out.mono ?_
                  rintro e w9 ⟨rfl, rfl⟩
                  go_wp2
                  go_roundw
                  case rel => exact ⟨i + 1, mz, by omega, by go_num, Lib.hid (CX.out.grow (Ext.refl _) (by omega))⟩
                  case measure => simp [intOf]; omega

        · have hk2' : (kind == 2) = false := by simpa using hk2
          by_cases hk3 : kind = 3
          · subst hk3
            go_wp2_with (first | rw [HWA.out, HQ.out] | fail)
            refine (sync_d wa SA.out.dk SA.out.ok (by omega) SA.out.ext.size).mono ?_
            rintro e wz ⟨rfl, hD, hK⟩
            have hs := sync_same m
            have CZ : Hid (CSt w.heap.size w wz D g a (2 * i + 2) m.sync.1) := Lib.hid ((SA.out.disk hD hK SA.out.ok.sync hs.1 hs.2.1 hs.2.2 SA.out.inv.sync).grow (Ext.refl _) (by omega))
            obtain ⟨v9, hv9⟩ : ∃ v9, m.sync.2 = v9 := ⟨_, rfl⟩
            rw [hv9]
            obtain ⟨mz, hmz⟩ : ∃ mz, m.sync.1 = mz := ⟨_, rfl⟩
            rw [hmz] at CZ
            clear hD hK hs SA HWA hmz hv9 k0 k1 k2 c0 c1 c2 c3 c4 c5 c6
            go_wp2
            go_loopw [66] (fun t66 wx => ∃ k : Nat, k ≤ 4 ∧ t66 = .int .i64 (k : Int) ∧ Hid (Ext wz wx)) (fun t66 _ => 4 - (intOf t66).toNat)
            case atStart => exact ⟨0, by omega, rfl, Lib.hid (Ext.refl _)⟩
            case round =>
              obtain ⟨k, hk, rfl, RT⟩ := hrel
              have CX := Lib.hid (CZ.out.grow RT.out (Nat.le_refl _))
              by_cases hkl : k < 4
              · have hkl' : (k : Int) < 4 := by omega
                obtain ⟨r, hr⟩ : ∃ r, mz.R.getD k 0 = r := ⟨_, rfl⟩
                have z0 : ∀ g', (wr.ext g').cell? ⟨g, k, none⟩ = some (.int .i64 (r : Int)) := fun g' => hr ▸ (CX.out.grow ⟨g', rfl⟩ (Nat.le_refl _)).cell hkl
                have RD : Hid (∀ g', Calls Try.prog 14 #[.pointer (some ⟨D, 0, none⟩), .int .i64 (k : Int)] (wr.ext g') fun e w' => e = .returned (.int .i64 (r : Int)) ∧ Ext (wr.ext g') w') := Lib.hid fun g' => (reads_d k (wr.ext g') (CX.out.grow ⟨g', rfl⟩ (Nat.le_refl _)).dk (by rw [CX.out.ok.rl, CX.out.nb]; omega) (by omega)).mono (fun e w' ⟨h1, h2⟩ => ⟨hr ▸ h1, h2 ▸ Ext.refl _⟩)
                clear hr
                go_wp2
                refine region_quiet (by kernel_rfl) (by kernel_rfl) ?_
                iterate 7 (go_big_quiet_step (exact calls_ext (RD.out _)))
                refine wpQuiet_nil ?_
                rintro _ ⟨g7, rfl⟩
                clear z0
                go_wp2
                go_roundw
                case rel => exact ⟨k + 1, by omega, by go_num, Lib.hid (RT.out.ext g7)⟩
                case measure => simp [intOf]; omega
              · have hkl' : ¬ (k : Int) < 4 := by omega
                have DN := Lib.hid (done_d wr CX.out.dk)
                have DO := Lib.hid (down_d wr CX.out.dk)
                obtain ⟨dn, hdn⟩ : ∃ dn, mz.done = dn := ⟨_, rfl⟩
                obtain ⟨dw, hdw⟩ : ∃ dw, mz.down = dw := ⟨_, rfl⟩
                rw [hdn] at DN
                rw [hdw] at DO
                have hinv := CX.out.inv
                unfold armInv at hinv
                rw [hdn, hdw] at hinv
                clear hdn hdw
                by_cases ha : 0 ≤ a
                · obtain ⟨h1, h2, h3⟩ := hinv.1 ha
                  have hnd : ¬ a < (dn : Int) := by omega
                  have h3' : dw = true → (dn : Int) = a := fun e => by have := h3 e; omega
                  clear hinv h1 h2 h3
                  go_wp2_with fail
                  refine DN.out.mono ?_
                  rintro e w9 ⟨rfl, rfl⟩
                  go_wp2_with fail
                  refine DO.out.mono ?_
                  rintro e w9 ⟨rfl, rfl⟩
                  cases dw with
                  | true =>
                    have h4 := h3' rfl
                    clear h3'
                    subst h4
                    go_wp2_with fail
                    refine DN.out.mono ?_
                    rintro e w9 ⟨rfl, rfl⟩
                    go_wp2
                    go_roundw
                    case rel => exact ⟨i + 1, mz, by omega, by go_num, Lib.hid (CX.out.grow (Ext.refl _) (by omega))⟩
                    case measure => simp [intOf]; omega
                  | false =>
                    clear h3'
                    go_wp2
                    go_roundw
                    case rel => exact ⟨i + 1, mz, by omega, by go_num, Lib.hid (CX.out.grow (Ext.refl _) (by omega))⟩
                    case measure => simp [intOf]; omega
                · have ha' : a < 0 := by omega
                  obtain ⟨h1, rfl⟩ := hinv.2 ha'
                  clear hinv h1
                  go_wp2_with fail
                  refine DO.out.mono ?_
                  rintro e w9 ⟨rfl, rfl⟩
                  go_wp2
                  go_roundw
                  case rel => exact ⟨i + 1, mz, by omega, by go_num, Lib.hid (CX.out.grow (Ext.refl _) (by omega))⟩
                  case measure => simp [intOf]; omega

          · have hk3' : (kind == 3) = false := by simpa using hk3
            go_wp2_with (first | rw [HWA.out, HQ.out] | fail)
            have CZ : Hid (CSt w.heap.size w wa D g a (2 * i + 2) m) := Lib.hid (SA.out.grow (Ext.refl _) (by omega))
            obtain ⟨mz, rfl⟩ : ∃ mz, mz = m := ⟨_, rfl⟩
            obtain ⟨wz, rfl⟩ : ∃ wz, wz = wa := ⟨_, rfl⟩
            clear SA HWA k0 k1 k2 c0 c1 c2 c3 c4 c5 c6
            go_wp2
            go_loopw [66] (fun t66 wx => ∃ k : Nat, k ≤ 4 ∧ t66 = .int .i64 (k : Int) ∧ Hid (Ext wz wx)) (fun t66 _ => 4 - (intOf t66).toNat)
            case atStart => exact ⟨0, by omega, rfl, Lib.hid (Ext.refl _)⟩
            case round =>
              obtain ⟨k, hk, rfl, RT⟩ := hrel
              have CX := Lib.hid (CZ.out.grow RT.out (Nat.le_refl _))
              by_cases hkl : k < 4
              · have hkl' : (k : Int) < 4 := by omega
                obtain ⟨r, hr⟩ : ∃ r, mz.R.getD k 0 = r := ⟨_, rfl⟩
                have z0 : ∀ g', (wr.ext g').cell? ⟨g, k, none⟩ = some (.int .i64 (r : Int)) := fun g' => hr ▸ (CX.out.grow ⟨g', rfl⟩ (Nat.le_refl _)).cell hkl
                have RD : Hid (∀ g', Calls Try.prog 14 #[.pointer (some ⟨D, 0, none⟩), .int .i64 (k : Int)] (wr.ext g') fun e w' => e = .returned (.int .i64 (r : Int)) ∧ Ext (wr.ext g') w') := Lib.hid fun g' => (reads_d k (wr.ext g') (CX.out.grow ⟨g', rfl⟩ (Nat.le_refl _)).dk (by rw [CX.out.ok.rl, CX.out.nb]; omega) (by omega)).mono (fun e w' ⟨h1, h2⟩ => ⟨hr ▸ h1, h2 ▸ Ext.refl _⟩)
                clear hr
                go_wp2
                refine region_quiet (by kernel_rfl) (by kernel_rfl) ?_
                iterate 7 (go_big_quiet_step (exact calls_ext (RD.out _)))
                refine wpQuiet_nil ?_
                rintro _ ⟨g7, rfl⟩
                clear z0
                go_wp2
                go_roundw
                case rel => exact ⟨k + 1, by omega, by go_num, Lib.hid (RT.out.ext g7)⟩
                case measure => simp [intOf]; omega
              · have hkl' : ¬ (k : Int) < 4 := by omega
                have DN := Lib.hid (done_d wr CX.out.dk)
                have DO := Lib.hid (down_d wr CX.out.dk)
                obtain ⟨dn, hdn⟩ : ∃ dn, mz.done = dn := ⟨_, rfl⟩
                obtain ⟨dw, hdw⟩ : ∃ dw, mz.down = dw := ⟨_, rfl⟩
                rw [hdn] at DN
                rw [hdw] at DO
                have hinv := CX.out.inv
                unfold armInv at hinv
                rw [hdn, hdw] at hinv
                clear hdn hdw
                by_cases ha : 0 ≤ a
                · obtain ⟨h1, h2, h3⟩ := hinv.1 ha
                  have hnd : ¬ a < (dn : Int) := by omega
                  have h3' : dw = true → (dn : Int) = a := fun e => by have := h3 e; omega
                  clear hinv h1 h2 h3
                  go_wp2_with fail
                  refine DN.out.mono ?_
                  rintro e w9 ⟨rfl, rfl⟩
                  go_wp2_with fail
                  refine DO.out.mono ?_
                  rintro e w9 ⟨rfl, rfl⟩
                  cases dw with
                  | true =>
                    have h4 := h3' rfl
                    clear h3'
                    subst h4
                    go_wp2_with fail
                    refine DN.out.mono ?_
                    rintro e w9 ⟨rfl, rfl⟩
                    go_wp2
                    go_roundw
                    case rel => exact ⟨i + 1, mz, by omega, by go_num, Lib.hid (CX.out.grow (Ext.refl _) (by omega))⟩
                    case measure => simp [intOf]; omega
                  | false =>
                    clear h3'
                    go_wp2
                    go_roundw
                    case rel => exact ⟨i + 1, mz, by omega, by go_num, Lib.hid (CX.out.grow (Ext.refl _) (by omega))⟩
                    case measure => simp [intOf]; omega
                · have ha' : a < 0 := by omega
                  obtain ⟨h1, rfl⟩ := hinv.2 ha'
                  clear hinv h1
                  go_wp2_with fail
                  refine DO.out.mono ?_
                  rintro e w9 ⟨rfl, rfl⟩
                  go_wp2
                  go_roundw
                  case rel => exact ⟨i + 1, mz, by omega, by go_num, Lib.hid (CX.out.grow (Ext.refl _) (by omega))⟩
                  case measure => simp [intOf]; omega

    · have hlt' : ¬ (i : Int) < (N : Int) := by omega
      go_wp2_with fail
      refine (crash_d _ [] (-1) 0 wr ST.out.dk ST.out.ok (by omega) ST.out.ext.size (bools_nil _ wr) (by simp) (by omega) (by omega)).mono ?_
      rintro e w5 ⟨⟨v9, rfl⟩, hD, hK⟩
      have C5 := Lib.hid hD
      have E5 := Lib.hid (Keep.toExt' ST.out.ext hK)
      have hlen := ST.out.ok.rl
      have R0 := Lib.hid (reads_d 0 w5 hD (by simp [DM.crash]; rw [hlen, ST.out.nb]; omega) (by omega))
      have R9 := Lib.hid (reads_d 9 w5 hD (by simp [DM.crash]; rw [hlen, ST.out.nb]; omega) (by omega))
      have g0 : (m.crash [] (-1) 0).R.getD 0 0 = 0 := by simp only [DM.crash, hlen, ST.out.nb]; rfl
      have g9 : (m.crash [] (-1) 0).R.getD 9 0 = 0 := by simp only [DM.crash, hlen, ST.out.nb]; rfl
      rw [g0] at R0
      rw [g9] at R9
      have DO := Lib.hid (down_d w5 hD)
      rw [show (m.crash [] (-1) 0).down = false from rfl] at DO
      have AW := Lib.hid (awake_any w5)
      clear hD hK hlen g0 g9
      go_wp2_with fail
      refine R0.out.mono ?_
      rintro e w6 ⟨rfl, rfl⟩
      go_wp2_with fail
      refine R9.out.mono ?_
      rintro e w7 ⟨rfl, rfl⟩
      go_wp2_with fail
      refine DO.out.mono ?_
      rintro e w8 ⟨rfl, rfl⟩
      go_wp2_with fail
      refine AW.out.mono ?_
      rintro e w9 ⟨rfl, hE⟩
      have E9 := Lib.hid (E5.out.trans hE)
      clear hE
      go_wp2
      go_ret
      exact ⟨rfl, E9.out⟩

end Go.Proofs.Ytbhpnbeplomkoaa
