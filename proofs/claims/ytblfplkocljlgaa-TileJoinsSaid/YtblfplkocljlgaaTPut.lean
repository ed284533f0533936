import Derived.Test.YtblfplkocljlgaaTOps
import Derived.Deep.RegionLaw
namespace Go.Proofs.Ytblfplkocljlgaa
open Go.RowKit Go.ChangeMaps
set_option linter.unusedVariables false
set_option linter.unusedSimpArgs false

def PutPost (w w' : World) (c : Nat) (m' : TM) (S : Nat → Prop) : Prop := ∃ S', TK w' c m' S' ∧ (∀ b, S' b → S b ∨ w.heap.size ≤ b) ∧ Keep w w' S

theorem PutPost.same {w w' : World} {c : Nat} {m : TM} {S : Nat → Prop} (h : TK w c m S) (he : Ext w w') : PutPost w w' c m S := ⟨S, h.ext he, fun _ x => .inl x, Keep.ofExt he S⟩

theorem gone_not (m : TM) (k : KK) : ∀ t ∈ (m.gone k).l, t.1 ≠ k := fun t ht => by simpa using (List.mem_filter.1 ht).2
theorem gone_len (m : TM) (k : KK) : (m.gone k).l.length ≤ m.l.length := List.length_filter_le _ _
theorem keys_len (m : TM) : m.keys.length = m.l.length := by unfold TM.keys; simp

set_option maxRecDepth 100000 in
set_option maxHeartbeats 3200000 in
theorem put_no (c : Nat) (m : TM) (S : Nat → Prop) (k : KK) (W H : Int) (v : Value) (l : List Px) (w : World) (h : TK w c m S) (hl : Pix .u8 w v l) (hW : -9223372036854775808 ≤ W ∧ W ≤ 9223372036854775807) (hH : -9223372036854775808 ≤ H ∧ H ≤ 9223372036854775807) (ho : putOk k W H l = false) :
    Calls Try.prog 19 #[.pointer (some ⟨c, 0, none⟩), .agg #[.int .i64 k.1, .int .i64 k.2], .agg #[.int .i64 W, .int .i64 H, v]] w fun e w' => e = .returned (.int .i64 30) ∧ PutPost w w' c m S := by
  obtain ⟨x, y⟩ := k
  have HT := Lib.hid h
  have P := Lib.hid hl
  obtain ⟨A, cap, rfl, _⟩ := hl
  obtain ⟨N, hN⟩ : ∃ N, l.length = N := ⟨_, rfl⟩
  rw [hN] at P ⊢
  have KR := Lib.hid (fun wx => keyRight_any x y wx)
  have CK := Lib.hid (fun wx (hx : Ext w wx) => check_any W H (.slice A N cap) l wx hW hH (P.out.ext hx))
  unfold putOk at ho
  simp only
  clear h hN
  cases hr : rightK (x, y) with
  | false =>
    rw [hr] at KR
    clear ho hr
    go_enter Try.func19, Try.ntmps19
    go_wp2_with fail
    refine (KR.out _).mono ?_
    rintro e w1 ⟨rfl, g1, rfl⟩
    go_wp2
    go_ret
    exact ⟨rfl, .same HT.out (by ((repeat (first | exact Ext.refl _ | apply Ext.alloc | apply Ext.drew' | apply Ext.drewN | apply Ext.ext))))⟩
  | true =>
    rw [hr] at KR ho
    by_cases h8 : W = 8
    · by_cases h9 : H = 8
      · have hI : rightI W H l = false := by simpa [h8, h9] using ho
        rw [hI] at CK
        subst h8 h9
        clear ho hr hI
        go_enter Try.func19, Try.ntmps19
        go_wp2_with fail
        refine (KR.out _).mono ?_
        rintro e w1 ⟨rfl, g1, rfl⟩
        go_wp2_with fail
        refine (CK.out _ (by ((repeat (first | exact Ext.refl _ | apply Ext.alloc | apply Ext.drew' | apply Ext.drewN | apply Ext.ext))))).mono ?_
        rintro e w1 ⟨rfl, g2, rfl⟩
        simp only [errB, Bool.false_eq_true, if_false]
        go_wp2
        go_ret
        exact ⟨rfl, .same HT.out (by ((repeat (first | exact Ext.refl _ | apply Ext.alloc | apply Ext.drew' | apply Ext.drewN | apply Ext.ext))))⟩
      · have h9' : (H == 8) = false := by simpa using h9
        subst h8
        clear ho hr
        go_enter Try.func19, Try.ntmps19
        go_wp2_with fail
        refine (KR.out _).mono ?_
        rintro e w1 ⟨rfl, g1, rfl⟩
        go_wp2
        go_ret
        exact ⟨rfl, .same HT.out (by ((repeat (first | exact Ext.refl _ | apply Ext.alloc | apply Ext.drew' | apply Ext.drewN | apply Ext.ext))))⟩
    · have h8' : (W == 8) = false := by simpa using h8
      clear ho hr
      go_enter Try.func19, Try.ntmps19
      go_wp2_with fail
      refine (KR.out _).mono ?_
      rintro e w1 ⟨rfl, g1, rfl⟩
      go_wp2
      go_ret
      exact ⟨rfl, .same HT.out (by ((repeat (first | exact Ext.refl _ | apply Ext.alloc | apply Ext.drew' | apply Ext.drewN | apply Ext.ext))))⟩

set_option maxRecDepth 100000 in
set_option maxHeartbeats 6400000 in
theorem put_yes (c : Nat) (m : TM) (S : Nat → Prop) (k : KK) (v : Value) (l : List Px) (w : World) (h : TK w c m S) (hl : Pix .u8 w v l) (hk : inK k) (ho : putOk k 8 8 l = true) (hlen : m.l.length ≤ 5000) (hmost : m.most ≤ 5000) (hdis : ∀ b, v.ownBlock = some b → ¬ S b) :
    Calls Try.prog 19 #[.pointer (some ⟨c, 0, none⟩), .agg #[.int .i64 k.1, .int .i64 k.2], .agg #[.int .i64 8, .int .i64 8, v]] w fun e w' => e = .returned (.int .i64 0) ∧ PutPost w w' c (m.put k l) S := by
  obtain ⟨x, y⟩ := k
  have HT := Lib.hid h
  have P := Lib.hid hl
  obtain ⟨A, cap, rfl, _⟩ := hl
  obtain ⟨N, hN⟩ : ∃ N, l.length = N := ⟨_, rfl⟩
  rw [hN] at P ⊢
  have HN := Lib.hid hN
  have KR := Lib.hid (fun wx => keyRight_any x y wx)
  have CK := Lib.hid (fun wx (hx : Ext w wx) => check_any 8 8 (.slice A N cap) l wx (by omega) (by omega) (P.out.ext hx))
  unfold putOk at ho
  simp only [Bool.and_eq_true, decide_eq_true_eq] at ho
  obtain ⟨⟨⟨hr, -⟩, -⟩, hI⟩ := ho
  rw [hr] at KR
  rw [hI] at CK
  have h64 : Hid (l.length = 64) := Lib.hid (by
    unfold rightI at hI
    simp only [Bool.and_eq_true, decide_eq_true_eq] at hI
    omega)
  have HK := Lib.hid hk
  have HL := Lib.hid hlen
  simp only
  clear h hN hr hI hk hlen
  go_enter Try.func19, Try.ntmps19
  go_wp2_with fail
  refine (KR.out _).mono ?_
  rintro e w1 ⟨rfl, g1, rfl⟩
  go_wp2_with fail
  refine (CK.out _ (by ((repeat (first | exact Ext.refl _ | apply Ext.alloc | apply Ext.drew' | apply Ext.drewN | apply Ext.ext))))).mono ?_
  rintro e w1 ⟨rfl, g2, rfl⟩
  simp only [errB, if_true]
  go_wp2_with fail
  obtain ⟨wA, hwA⟩ : ∃ wA, (((w.alloc (.cells #[.int .i64 x, .int .i64 y] 23)).alloc (.cells #[.int .i64 8, .int .i64 8, .slice A N cap] 47)).ext g1).ext g2 = wA := ⟨_, rfl⟩
  have EA : Hid (Ext w wA) := Lib.hid (by rw [← hwA]; exact ((((Ext.refl w).alloc _).alloc _).ext g1).ext g2)
  have BA : Hid (wA.cell? ⟨w.heap.size, 0, none⟩ = some (.int .i64 x) ∧ wA.cell? ⟨w.heap.size, 1, none⟩ = some (.int .i64 y) ∧ wA.cell? ⟨w.heap.size + 1, 0, none⟩ = some (.int .i64 8) ∧ wA.cell? ⟨w.heap.size + 1, 1, none⟩ = some (.int .i64 8) ∧ wA.cell? ⟨w.heap.size + 1, 2, none⟩ = some (.slice A N cap) ∧ w.heap.size + 1 < wA.heap.size) := Lib.hid (by
    rw [← hwA]; refine ⟨by simp [go_sem], by simp [go_sem], by simp [go_sem], by simp [go_sem], by simp [go_sem], by simp; omega⟩)
  obtain ⟨q, hq⟩ : ∃ q, w.heap.size = q := ⟨_, rfl⟩
  rw [hwA]
  rw [hq] at BA ⊢
  have HQ := Lib.hid hq
  clear hwA hq
  refine (gone_any c m S (x, y) wA (HT.out.ext EA.out) HK.out (by have := HL.out; omega)).mono ?_
  rintro e w2 ⟨rfl, hT2, hK2⟩
  have K2 := Lib.hid hK2
  have nS : Hid (¬ S q ∧ ¬ S (q + 1)) := Lib.hid ⟨fun e => by have := HT.out.lt q e; have := HQ.out; omega, fun e => by have := HT.out.lt _ e; have := HQ.out; omega⟩
  have B2 : Hid (w2.cell? ⟨q, 0, none⟩ = some (.int .i64 x) ∧ w2.cell? ⟨q, 1, none⟩ = some (.int .i64 y) ∧ w2.cell? ⟨q + 1, 0, none⟩ = some (.int .i64 8) ∧ w2.cell? ⟨q + 1, 1, none⟩ = some (.int .i64 8) ∧ w2.cell? ⟨q + 1, 2, none⟩ = some (.slice A N cap) ∧ q + 1 < w2.heap.size) := Lib.hid (by
    have hs := BA.out.2.2.2.2.2
    refine ⟨?_, ?_, ?_, ?_, ?_, Nat.lt_of_lt_of_le hs hK2.size⟩
    · rw [hK2.cell (by omega) nS.out.1]; exact BA.out.1
    · rw [hK2.cell (by omega) nS.out.1]; exact BA.out.2.1
    · rw [hK2.cell hs nS.out.2]; exact BA.out.2.2.1
    · rw [hK2.cell hs nS.out.2]; exact BA.out.2.2.2.1
    · rw [hK2.cell hs nS.out.2]; exact BA.out.2.2.2.2.1)
  have P2 : Hid (Pix .u8 w2 (.slice A N cap) l) := Lib.hid (by
    obtain ⟨A', cap', e, h2, h3, h4, h5, h6⟩ := P.out
    refine ⟨A', cap', e, h2, h3, h4, h5, fun hn => ?_⟩
    obtain ⟨b, off, e1, e2, e3⟩ := h6 hn
    have e2' := Nat.lt_of_lt_of_le e2 EA.out.size
    have nb : ¬ S b := hdis b (by subst e1; simp only [Value.slice.injEq] at e; rw [e.1]; rfl)
    exact ⟨b, off, e1, Nat.lt_of_lt_of_le e2' K2.out.size, fun i hi j hj => by rw [K2.out.cell e2' nb, EA.out.cell e2]; exact e3 i hi j hj⟩)
  obtain ⟨M, ov, f, h2⟩ := hT2
  obtain ⟨A0, cap0, rfl⟩ := own_slice h2.ord.1
  obtain ⟨N0, hN0⟩ : ∃ N, (m.gone (x, y)).keys.length = N := ⟨_, rfl⟩
  rw [hN0] at h2
  have H2 := Lib.hid h2
  have HN0 := Lib.hid hN0
  clear h2 hK2 hN0
  have z0 : ∀ g', (w2.ext g').cell? ⟨c, 1, none⟩ = some (.map (some M)) := fun g' => (Ext.cell (⟨g', rfl⟩ : Ext w2 (w2.ext g')) (H2.out.lt c H2.out.sc)).trans H2.out.cell.2.1
  have z1 : ∀ g', (w2.ext g').cell? ⟨q, 0, none⟩ = some (.int .i64 x) := fun g' => (Ext.cell (⟨g', rfl⟩ : Ext w2 (w2.ext g')) (by have := B2.out.2.2.2.2.2; omega)).trans B2.out.1
  have z2 : ∀ g', (w2.ext g').cell? ⟨q, 1, none⟩ = some (.int .i64 y) := fun g' => (Ext.cell (⟨g', rfl⟩ : Ext w2 (w2.ext g')) (by have := B2.out.2.2.2.2.2; omega)).trans B2.out.2.1
  have z3 : ∀ g', (w2.ext g').cell? ⟨q + 1, 0, none⟩ = some (.int .i64 8) := fun g' => (Ext.cell (⟨g', rfl⟩ : Ext w2 (w2.ext g')) B2.out.2.2.2.2.2).trans B2.out.2.2.1
  have z4 : ∀ g', (w2.ext g').cell? ⟨q + 1, 1, none⟩ = some (.int .i64 8) := fun g' => (Ext.cell (⟨g', rfl⟩ : Ext w2 (w2.ext g')) B2.out.2.2.2.2.2).trans B2.out.2.2.2.1
  have z5 : ∀ g', (w2.ext g').cell? ⟨q + 1, 2, none⟩ = some (.slice A N cap) := fun g' => (Ext.cell (⟨g', rfl⟩ : Ext w2 (w2.ext g')) B2.out.2.2.2.2.2).trans B2.out.2.2.2.2.1
  go_wp2
  refine region_flow 7 [34] (fun t v => t = 34 ∧ ∃ A c, v = .agg #[.int .i64 8, .int .i64 8, .slice A N c]) (fun t v w' => ∃ pv, v = .agg #[.int .i64 8, .int .i64 8, pv] ∧ OwnP .u8 68 w2.heap.size w' pv l) (by kernel_rfl) (by kernel_rfl) ?hq ?hu ?hR ?h
  case hq => rintro t v ⟨rfl, _⟩; simp
  case hu => rintro t ⟨_, A, c, h⟩; simp [undef] at h
  case hR => rintro t v wx wy _ ⟨pv, e, hO⟩ he; exact ⟨pv, e, hO.ext he⟩
  case h =>
    dsimp only [List.take, List.drop]
    iterate 6 (refine Flow.plain rfl rfl ?_; go_big_quiet_step (fail); refine wpQuiet_nil ?_)
    refine Flow.call Try.call34 [.agg #[.int .i64 8, .int .i64 8, .slice A N cap]] rfl rfl rfl ?_ (fun wx hx hf => (copied_any 8 8 (.slice A N cap) l wx (P2.out.ext hx) (by have := h64.out; omega)).mono ?_) ?_
    · exact ⟨.agg #[.int .i64 8, .int .i64 8, .slice A N cap], rfl, _, _, rfl⟩
    · rintro e w' ⟨pv, rfl, hO, hE⟩
      obtain ⟨A1, cap1, rfl⟩ := own_slice hO.1
      rw [HN.out] at hO ⊢
      exact ⟨_, rfl, hE, ⟨rfl, A1, cap1, rfl⟩, _, rfl, hO.mono hx.size⟩
    rintro v ⟨-, A1, cap1, rfl⟩
    simp only [Act.put, List.setIfInBounds_toArray, List.set_cons_zero, List.set_cons_succ]
    refine Flow.nil fun w5 hx5 hf => ?_
    obtain ⟨pv, e3, hO⟩ := hf 34 (by simp) ⟨rfl, A1, cap1, rfl⟩
    simp [Act.eval] at e3
    subst e3
    have O5 := Lib.hid hO
    have E5 := Lib.hid hx5
    obtain ⟨w6, hup, hM6, hK6⟩ := run_put (t := 75) (K := 23) (E := 47) mapK_Key Try.underlying75 (H2.out.ext E5.out).mp (x, y) HK.out (.agg #[.int .i64 8, .int .i64 8, .slice A1 N cap1]) (by rw [List.length_map]; have := gone_len m (x, y); have := HL.out; omega)
    simp only [keyV] at hup
    have HM6 := Lib.hid (And.intro hM6 hK6)
    have nM : Hid (M ≠ q ∧ M ≠ q + 1 ∧ M ≠ c) := Lib.hid ⟨fun e => nS.out.1 (by rw [← e]; exact H2.out.sM), fun e => nS.out.2 (by rw [← e]; exact H2.out.sM), H2.out.cM.symm⟩
    have y0 : w6.cell? ⟨q, 0, none⟩ = some (.int .i64 x) := by rw [hK6.cell (by have := B2.out.2.2.2.2.2; have := hx5.size; omega) (Ne.symm nM.out.1), hx5.cell (by have := B2.out.2.2.2.2.2; omega)]; exact B2.out.1
    have y1 : w6.cell? ⟨q, 1, none⟩ = some (.int .i64 y) := by rw [hK6.cell (by have := B2.out.2.2.2.2.2; have := hx5.size; omega) (Ne.symm nM.out.1), hx5.cell (by have := B2.out.2.2.2.2.2; omega)]; exact B2.out.2.1
    have y2 : w6.cell? ⟨c, 2, none⟩ = some (.slice A0 N0 cap0) := by rw [hK6.cell (Nat.lt_of_lt_of_le (H2.out.lt c H2.out.sc) hx5.size) (Ne.symm nM.out.2.2), hx5.cell (H2.out.lt c H2.out.sc)]; exact H2.out.cell.2.2
    have y3 : q < w6.heap.size := Nat.lt_of_lt_of_le (by have := B2.out.2.2.2.2.2; have := hx5.size; omega) hK6.size
    have y4 : c < w6.heap.size := Nat.lt_of_lt_of_le (Nat.lt_of_lt_of_le (H2.out.lt c H2.out.sc) hx5.size) hK6.size
    have OR : Hid (OwnK 23 0 w6 (.slice A0 N0 cap0) (m.gone (x, y)).keys) := Lib.hid ⟨own_keepAll (row_ext H2.out.ord.1 hx5) (fun b hb => hK6.block b (Nat.lt_of_lt_of_le (H2.out.lt b (H2.out.so b hb)) hx5.size) (fun e => H2.out.Mo (by rw [hb, e]))), H2.out.ord.2⟩
    clear hM6 hK6 z0 z1 z2 z3 z4 z5 hx5 hO hf
    have LK : Hid ((m.gone (x, y)).keys.length + ([(x, y)] : List KK).length ≤ 1000000) := Lib.hid (by
      have := gone_len m (x, y); have := HL.out; rw [keys_len]; simp; omega)
    have GN := Lib.hid (gone_not m (x, y))
    have OK' : Hid (OwnP .u8 68 w2.heap.size w5 (.slice A1 N cap1) l) := O5
    have LN : Hid ((m.gone (x, y)).keys.length + 1 = N0 + 1) := Lib.hid (by rw [HN0.out])
    go_wp2_with fail
    go_region_law (
      refine step_kys (v := .slice A0 N0 cap0) (x := .slice (some ⟨w6.heap.size, 0, none⟩) 1 1) (m := [(x, y)]) kyK rfl _ _ rfl (by simp [Act.eval, Act.put]) (by simp [Act.eval, Act.put]) (OR.out.ext (by (repeat (first | exact Ext.refl _ | apply Ext.drew' | apply Ext.alloc | apply Ext.ext)))) (ky_one (by simp) HK.out (by intro j hj; rcases j with _ | _ | j <;> (first | omega | simp [go_sem, cellsK]))) LK.out (Nat.zero_le _) ?_
      intro v9 w9 hO9 hg9 hown9
      obtain ⟨A9, c9, rfl⟩ := own_slice hO9.1
      obtain ⟨k0, k1, HD, HKp⟩ := add_mem (k := (x, y)) H2.out GN.out E5.out OK'.out HM6.out.1 HM6.out.2 (by (repeat (first | exact Ext.refl _ | apply Ext.drew' | apply Ext.alloc | apply Ext.ext))) hO9 hg9 hown9)
    all_goals (
      obtain ⟨wn, hwn⟩ : ∃ wn, w9.setCell ⟨c, 2, none⟩ (.slice A9 ((m.gone (x, y)).keys ++ [(x, y)]).length c9) = wn := ⟨_, rfl⟩
      rw [hwn] at HD HKp
      simp only [List.length_append, List.length_cons, List.length_nil, Nat.zero_add] at hwn
      rw [hwn]
      obtain ⟨m2, hm2⟩ : ∃ m2, (m.gone (x, y)).add (x, y) l = m2 := ⟨_, rfl⟩
      have hput : m.put (x, y) l = m2.trim := by rw [← hm2]; rfl
      have HPUT := Lib.hid hput
      rw [hm2] at HD
      have L2 : Hid (m2.keys.length = N0 + 1) := Lib.hid (by rw [← hm2, TM.keys_add, List.length_append, HN0.out]; rfl)
      have hmo : m2.most = m.most := by rw [← hm2]; rfl
      obtain ⟨M9, ov9, f9, h9⟩ := HD
      obtain ⟨A8, cap8, rfl⟩ := own_slice h9.ord.1
      rw [L2.out] at h9
      have c0 := h9.cell.1
      have c2 := h9.cell.2.2
      rw [hmo] at c0
      have hcn := h9.lt c h9.sc
      have H9 := Lib.hid h9
      have HP9 := Lib.hid HKp
      have hN0 : N0 ≤ 5000 := by have := gone_len m (x, y); have := HL.out; have := keys_len (m.gone (x, y)); have := HN0.out; omega
      obtain ⟨mo, hmo2⟩ : ∃ mo, m.most = mo := ⟨_, rfl⟩
      have HMO : Hid (m2.most = mo) := Lib.hid (hmo.trans hmo2)
      rw [hmo2] at c0 hmost
      clear hwn h9 hO9 hg9 hown9 k0 k1 hput hm2 HKp y0 y1 y2 y3 y4 hup hmo hmo2
      have FIN : Hid (∀ w', Keep wn w' (fun b => S b ∨ (w2.heap.size ≤ b ∧ b < w9.heap.size)) → (∃ S', TK w' c m2.trim S' ∧ ∀ b, S' b → S b ∨ w2.heap.size ≤ b) → PutPost w w' c (m.put (x, y) l) S) := Lib.hid (fun w' hk ⟨S', h1, h2⟩ =>
        ⟨S', by rw [HPUT.out]; exact h1, fun b hb => (h2 b hb).imp id (fun h => Nat.le_trans (Nat.le_trans EA.out.size K2.out.size) h), (((Keep.ofExt EA.out S).trans K2.out (fun _ _ x => x)).trans HP9.out (fun _ _ x => x)).trans hk (fun z hz x => x.elim id (fun h => absurd (Nat.lt_of_lt_of_le hz (Nat.le_trans EA.out.size K2.out.size)) (Nat.not_lt.2 h.1)))⟩)
      by_cases hgt : mo < N0 + 1
      · have hgt' : (mo : Int) < (N0 : Int) + 1 := by omega
        have hnz : 0 < N0 + 1 := by omega
        obtain ⟨b0, off0, kx, ky, rfl, hb0, hk0, hin0, d0, d1⟩ := (H9.out.ord.kys).at hnz
        rw [Nat.zero_mul, Nat.add_zero] at d0
        rw [Nat.zero_mul, Nat.zero_add] at d1
        have TR : Hid (m2.trim = m2.gone (kx, ky)) := Lib.hid (by unfold TM.trim; rw [if_pos (by rw [HMO.out, ← keys_len, L2.out]; exact hgt), hk0])
        have GN2 : Hid (∀ wx, Ext wn wx → Calls Try.prog 33 #[.pointer (some ⟨c, 0, none⟩), .agg #[.int .i64 kx, .int .i64 ky]] wx fun e w' => e = .returned (.tuple #[]) ∧ TK w' c (m2.gone (kx, ky)) (fun b => S b ∨ (w2.heap.size ≤ b ∧ b < w9.heap.size)) ∧ Keep wx w' (fun b => S b ∨ (w2.heap.size ≤ b ∧ b < w9.heap.size))) := Lib.hid
          (fun wx hx => gone_any c m2 _ (kx, ky) wx ⟨_, _, _, H9.out.ext hx⟩ hin0 (by rw [← keys_len, L2.out]; omega))
        clear hk0 hin0
        go_wp2
        refine region_quiet (by kernel_rfl) (by kernel_rfl) ?_
        iterate 10 (go_big_quiet_step (fail))
        refine wpQuiet_nil ?_
        rintro _ ⟨g7, rfl⟩
        go_wp2_with fail
        refine (GN2.out _ (by (repeat (first | exact Ext.refl _ | apply Ext.drew' | apply Ext.alloc | apply Ext.ext)))).mono ?_
        rintro e w10 ⟨rfl, hT10, hK10⟩
        go_wp2
        go_ret
        refine ⟨rfl, FIN.out _ ((Keep.ofExt ⟨g7, rfl⟩ _).trans hK10 (fun _ _ x => x)) ⟨fun b => S b ∨ (w2.heap.size ≤ b ∧ b < w9.heap.size), by rw [TR.out]; exact hT10, fun b hb => hb.imp id (fun h => h.1)⟩⟩
      · have hgt' : ¬ (mo : Int) < (N0 : Int) + 1 := by omega
        have TR : Hid (m2.trim = m2) := Lib.hid (by unfold TM.trim; rw [if_neg]; rw [HMO.out, ← keys_len, L2.out]; exact hgt)
        go_wp2
        refine region_quiet (by kernel_rfl) (by kernel_rfl) ?_
        iterate 10 (go_big_quiet_step (fail))
        refine wpQuiet_nil ?_
        rintro _ ⟨g7, rfl⟩
        go_wp2
        go_ret
        refine ⟨rfl, FIN.out _ (Keep.ofExt ⟨g7, rfl⟩ _) ⟨fun b => S b ∨ (w2.heap.size ≤ b ∧ b < w9.heap.size), by rw [TR.out]; exact ⟨_, _, _, H9.out.ext ⟨g7, rfl⟩⟩, fun b hb => hb.imp id (fun h => h.1)⟩⟩)

end Go.Proofs.Ytblfplkocljlgaa
