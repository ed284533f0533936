import Derived.Test.YtblfplkocljlgaaTAwake
namespace Go.Proofs.Ytblfplkocljlgaa
open Go.RowKit Go.ChangeMaps
set_option linter.unusedVariables false
set_option linter.unusedSimpArgs false

/-- what a right cache is -/
structure TM.Ok (m : TM) : Prop where
  rt : ∀ t ∈ m.l, rightK t.1 = true
  px : ∀ t ∈ m.l, t.2.length = 64 ∧ rightI 8 8 t.2 = true
  ln : m.l.length ≤ m.most
  mo : 1 ≤ m.most ∧ m.most ≤ 4096

theorem right_in {k : KK} (h : rightK k = true) : inK k := by
  unfold rightK at h
  simp only [decide_eq_true_eq] at h
  unfold inK
  omega

theorem TM.Ok.gone {m : TM} (h : m.Ok) (k : KK) : (m.gone k).Ok :=
  ⟨fun t ht => h.rt t (List.mem_filter.1 ht).1, fun t ht => h.px t (List.mem_filter.1 ht).1, Nat.le_trans (gone_len m k) h.ln, h.mo⟩

theorem gone_head (m : TM) (h : 0 < m.l.length) : (m.gone (m.keys.getD 0 noK)).l.length + 1 ≤ m.l.length := by
  obtain ⟨mo, l⟩ := m
  cases l with
  | nil => simp at h
  | cons t l =>
    unfold TM.gone TM.keys
    simp only [List.map_cons, List.getD_cons_zero]
    rw [List.filter_cons_of_neg (by simp)]
    simpa using List.length_filter_le _ l

theorem TM.Ok.put {m : TM} (h : m.Ok) {k : KK} {p : List Px} (hk : rightK k = true) (hp : p.length = 64 ∧ rightI 8 8 p = true) : (m.put k p).Ok := by
  have h1 := h.gone k
  have h2r : ∀ t ∈ ((m.gone k).add k p).l, rightK t.1 = true := fun t ht => by
    rcases List.mem_append.1 ht with ht | ht
    · exact h1.rt t ht
    · rw [List.mem_singleton.1 ht]; exact hk
  have h2p : ∀ t ∈ ((m.gone k).add k p).l, t.2.length = 64 ∧ rightI 8 8 t.2 = true := fun t ht => by
    rcases List.mem_append.1 ht with ht | ht
    · exact h1.px t ht
    · rw [List.mem_singleton.1 ht]; exact hp
  have hl : ((m.gone k).add k p).l.length = (m.gone k).l.length + 1 := by simp [TM.add]
  have hm : ((m.gone k).add k p).most = m.most := rfl
  have h1l : (m.gone k).l.length ≤ m.most := h1.ln
  unfold TM.put TM.trim
  split
  · have := gone_head ((m.gone k).add k p) (by omega)
    exact ⟨fun t ht => h2r t (List.mem_filter.1 ht).1, fun t ht => h2p t (List.mem_filter.1 ht).1, by show _ ≤ m.most; omega, h.mo⟩
  · exact ⟨h2r, h2p, by show _ ≤ m.most; omega, h.mo⟩

theorem TK.nodup {w : World} {c : Nat} {m : TM} {S : Nat → Prop} (h : TK w c m S) : m.keys.Nodup := by
  obtain ⟨M, ov, f, h⟩ := h
  obtain ⟨es, clock, _, _, h3, _⟩ := h.mp
  rw [List.map_map] at h3
  exact h3

/-- has a tile a pixel in a box? -/
def meetsK (k : KK) (b : Int × Int × Int × Int) : Bool := !(decide ((meetB (tboxB k) b).2.2.1 ≤ (meetB (tboxB k) b).1) || decide ((meetB (tboxB k) b).2.2.2 ≤ (meetB (tboxB k) b).2.1))
def refMeets (k : KK) (b : Int × Int × Int × Int) : Bool := decide (b.1 < b.2.2.1 ∧ b.2.1 < b.2.2.2 ∧ 8 * k.1 < b.2.2.1 ∧ b.1 < 8 * k.1 + 8 ∧ 8 * k.2 < b.2.2.2 ∧ b.2.1 < 8 * k.2 + 8)

theorem meets_same (k : KK) (b : Int × Int × Int × Int) (h : rightK k = true) : meetsK k b = refMeets k b := by
  unfold meetsK refMeets tboxB
  rw [h]
  simp only [if_true]
  unfold meetB
  obtain ⟨b0, b1, b2, b3⟩ := b
  dsimp only
  by_cases hc : b0 < b2 ∧ b1 < b3 ∧ 8 * k.1 < b2 ∧ b0 < 8 * k.1 + 8 ∧ 8 * k.2 < b3 ∧ b1 < 8 * k.2 + 8
  · rw [decide_eq_true hc, if_neg (by omega)]
    simp; omega
  · rw [decide_eq_false hc]
    split
    · simp
    · rename_i h2; exact absurd (by omega) h2

set_option maxHeartbeats 3200000 in
theorem meets_any (x y x0 y0 x1 y1 : Int) (w : World) (h : -1000000 ≤ x ∧ x ≤ 1000000) (h' : -1000000 ≤ y ∧ y ≤ 1000000) :
    Calls Try.prog 24 #[.agg #[.int .i64 x, .int .i64 y], .int .i64 x0, .int .i64 y0, .int .i64 x1, .int .i64 y1] w fun e w' => e = .returned (.bool (refMeets (x, y) (x0, y0, x1, y1))) ∧ Ext w w' := by
  rcases (show (¬ x0 < x1) ∨ (x0 < x1 ∧ ¬ y0 < y1) ∨ (x0 < x1 ∧ y0 < y1 ∧ ¬ 8 * x < x1) ∨ (x0 < x1 ∧ y0 < y1 ∧ 8 * x < x1 ∧ ¬ x0 < 8 * x + 8) ∨ (x0 < x1 ∧ y0 < y1 ∧ 8 * x < x1 ∧ x0 < 8 * x + 8 ∧ ¬ 8 * y < y1) ∨ (x0 < x1 ∧ y0 < y1 ∧ 8 * x < x1 ∧ x0 < 8 * x + 8 ∧ 8 * y < y1) by omega) with h1 | ⟨h1, h2⟩ | ⟨h1, h2, h3⟩ | ⟨h1, h2, h3, h4⟩ | ⟨h1, h2, h3, h4, h5⟩ | ⟨h1, h2, h3, h4, h5⟩
  all_goals (
    go_enter Try.func24, Try.ntmps24
    go_wp2
    go_ret
    exact ⟨ret_bool (by unfold refMeets; first | (simp; omega) | (rw [decide_eq_decide]; dsimp only; omega)), (Ext.refl w).alloc _⟩)

def TM.dropB (m : TM) (b : Int × Int × Int × Int) : TM := { m with l := m.l.filter (fun t => !meetsK t.1 b) }
def TM.part (m : TM) (b : Int × Int × Int × Int) (i : Nat) : TM := { m with l := (m.l.take i).filter (fun t => !meetsK t.1 b) ++ m.l.drop i }

theorem part_zero (m : TM) (b : Int × Int × Int × Int) : m.part b 0 = m := by unfold TM.part; simp
theorem part_end (m : TM) (b : Int × Int × Int × Int) : m.part b m.l.length = m.dropB b := by unfold TM.part TM.dropB; simp

theorem part_step (m : TM) (b : Int × Int × Int × Int) (i : Nat) (hn : m.keys.Nodup) (hi : i < m.l.length) :
    (meetsK (m.keys.getD i noK) b = true → (m.part b i).gone (m.keys.getD i noK) = m.part b (i + 1) ∧ ((m.l.take (i + 1)).filter (fun t => !meetsK t.1 b)).length = ((m.l.take i).filter (fun t => !meetsK t.1 b)).length) ∧
    (meetsK (m.keys.getD i noK) b = false → m.part b i = m.part b (i + 1) ∧ ((m.l.take (i + 1)).filter (fun t => !meetsK t.1 b)).length = ((m.l.take i).filter (fun t => !meetsK t.1 b)).length + 1) := by
  obtain ⟨mo, l⟩ := m
  simp only at hi
  obtain ⟨t, ht⟩ : ∃ t, l[i] = t := ⟨_, rfl⟩
  have hd : l.drop i = t :: l.drop (i + 1) := by rw [← ht]; exact List.drop_eq_getElem_cons hi
  have htk : l.take (i + 1) = l.take i ++ [t] := by rw [← ht]; exact List.take_succ_eq_append_getElem hi
  have hk : (TM.keys ⟨mo, l⟩).getD i noK = t.1 := by
    unfold TM.keys
    rw [List.getD_eq_getElem?_getD, List.getElem?_map, List.getElem?_eq_getElem hi, ht]; rfl
  rw [hk]
  have hl : l = l.take i ++ t :: l.drop (i + 1) := by rw [← hd, List.take_append_drop]
  have hnd : ((l.take i ++ t :: l.drop (i + 1)).map (·.1)).Nodup := by rw [← hl]; exact hn
  rw [List.map_append, List.map_cons, List.nodup_append] at hnd
  obtain ⟨n1, n2, n3⟩ := hnd
  have nA : ∀ s ∈ l.take i, s.1 ≠ t.1 := fun s hs => n3 s.1 (List.mem_map.2 ⟨s, hs, rfl⟩) t.1 (by simp)
  have nB : ∀ s ∈ l.drop (i + 1), s.1 ≠ t.1 := fun s hs e => (List.nodup_cons.1 n2).1 (List.mem_map.2 ⟨s, hs, e⟩)
  constructor
  · intro hm
    refine ⟨?_, ?_⟩
    · have e1 := List.filter_eq_self.2 (show ∀ s ∈ (l.take i).filter (fun t => !meetsK t.1 b), decide (s.1 ≠ t.1) = true from fun s hs => by simpa using nA s (List.mem_filter.1 hs).1)
      have e2 := List.filter_eq_self.2 (show ∀ s ∈ l.drop (i + 1), decide (s.1 ≠ t.1) = true from fun s hs => by simpa using nB s hs)
      have e3 : decide (t.1 ≠ t.1) = false := by simp
      unfold TM.part TM.gone
      simp only [htk, hd, List.filter_append, List.filter_cons, List.filter_nil, hm, Bool.not_true, Bool.false_eq_true, if_false, List.append_nil, e3]
      rw [e1, e2]
    · rw [htk, List.filter_append]; simp [hm]
  · intro hm
    refine ⟨?_, ?_⟩
    · unfold TM.part
      simp only [htk, hd, List.filter_append, List.filter_cons, List.filter_nil, hm, Bool.not_false, if_true, List.append_assoc, List.cons_append, List.nil_append]
    · rw [htk, List.filter_append]; simp [hm]

set_option maxRecDepth 100000 in
set_option maxHeartbeats 6400000 in
theorem drop_any (c : Nat) (m : TM) (S : Nat → Prop) (b0 b1 b2 b3 : Int) (w : World) (h : TK w c m S) (hok : m.Ok) :
    Calls Try.prog 22 #[.pointer (some ⟨c, 0, none⟩), .agg #[.int .i64 b0, .int .i64 b1, .int .i64 b2, .int .i64 b3]] w fun e w' => e = .returned (.int .i64 ((m.l.length : Int) - ((m.dropB (b0, b1, b2, b3)).l.length : Int))) ∧ TK w' c (m.dropB (b0, b1, b2, b3)) S ∧ Keep w w' S := by
  have ND := Lib.hid h.nodup
  have HT := Lib.hid h
  have OK := Lib.hid hok
  obtain ⟨N, hN⟩ : ∃ N, m.l.length = N := ⟨_, rfl⟩
  have hN2 : N ≤ 4096 := by have := hok.ln; have := hok.mo; omega
  rw [hN]
  have HN := Lib.hid hN
  have SUB : Hid (∀ b i, ∀ t ∈ (m.part b i).l, t ∈ m.l) := Lib.hid (fun b i t ht => by
    rcases List.mem_append.1 ht with ht | ht
    · exact List.mem_of_mem_take (List.mem_filter.1 ht).1
    · exact List.mem_of_mem_drop ht)
  have LEN : Hid (∀ b i, (m.part b i).l.length ≤ m.l.length) := Lib.hid (fun b i => by
    unfold TM.part
    simp only [List.length_append, List.length_drop]
    have := List.length_filter_le (fun t => !meetsK t.1 b) (m.l.take i)
    rw [List.length_take] at this
    omega)
  clear h hok hN
  go_enter Try.func22, Try.ntmps22
  go_wp2_with fail
  refine (all_any c m S _ (HT.out.ext ((Ext.refl w).alloc _)) (by have := HN.out; omega)).mono ?_
  rintro e w1 ⟨v1, rfl, hO, hE⟩
  obtain ⟨A, cap, rfl⟩ := own_slice hO.1
  rw [keys_len, HN.out] at hO ⊢
  have hb1 := hE.heapAt (heap_alloc_new w (.cells #[.int .i64 b0, .int .i64 b1, .int .i64 b2, .int .i64 b3] 25))
  obtain ⟨q, hq⟩ : ∃ q, w.heap.size = q := ⟨_, rfl⟩
  rw [hq] at hb1 ⊢
  have HQ := Lib.hid hq
  have O1 := Lib.hid hO
  have E1 := Lib.hid (((Ext.refl w).alloc (.cells #[.int .i64 b0, .int .i64 b1, .int .i64 b2, .int .i64 b3] 25)).trans hE)
  have HB1 := Lib.hid hb1
  clear hO hE hb1 hq
  go_wp2
  go_loopw [5, 11] (fun t5 t11 wr => ∃ i n : Nat, i ≤ N ∧ t11 = .int .i64 (i : Int) ∧ t5 = .int .i64 (n : Int) ∧ n ≤ i ∧ Hid (TK wr c (m.part (b0, b1, b2, b3) i) S ∧ Keep w wr S ∧ n + ((m.l.take i).filter (fun t => !meetsK t.1 (b0, b1, b2, b3))).length = i ∧ wr.heap[q]? = some (.cells #[.int .i64 b0, .int .i64 b1, .int .i64 b2, .int .i64 b3] 25 (0, 0)) ∧ OwnK 23 (q + 1) wr (.slice A N cap) m.keys)) (fun _ t11 _ => N - (intOf t11).toNat)
  case atStart =>
    refine ⟨0, 0, by omega, rfl, rfl, by omega, Lib.hid ⟨?_, Keep.ofExt E1.out S, rfl, HB1.out, O1.out.mono (by have := HQ.out; simp; omega)⟩⟩
    rw [part_zero]; exact HT.out.ext E1.out
  case round =>
    obtain ⟨i, n, hi, rfl, rfl, hni, ST⟩ := hrel
    by_cases hlt : i < N
    · have hlt' : (i : Int) < (N : Int) := by omega
      obtain ⟨bk, off, x, y, rfl, hbs, hp, hin, c0, c1⟩ := (ST.out.2.2.2.2.kys).at (i := i) hlt
      have hm' : (x, y) ∈ m.keys := by
        rw [← hp, List.getD_eq_getElem?_getD, List.getElem?_eq_getElem (by rw [keys_len, HN.out]; exact hlt)]
        exact List.getElem_mem _
      obtain ⟨t, ht, htk⟩ := List.mem_map.1 hm'
      have hR := OK.out.rt t ht
      rw [htk] at hR
      have PS := part_step m (b0, b1, b2, b3) i ND.out (by rw [HN.out]; exact hlt)
      rw [hp] at PS
      have CB := Lib.hid (fun wx => tbox_any x y wx)
      obtain ⟨t0, t1, t2, t3, htb⟩ : ∃ a b c d, tboxB (x, y) = (a, b, c, d) := ⟨_, _, _, _, rfl⟩
      have CM := Lib.hid (fun wx => meet_any t0 t1 t2 t3 b0 b1 b2 b3 wx)
      obtain ⟨m0, m1, m2, m3, hmb⟩ : ∃ a b c d, meetB (t0, t1, t2, t3) (b0, b1, b2, b3) = (a, b, c, d) := ⟨_, _, _, _, rfl⟩
      have CE := Lib.hid (fun wx => emptyBox_any m0 m1 m2 m3 wx)
      have hmk : meetsK (x, y) (b0, b1, b2, b3) = !(decide (m2 ≤ m0) || decide (m3 ≤ m1)) := by unfold meetsK; rw [htb, hmb]
      rw [htb] at CB
      rw [hmb] at CM
      simp only [boxV] at CB CM
      obtain ⟨em, hem⟩ : ∃ em, (decide (m2 ≤ m0) || decide (m3 ≤ m1)) = em := ⟨_, rfl⟩
      rw [hem] at CE hmk
      obtain ⟨wa, hwa⟩ : ∃ wa, wr.alloc (.cells #[.int .i64 x, .int .i64 y] 23) = wa := ⟨_, rfl⟩
      obtain ⟨p, hpp⟩ : ∃ p, wr.heap.size = p := ⟨_, rfl⟩
      have EW : Hid (Ext wr wa) := Lib.hid (by rw [← hwa]; exact (Ext.refl _).alloc _)
      have n0 : ∀ g', (wa.ext g').cell? ⟨p, 0, none⟩ = some (.int .i64 x) := fun g' => by rw [(Ext.ext (Ext.refl _) g').cell (by rw [← hwa, ← hpp]; simp), ← hwa, ← hpp]; simp [go_sem]
      have n1 : ∀ g', (wa.ext g').cell? ⟨p, 1, none⟩ = some (.int .i64 y) := fun g' => by rw [(Ext.ext (Ext.refl _) g').cell (by rw [← hwa, ← hpp]; simp), ← hwa, ← hpp]; simp [go_sem]
      have hbx := EW.out.heapAt ST.out.2.2.2.1
      have hql : q < wa.heap.size := (Array.getElem?_eq_some_iff.1 hbx).1
      have z0 : ∀ g', (wa.ext g').cell? ⟨q, 0, none⟩ = some (.int .i64 b0) := fun g' => by rw [(Ext.ext (Ext.refl _) g').cell hql, cell_of_row wa _ _ _ _ (0, 0) hbx]; rfl
      have z1 : ∀ g', (wa.ext g').cell? ⟨q, 1, none⟩ = some (.int .i64 b1) := fun g' => by rw [(Ext.ext (Ext.refl _) g').cell hql, cell_of_row wa _ _ _ _ (0, 0) hbx]; rfl
      have z2 : ∀ g', (wa.ext g').cell? ⟨q, 2, none⟩ = some (.int .i64 b2) := fun g' => by rw [(Ext.ext (Ext.refl _) g').cell hql, cell_of_row wa _ _ _ _ (0, 0) hbx]; rfl
      have z3 : ∀ g', (wa.ext g').cell? ⟨q, 3, none⟩ = some (.int .i64 b3) := fun g' => by rw [(Ext.ext (Ext.refl _) g').cell hql, cell_of_row wa _ _ _ _ (0, 0) hbx]; rfl
      have GO : Hid (∀ wx, Ext wa wx → Calls Try.prog 33 #[.pointer (some ⟨c, 0, none⟩), .agg #[.int .i64 x, .int .i64 y]] wx fun e w' => e = .returned (.tuple #[]) ∧ TK w' c ((m.part (b0, b1, b2, b3) i).gone (x, y)) S ∧ Keep wx w' S) := Lib.hid (fun wx hx => gone_any c _ S (x, y) wx ((ST.out.1.ext EW.out).ext hx) hin (by
        have := LEN.out (b0, b1, b2, b3) i; have := HN.out; omega))
      have SN : Hid (∀ b, S b → b < q) := Lib.hid (fun b hb => by have := HT.out.lt b hb; have := HQ.out; omega)
      have HMK := Lib.hid hmk
      have PSH := Lib.hid PS
      have PR : Hid (∀ wx w2 n', Ext wa wx → Keep wx w2 S → TK w2 c (m.part (b0, b1, b2, b3) (i + 1)) S → n' + ((m.l.take (i + 1)).filter (fun t => !meetsK t.1 (b0, b1, b2, b3))).length = i + 1 → (TK w2 c (m.part (b0, b1, b2, b3) (i + 1)) S ∧ Keep w w2 S ∧ n' + ((m.l.take (i + 1)).filter (fun t => !meetsK t.1 (b0, b1, b2, b3))).length = i + 1 ∧ w2.heap[q]? = some (.cells #[.int .i64 b0, .int .i64 b1, .int .i64 b2, .int .i64 b3] 25 (0, 0)) ∧ OwnK 23 (q + 1) w2 (.slice (some ⟨bk, off, none⟩) N cap) m.keys)) := Lib.hid (fun wx w2 n' hx hk ht hn => by
        refine ⟨ht, (ST.out.2.1.trans (Keep.ofExt (EW.out.trans hx) S) (fun _ _ x => x)).trans hk (fun _ _ x => x), hn, ?_, ?_⟩
        · rw [hk.block q (Nat.lt_of_lt_of_le hql hx.size) (fun h => by have := SN.out q h; omega)]
          exact hx.heapAt hbx
        · exact ((ST.out.2.2.2.2.ext EW.out).ext hx).keep hk (fun k hk1 hk2 => by have := SN.out k hk2; have := (ST.out.2.2.2.2.1.lt k hk1).1; omega))
      clear hp hm' ht htk hR PS htb hmb hmk hem hin hbx
      go_wp2_with (first | rw [hwa, hpp] | fail)
      refine region_quiet (by kernel_rfl) (by kernel_rfl) ?_
      iterate 6 (go_big_quiet_step (first | exact calls_ext (CB.out _) | exact calls_ext (CM.out _) | exact calls_ext (CE.out _)))
      refine wpQuiet_nil ?_
      rintro _ ⟨g9, rfl⟩
      clear z0 z1 z2 z3
      have c0' : (wa.ext g9).cell? ⟨p, 0, none⟩ = some (.int .i64 x) := n0 g9
      have c1' : (wa.ext g9).cell? ⟨p, 1, none⟩ = some (.int .i64 y) := n1 g9
      cases em with
      | true =>
        have hf : meetsK (x, y) (b0, b1, b2, b3) = false := by rw [HMK.out]; rfl
        go_wp2
        go_roundw
        case rel =>
          obtain ⟨q1, q2⟩ := PSH.out.2 hf
          refine ⟨i + 1, n, by omega, by go_num, rfl, by omega, Lib.hid (PR.out _ _ n ⟨g9, rfl⟩ (Keep.refl _ _) ?_ (by have := ST.out.2.2.1; omega))⟩
          rw [← q1]; exact (ST.out.1.ext EW.out).ext ⟨g9, rfl⟩
        case measure => simp [intOf]; omega
      | false =>
        have hf : meetsK (x, y) (b0, b1, b2, b3) = true := by rw [HMK.out]; rfl
        go_wp2_with fail
        refine (GO.out _ ⟨g9, rfl⟩).mono ?_
        rintro e w2 ⟨rfl, hT2, hK2⟩
        have R2 := Lib.hid (And.intro hT2 hK2)
        clear hT2 hK2 c0' c1' n0 n1
        go_wp2
        go_roundw
        case rel =>
          obtain ⟨q1, q2⟩ := PSH.out.1 hf
          refine ⟨i + 1, n + 1, by omega, by go_num, by go_num, by omega, Lib.hid (PR.out _ _ (n + 1) ⟨g9, rfl⟩ R2.out.2 ?_ (by have := ST.out.2.2.1; omega))⟩
          rw [← q1]; exact R2.out.1
        case measure => simp [intOf]; omega
    · have hlt' : ¬ (i : Int) < (N : Int) := by omega
      obtain rfl : i = N := by omega
      have hr : ((i : Int) - ((m.dropB (b0, b1, b2, b3)).l.length : Int)) = (n : Int) := by
        have h1 := ST.out.2.2.1
        rw [← HN.out, List.take_length] at h1
        unfold TM.dropB
        simp only
        have := HN.out
        omega
      have HR := Lib.hid hr
      clear hr
      go_wp2
      go_ret
      refine ⟨ret_int HR.out.symm, ?_, ST.out.2.1⟩
      have h1 := ST.out.1
      rw [← HN.out, part_end] at h1
      exact h1

end Go.Proofs.Ytblfplkocljlgaa
