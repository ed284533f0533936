import Derived.Test.YtblfplkocljlgaaTDrop
namespace Go.Proofs.Ytblfplkocljlgaa
open Go.RowKit Go.ChangeMaps
set_option linter.unusedVariables false
set_option linter.unusedSimpArgs false

theorem ptr_eql (c : Nat) (w : World) : (binOp .eql 41 (.pointer (some ⟨c, 0, none⟩)) (.pointer none)).run Try.prog w = .ok (.bool false) w := by kernel_rfl

theorem px_ok (n : Nat) (hn : n ≤ 255) : (List.replicate 64 ((n, 0, 0, 255) : Px)).length = 64 ∧ rightI 8 8 (List.replicate 64 ((n, 0, 0, 255) : Px)) = true := ⟨by simp, rep_right n hn⟩

def TM.putR (m : TM) (k : KK) (l : List Px) : TM := if rightK k then m.put k l else m
theorem TM.Ok.putR {m : TM} (h : m.Ok) {k : KK} {p : List Px} (hp : p.length = 64 ∧ rightI 8 8 p = true) : (m.putR k p).Ok := by
  unfold TM.putR
  split
  · rename_i hk; exact h.put hk hp
  · exact h
theorem put_most (m : TM) (k : KK) (l : List Px) : (m.put k l).most = m.most := by
  unfold TM.put TM.trim
  split <;> rfl
theorem putR_most (m : TM) (k : KK) (l : List Px) : (m.putR k l).most = m.most := by
  unfold TM.putR
  split
  · exact put_most m k l
  · rfl

/-- a tile of right pixels is put, if its key is right -/
theorem put_tile (c : Nat) (m : TM) (S : Nat → Prop) (x y : Int) (v : Value) (l : List Px) (w : World) (h : TK w c m S) (hl : Pix .u8 w v l) (hk : inK (x, y)) (hr : rightI 8 8 l = true) (hok : m.Ok) (hdis : ∀ b, v.ownBlock = some b → ¬ S b) :
    Calls Try.prog 19 #[.pointer (some ⟨c, 0, none⟩), .agg #[.int .i64 x, .int .i64 y], .agg #[.int .i64 8, .int .i64 8, v]] w fun e w' => e = .returned (.int .i64 (if rightK (x, y) then 0 else 30)) ∧ PutPost w w' c (m.putR (x, y) l) S := by
  cases hR : rightK (x, y) with
  | true =>
    have hp : m.putR (x, y) l = m.put (x, y) l := by unfold TM.putR; rw [hR]; rfl
    rw [hp]
    exact put_yes c m S (x, y) v l w h hl hk (by unfold putOk; rw [hR, hr]; simp) (by have := hok.ln; have := hok.mo; omega) (by have := hok.mo; omega) hdis
  | false =>
    have hp : m.putR (x, y) l = m := by unfold TM.putR; rw [hR]; rfl
    rw [hp]
    exact put_no c m S (x, y) 8 8 v l w h hl (by omega) (by omega) (by unfold putOk; rw [hR]; simp)

theorem find_meets (m : TM) (b : Int × Int × Int × Int) (k : KK) (h : meetsK k b = true) : (m.dropB b).find k = none := by
  unfold TM.find TM.dropB
  simp only
  rw [List.find?_eq_none.2, Option.map_none]
  intro t ht
  simp only [decide_eq_true_eq]
  intro e
  have := (List.mem_filter.1 ht).2
  rw [e, h] at this
  simp at this

theorem find_keeps (m : TM) (hok : m.Ok) (b : Int × Int × Int × Int) (k : KK) (hk : k ∈ m.keys) (h : meetsK k b = false) : ∃ px, (m.dropB b).find k = some px ∧ px.length = 64 ∧ rightI 8 8 px = true := by
  obtain ⟨t, ht, rfl⟩ := List.mem_map.1 hk
  unfold TM.find TM.dropB
  simp only
  cases hf : (m.l.filter (fun t => !meetsK t.1 b)).find? (fun s => decide (s.1 = t.1)) with
  | none =>
    have := List.find?_eq_none.1 hf t (List.mem_filter.2 ⟨ht, by rw [h]; rfl⟩)
    simp at this
  | some s =>
    have hs := (List.mem_filter.1 (List.mem_of_find?_eq_some hf)).1
    exact ⟨s.2, rfl, hok.px s hs⟩

theorem TM.Ok.drop {m : TM} (h : m.Ok) (b : Int × Int × Int × Int) : (m.dropB b).Ok :=
  ⟨fun t ht => h.rt t (List.mem_filter.1 ht).1, fun t ht => h.px t (List.mem_filter.1 ht).1, Nat.le_trans (List.length_filter_le _ _) h.ln, h.mo⟩

structure DSt (w wr : World) (q : Nat) (b0 b1 b2 b3 : Int) (c : Nat) (m : TM) (S : Nat → Prop) : Prop where
  tk : TK wr c m S
  ok : m.Ok
  lo : ∀ b, S b → q < b
  wq : w.heap.size ≤ q
  ext : Ext w wr
  box : wr.heap[q]? = some (.cells #[.int .i64 b0, .int .i64 b1, .int .i64 b2, .int .i64 b3] 25 (0, 0))

theorem DSt.grow {w wr wr' : World} {q : Nat} {b0 b1 b2 b3 : Int} {c : Nat} {m : TM} {S : Nat → Prop} (h : DSt w wr q b0 b1 b2 b3 c m S) (he : Ext wr wr') : DSt w wr' q b0 b1 b2 b3 c m S :=
  ⟨h.tk.ext he, h.ok, h.lo, h.wq, h.ext.trans he, he.heapAt h.box⟩
theorem DSt.turn {w wr wr' : World} {q : Nat} {b0 b1 b2 b3 : Int} {c : Nat} {m m' : TM} {S S' : Nat → Prop} (h : DSt w wr q b0 b1 b2 b3 c m S) (hT : TK wr' c m' S') (hok : m'.Ok) (hS : ∀ b, S' b → S b ∨ wr.heap.size ≤ b) (hk : Keep wr wr' S) : DSt w wr' q b0 b1 b2 b3 c m' S' := by
  have hq : q < wr.heap.size := (Array.getElem?_eq_some_iff.1 h.box).1
  exact ⟨hT, hok, fun b hb => by
    rcases hS b hb with h1 | h1
    · exact h.lo b h1
    · omega, h.wq, Keep.toExt h.ext hk (fun b hb => by have := h.lo b hb; have := h.wq; omega), by rw [hk.block q hq (fun hb => by have := h.lo q hb; omega)]; exact h.box⟩
theorem DSt.cell {w wr : World} {q : Nat} {b0 b1 b2 b3 : Int} {c : Nat} {m : TM} {S : Nat → Prop} (h : DSt w wr q b0 b1 b2 b3 c m S) :
    wr.cell? ⟨q, 0, none⟩ = some (.int .i64 b0) ∧ wr.cell? ⟨q, 1, none⟩ = some (.int .i64 b1) ∧ wr.cell? ⟨q, 2, none⟩ = some (.int .i64 b2) ∧ wr.cell? ⟨q, 3, none⟩ = some (.int .i64 b3) ∧ q < wr.heap.size := by
  refine ⟨?_, ?_, ?_, ?_, (Array.getElem?_eq_some_iff.1 h.box).1⟩ <;> (rw [cell_of_row wr _ _ _ _ (0, 0) h.box]; rfl)

theorem wrapU8 (n : Nat) (h : n ≤ 255) : IntKind.u8.wrap (n : Int) = n := by
  unfold IntKind.wrap
  simp [IntKind.signed, IntKind.bits]
  omega

set_option maxRecDepth 100000 in
set_option maxHeartbeats 12800000 in
theorem TileDrops_walk (v : Value) (l : List KK) (b0 b1 b2 b3 : Int) (w : World) (hl : Kys w v l) (hb0 : -9223372036854775808 ≤ b0 ∧ b0 ≤ 9223372036854775807) (hb1 : -9223372036854775808 ≤ b1 ∧ b1 ≤ 9223372036854775807) (hb2 : -9223372036854775808 ≤ b2 ∧ b2 ≤ 9223372036854775807) (hb3 : -9223372036854775808 ≤ b3 ∧ b3 ≤ 9223372036854775807) :
    Calls Try.prog 5 #[v, .agg #[.int .i64 b0, .int .i64 b1, .int .i64 b2, .int .i64 b3]] w fun e w' => e = .returned (.bool true) ∧ Ext w w' := by
  have KL := Lib.hid hl
  have AW := Lib.hid awake_any
  have hnl : l.length ≤ 9223372036854775807 := by obtain ⟨A, cap, rfl, h1, h2, _⟩ := hl; omega
  obtain ⟨A, cap, rfl, _⟩ := hl
  obtain ⟨N, hN⟩ : ∃ N, l.length = N := ⟨_, rfl⟩
  rw [hN] at KL hnl ⊢
  have HN := Lib.hid hN
  clear hN
  by_cases hbig : 40 < N
  · have hbig' : (40 : Int) < (N : Int) := by omega
    go_enter Try.func5, Try.ntmps5
    go_wp2_with fail
    refine (AW.out _).mono ?_
    rintro e w3 ⟨rfl, g1, rfl⟩
    go_wp2
    go_ret
    exact ⟨rfl, by ((repeat (first | exact Ext.refl _ | apply Ext.alloc | apply Ext.drew' | apply Ext.drewN | apply Ext.ext)))⟩
  · have hbig' : ¬ (40 : Int) < (N : Int) := by omega
    have pe := ptr_eql
    go_enter Try.func5, Try.ntmps5
    go_wp2_with fail
    refine (new_yes 40 _ (by omega)).mono ?_
    rintro e w1 ⟨rfl, hT, hE⟩
    have hb1' := hE.heapAt (heap_alloc_new w (.cells #[.int .i64 b0, .int .i64 b1, .int .i64 b2, .int .i64 b3] 25))
    obtain ⟨c, hc⟩ : ∃ c, (w.alloc (.cells #[.int .i64 b0, .int .i64 b1, .int .i64 b2, .int .i64 b3] 25)).heap.size + 1 = c := ⟨_, rfl⟩
    obtain ⟨q, hq⟩ : ∃ q, w.heap.size = q := ⟨_, rfl⟩
    rw [hc] at hT ⊢
    have ST0 : Hid (DSt w w1 q b0 b1 b2 b3 c ⟨40, []⟩ (fun b => b = (w.alloc (.cells #[.int .i64 b0, .int .i64 b1, .int .i64 b2, .int .i64 b3] 25)).heap.size ∨ b = c)) := Lib.hid
      ⟨hT, ⟨by simp, by simp, by simp, by simp⟩, fun b hb => by simp at hb hc; omega, by omega, ((Ext.refl w).alloc _).trans hE, by rw [← hq]; exact hb1'⟩
    have HQ := Lib.hid hq
    rw [hq]
    clear hT hE hb1' hc hq
    go_wp2
    go_loopw [24] (fun t24 wr => ∃ (i : Nat) (m : TM) (S : Nat → Prop), i ≤ N ∧ t24 = .int .i64 (i : Int) ∧ Hid (DSt w wr q b0 b1 b2 b3 c m S)) (fun t24 _ => N - (intOf t24).toNat)
    case atStart => exact ⟨0, _, _, by omega, rfl, ST0⟩
    case round =>
      obtain ⟨i, m, S, hi, rfl, ST⟩ := hrel
      by_cases hlt : i < N
      · have hlt' : (i : Int) < (N : Int) := by omega
        obtain ⟨bk, off, x, y, rfl, hbs, hp, hin, c0, c1⟩ := (KL.out.ext ST.out.ext).at hlt
        have IK := Lib.hid hin
        obtain ⟨wa, hwa⟩ : ∃ wa, wr.alloc (.cells #[.int .i64 x, .int .i64 y] 23) = wa := ⟨_, rfl⟩
        obtain ⟨p, hpp⟩ : ∃ p, wr.heap.size = p := ⟨_, rfl⟩
        have SA : Hid (DSt w wa q b0 b1 b2 b3 c m S) := Lib.hid (by rw [← hwa]; exact ST.out.grow ((Ext.refl _).alloc _))
        have hpl : p < wa.heap.size := by rw [← hwa, ← hpp]; simp
        have n0 : ∀ g', (wa.ext g').cell? ⟨p, 0, none⟩ = some (.int .i64 x) := fun g' => by rw [(Ext.ext (Ext.refl _) g').cell hpl, ← hwa, ← hpp]; simp [go_sem]
        have n1 : ∀ g', (wa.ext g').cell? ⟨p, 1, none⟩ = some (.int .i64 y) := fun g' => by rw [(Ext.ext (Ext.refl _) g').cell hpl, ← hwa, ← hpp]; simp [go_sem]
        have cv := wrapU8 i (by omega)
        clear hp hin
        go_wp2_with (first | rw [hwa, hpp] | fail)
        refine region_flow 5 [33] (fun t v => t = 33 ∧ ∃ A c, v = .agg #[.int .i64 8, .int .i64 8, .slice A 64 c]) (fun t v w' => ∃ pv, v = .agg #[.int .i64 8, .int .i64 8, pv] ∧ OwnP .u8 68 wa.heap.size w' pv (List.replicate 64 (i, 0, 0, 255))) (by kernel_rfl) (by kernel_rfl) ?hq ?hu ?hR ?h
        case hq => rintro t v ⟨rfl, _⟩; simp
        case hu => rintro t ⟨_, A, c, h⟩; simp [undef] at h
        case hR => rintro t v wx wy _ ⟨pv, e, hO⟩ he; exact ⟨pv, e, hO.ext he⟩
        case h =>
          dsimp only [List.take, List.drop]
          iterate 4 (refine Flow.plain rfl rfl ?_; go_big_quiet_step (fail); refine wpQuiet_nil ?_)
          refine Flow.call Try.call20 [.int .u8 (i : Int)] rfl rfl rfl ?_ (fun wx hx hf => (plain_any i wx (by omega)).mono ?_) ?_
          · exact ⟨.agg #[.int .i64 8, .int .i64 8, .slice none 64 0], rfl, _, _, rfl⟩
          · rintro e w' ⟨PA, pc, rfl, hO, hE⟩
            exact ⟨_, rfl, hE, ⟨rfl, PA, pc, rfl⟩, _, rfl, hO.mono hx.size⟩
          rintro v ⟨-, A1, cap1, rfl⟩
          simp only [Act.put, List.setIfInBounds_toArray, List.set_cons_zero, List.set_cons_succ]
          refine Flow.nil fun w5 hx5 hf => ?_
          obtain ⟨pv, e3, hO⟩ := hf 33 (by simp) ⟨rfl, A1, cap1, rfl⟩
          simp [Act.eval] at e3
          subst e3
          have O5 := Lib.hid hO
          have S5 := Lib.hid (SA.out.grow hx5)
          have E5 := Lib.hid hx5
          clear hO hf n0 n1 hx5 c0 c1
          go_wp2_with fail
          refine (put_tile c m S x y (.slice A1 64 cap1) _ w5 S5.out.tk O5.out.pix IK.out (rep_right i (by omega)) ST.out.ok (fun b hb hS => by
            have := O5.out.row b hb
            have := SA.out.tk.lt b hS
            omega)).mono ?_
          rintro e w6 ⟨rfl, S6, hT6, hS6, hK6⟩
          have ST6 := Lib.hid (S5.out.turn hT6 (ST.out.ok.putR (px_ok i (by omega))) hS6 hK6)
          clear hT6 hS6 hK6
          go_wp2
          go_roundw
          case rel => exact ⟨i + 1, _, S6, by omega, by go_num, ST6⟩
          case measure => simp [intOf]; omega
      · have hlt' : ¬ (i : Int) < (N : Int) := by omega
        obtain ⟨M, hM⟩ : ∃ M, m.l.length = M := ⟨_, rfl⟩
        have hM2 : M ≤ 4096 := by have := ST.out.ok.ln; have := ST.out.ok.mo; omega
        go_wp2_with fail
        refine (all_any c m S wr ST.out.tk (by omega)).mono ?_
        rintro e w2 ⟨v2, rfl, hO, hE⟩
        obtain ⟨A2, cap2, rfl⟩ := own_slice hO.1
        rw [keys_len, hM] at hO ⊢
        have O2 := Lib.hid hO
        have S2 := Lib.hid (ST.out.grow hE)
        have HM := Lib.hid hM
        obtain ⟨z0, z1, z2, z3, z4⟩ := S2.out.cell
        clear hO hE hM
        go_wp2_with fail
        refine (drop_any c m S b0 b1 b2 b3 w2 S2.out.tk ST.out.ok).mono ?_
        rintro e w3 ⟨rfl, hT3, hK3⟩
        rw [HM.out]
        obtain ⟨M', hM'⟩ : ∃ M', (m.dropB (b0, b1, b2, b3)).l.length = M' := ⟨_, rfl⟩
        have hMM : M' ≤ M := by rw [← hM', ← HM.out]; exact List.length_filter_le _ _
        rw [hM']
        have HM' := Lib.hid hM'
        have O3 : Hid (OwnK 23 0 w3 (.slice A2 M cap2) m.keys) := Lib.hid ((O2.out.keep hK3 (fun b h1 h2 => by have := (O2.out.1.lt b h1).1; have := ST.out.tk.lt b h2; omega)).mono (Nat.zero_le _))
        have S3 := Lib.hid (S2.out.turn hT3 (ST.out.ok.drop (b0, b1, b2, b3)) (fun _ x => .inl x) hK3)
        clear hT3 hK3 hM' z0 z1 z2 z3 z4
        go_wp2
        go_loopw [10, 43] (fun t10 t43 wr => ∃ (j n : Nat), j ≤ M ∧ n ≤ j ∧ t43 = .int .i64 (j : Int) ∧ t10 = .int .i64 (n : Int) ∧ Hid (DSt w wr q b0 b1 b2 b3 c (m.dropB (b0, b1, b2, b3)) S ∧ OwnK 23 0 wr (.slice A2 M cap2) m.keys ∧ ((m.l.take j).filter (fun t => !meetsK t.1 (b0, b1, b2, b3))).length = n)) (fun _ t43 _ => M - (intOf t43).toNat)
        case atStart => exact ⟨0, 0, by omega, by omega, rfl, rfl, Lib.hid ⟨S3.out, O3.out, rfl⟩⟩
        case round =>
          obtain ⟨j, n, hj, hnj, rfl, rfl, SJ⟩ := hrel
          by_cases hlt2 : j < M
          · have hlt2' : (j : Int) < (M : Int) := by omega
            obtain ⟨bk2, off2, x, y, rfl, hbs, hp, hin, c0, c1⟩ := (SJ.out.2.1.kys).at (i := j) hlt2
            have hm' : (x, y) ∈ m.keys := by
              rw [← hp, List.getD_eq_getElem?_getD, List.getElem?_eq_getElem (by rw [keys_len, HM.out]; exact hlt2)]
              exact List.getElem_mem _
            obtain ⟨t, ht, htk⟩ := List.mem_map.1 hm'
            have hR := ST.out.ok.rt t ht
            rw [htk] at hR
            have PS := part_step m (b0, b1, b2, b3) j ST.out.tk.nodup (by rw [HM.out]; exact hlt2)
            rw [hp] at PS
            have CK := Lib.hid (fun wx => refK_any x y wx)
            have CM := Lib.hid (fun wx => meets_any x y b0 b1 b2 b3 wx (by unfold rightK at hR; simp only [decide_eq_true_eq] at hR; omega) (by unfold rightK at hR; simp only [decide_eq_true_eq] at hR; omega))
            rw [← meets_same (x, y) (b0, b1, b2, b3) hR] at CM
            have KP := SJ.out.2.1
            obtain ⟨wa, hwa⟩ : ∃ wa, wr.alloc (.cells #[.int .i64 x, .int .i64 y] 23) = wa := ⟨_, rfl⟩
            obtain ⟨p, hpp⟩ : ∃ p, wr.heap.size = p := ⟨_, rfl⟩
            have SA : Hid (DSt w wa q b0 b1 b2 b3 c (m.dropB (b0, b1, b2, b3)) S) := Lib.hid (by rw [← hwa]; exact SJ.out.1.grow ((Ext.refl _).alloc _))
            have hpl : p < wa.heap.size := by rw [← hwa, ← hpp]; simp
            have n0 : wa.cell? ⟨p, 0, none⟩ = some (.int .i64 x) := by rw [← hwa, ← hpp]; simp [go_sem]
            have n1 : wa.cell? ⟨p, 1, none⟩ = some (.int .i64 y) := by rw [← hwa, ← hpp]; simp [go_sem]
            have EA : Hid (Ext wr wa) := Lib.hid (by rw [← hwa]; exact (Ext.refl _).alloc _)
            have HN01 := Lib.hid (And.intro hpl (And.intro n0 n1))
            have GT := get_any c (m.dropB (b0, b1, b2, b3)) S (x, y) wa SA.out.tk hin (fun t ht => by have := ((ST.out.ok.drop (b0, b1, b2, b3)).px t ht).1; omega)
            have PSH := Lib.hid PS
            have HFK := Lib.hid (find_keeps m ST.out.ok (b0, b1, b2, b3) (x, y) hm')
            cases hme : meetsK (x, y) (b0, b1, b2, b3) with
            | true =>
              rw [find_meets m _ _ hme] at GT
              rw [hme] at CM
              simp only [Option.isSome_none, Bool.false_eq_true, if_false, Option.getD_none] at GT
              have G := Lib.hid GT
              have HME := Lib.hid hme
              clear hp hm' ht htk hR PS hin GT KP hme
              go_wp2_with (first | rw [hwa, hpp] | fail)
              refine G.out.mono ?_
              rintro e w4 ⟨⟨pv, rfl, hO⟩, hE⟩
              obtain ⟨PA, pc, rfl⟩ := own_slice hO.1
              rw [show ([] : List Px).length = 0 from rfl] at hO ⊢
              have S4 := Lib.hid (SA.out.grow hE)
              have K4 := Lib.hid ((SJ.out.2.1.ext EA.out).ext hE)
              have x0 : w4.cell? ⟨p, 0, none⟩ = some (.int .i64 x) := (hE.cell HN01.out.1).trans HN01.out.2.1
              have x1 : w4.cell? ⟨p, 1, none⟩ = some (.int .i64 y) := (hE.cell HN01.out.1).trans HN01.out.2.2
              have hpl4 : p < w4.heap.size := Nat.lt_of_lt_of_le HN01.out.1 hE.size
              have O4 := Lib.hid hO
              clear hO hE n0 n1 hpl
              obtain ⟨wb, hwb⟩ : ∃ wb, w4.alloc (.cells #[.int .i64 0, .int .i64 0, .slice PA 0 pc] 47) = wb := ⟨_, rfl⟩
              obtain ⟨pb, hpb⟩ : ∃ pb, w4.heap.size = pb := ⟨_, rfl⟩
              have EB : Ext w4 wb := by rw [← hwb]; exact (Ext.refl _).alloc _
              have SB := Lib.hid (S4.out.grow EB)
              have KB := Lib.hid (K4.out.ext EB)
              have PB := Lib.hid (O4.out.ext EB)
              have m0 : ∀ g', (wb.ext g').cell? ⟨p, 0, none⟩ = some (.int .i64 x) := fun g' => ((EB.ext g').cell hpl4).trans x0
              have m1 : ∀ g', (wb.ext g').cell? ⟨p, 1, none⟩ = some (.int .i64 y) := fun g' => ((EB.ext g').cell hpl4).trans x1
              obtain ⟨y0, y1, y2, y3, y4⟩ := SB.out.cell
              have z0 : ∀ g', (wb.ext g').cell? ⟨q, 0, none⟩ = some (.int .i64 b0) := fun g' => ((Ext.ext (Ext.refl _) g').cell y4).trans y0
              have z1 : ∀ g', (wb.ext g').cell? ⟨q, 1, none⟩ = some (.int .i64 b1) := fun g' => ((Ext.ext (Ext.refl _) g').cell y4).trans y1
              have z2 : ∀ g', (wb.ext g').cell? ⟨q, 2, none⟩ = some (.int .i64 b2) := fun g' => ((Ext.ext (Ext.refl _) g').cell y4).trans y2
              have z3 : ∀ g', (wb.ext g').cell? ⟨q, 3, none⟩ = some (.int .i64 b3) := fun g' => ((Ext.ext (Ext.refl _) g').cell y4).trans y3
              clear x0 x1 EB y0 y1 y2 y3
              go_wp2_with (first | rw [hwb] | fail)
              refine region_quiet (by kernel_rfl) (by kernel_rfl) ?_
              iterate 13 (go_big_quiet_step (first | exact calls_ext (CK.out _) | exact calls_ext (CM.out _)))
              refine wpQuiet_nil ?_
              rintro _ ⟨g9, rfl⟩
              clear m0 m1 z0 z1 z2 z3
              go_wp2
              go_roundw
              case rel =>
                obtain ⟨q1, q2⟩ := PSH.out.1 HME.out
                exact ⟨j + 1, n, by omega, by omega, by go_num, rfl, Lib.hid ⟨SB.out.grow ⟨g9, rfl⟩, (KB.out.ext ⟨g9, rfl⟩), by rw [q2]; exact SJ.out.2.2⟩⟩
              case measure => simp [intOf]; omega
            | false =>
              obtain ⟨px, hpx, hpl64, hpr⟩ := HFK.out hme
              rw [hpx] at GT
              rw [hme] at CM
              simp only [Option.isSome_some, if_true, Option.getD_some] at GT
              have G := Lib.hid GT
              have HME := Lib.hid hme
              have HPR := Lib.hid hpr
              clear hp hm' ht htk hR PS hin GT KP hme hpx hpl64 hpr
              go_wp2_with (first | rw [hwa, hpp] | fail)
              refine G.out.mono ?_
              rintro e w4 ⟨⟨pv, rfl, hO⟩, hE⟩
              obtain ⟨PA, pc, rfl⟩ := own_slice hO.1
              obtain ⟨pn, hpn⟩ : ∃ pn, px.length = pn := ⟨_, rfl⟩
              rw [hpn] at hO ⊢
              have S4 := Lib.hid (SA.out.grow hE)
              have K4 := Lib.hid ((SJ.out.2.1.ext EA.out).ext hE)
              have x0 : w4.cell? ⟨p, 0, none⟩ = some (.int .i64 x) := (hE.cell HN01.out.1).trans HN01.out.2.1
              have x1 : w4.cell? ⟨p, 1, none⟩ = some (.int .i64 y) := (hE.cell HN01.out.1).trans HN01.out.2.2
              have hpl4 : p < w4.heap.size := Nat.lt_of_lt_of_le HN01.out.1 hE.size
              have O4 := Lib.hid hO
              clear hO hE n0 n1 hpl
              obtain ⟨wb, hwb⟩ : ∃ wb, w4.alloc (.cells #[.int .i64 8, .int .i64 8, .slice PA pn pc] 47) = wb := ⟨_, rfl⟩
              obtain ⟨pb, hpb⟩ : ∃ pb, w4.heap.size = pb := ⟨_, rfl⟩
              have EB : Ext w4 wb := by rw [← hwb]; exact (Ext.refl _).alloc _
              have SB := Lib.hid (S4.out.grow EB)
              have KB := Lib.hid (K4.out.ext EB)
              have PB := Lib.hid (O4.out.ext EB)
              have m0 : ∀ g', (wb.ext g').cell? ⟨p, 0, none⟩ = some (.int .i64 x) := fun g' => ((EB.ext g').cell hpl4).trans x0
              have m1 : ∀ g', (wb.ext g').cell? ⟨p, 1, none⟩ = some (.int .i64 y) := fun g' => ((EB.ext g').cell hpl4).trans x1
              obtain ⟨y0, y1, y2, y3, y4⟩ := SB.out.cell
              have z0 : ∀ g', (wb.ext g').cell? ⟨q, 0, none⟩ = some (.int .i64 b0) := fun g' => ((Ext.ext (Ext.refl _) g').cell y4).trans y0
              have z1 : ∀ g', (wb.ext g').cell? ⟨q, 1, none⟩ = some (.int .i64 b1) := fun g' => ((Ext.ext (Ext.refl _) g').cell y4).trans y1
              have z2 : ∀ g', (wb.ext g').cell? ⟨q, 2, none⟩ = some (.int .i64 b2) := fun g' => ((Ext.ext (Ext.refl _) g').cell y4).trans y2
              have z3 : ∀ g', (wb.ext g').cell? ⟨q, 3, none⟩ = some (.int .i64 b3) := fun g' => ((Ext.ext (Ext.refl _) g').cell y4).trans y3
              clear x0 x1 EB y0 y1 y2 y3
              have CC : Hid (∀ wx, Ext wb wx → Calls Try.prog 25 #[.agg #[.int .i64 8, .int .i64 8, .slice PA pn pc]] wx fun e w' => e = .returned (.int .i64 0) ∧ Ext wx w') := Lib.hid (fun wx hx => by
                have h1 := check_any 8 8 (.slice PA pn pc) px wx (by omega) (by omega) ((PB.out.ext hx).pix)
                rw [HPR.out] at h1
                exact h1)
              have i0 : wb.cell? ⟨pb, 0, none⟩ = some (.int .i64 8) := by rw [← hwb, ← hpb]; simp [go_sem]
              have i1 : wb.cell? ⟨pb, 1, none⟩ = some (.int .i64 8) := by rw [← hwb, ← hpb]; simp [go_sem]
              have i2 : wb.cell? ⟨pb, 2, none⟩ = some (.slice PA pn pc) := by rw [← hwb, ← hpb]; simp [go_sem]
              have i3 : pb < wb.heap.size := by rw [← hwb, ← hpb]; simp
              clear hpn
              go_wp2_with (first | rw [hwb, hpb] | rw [hwb] | fail)
              refine region_quiet (by kernel_rfl) (by kernel_rfl) ?_
              iterate 13 (go_big_quiet_step (first | exact calls_ext (CK.out _) | exact calls_ext (CM.out _)))
              refine wpQuiet_nil ?_
              rintro _ ⟨g9, rfl⟩
              clear m0 m1 z0 z1 z2 z3
              have i0' : (wb.ext g9).cell? ⟨pb, 0, none⟩ = some (.int .i64 8) := (Ext.cell (⟨g9, rfl⟩ : Ext wb (wb.ext g9)) i3).trans i0
              have i1' : (wb.ext g9).cell? ⟨pb, 1, none⟩ = some (.int .i64 8) := (Ext.cell (⟨g9, rfl⟩ : Ext wb (wb.ext g9)) i3).trans i1
              have i2' : (wb.ext g9).cell? ⟨pb, 2, none⟩ = some (.slice PA pn pc) := (Ext.cell (⟨g9, rfl⟩ : Ext wb (wb.ext g9)) i3).trans i2
              go_wp2_with fail
              refine (CC.out _ ⟨g9, rfl⟩).mono ?_
              rintro e w6 ⟨rfl, g10, rfl⟩
              go_wp2
              go_roundw
              case rel =>
                obtain ⟨q1, q2⟩ := PSH.out.2 HME.out
                exact ⟨j + 1, n + 1, by omega, by omega, by go_num, by go_num, Lib.hid ⟨(SB.out.grow ⟨g9, rfl⟩).grow ⟨g10, rfl⟩, (KB.out.ext ⟨g9, rfl⟩).ext ⟨g10, rfl⟩, by rw [q2, SJ.out.2.2]⟩⟩
              case measure => simp [intOf]; omega
          · have hlt2' : ¬ (j : Int) < (M : Int) := by omega
            obtain rfl : j = M := by omega
            have hn : n = M' := by
              have := SJ.out.2.2
              rw [← HM.out, List.take_length] at this
              rw [← HM'.out, ← this]; rfl
            subst hn
            have hs : (j : Int) - ((j : Int) - (n : Int)) = n := by omega
            go_wp2_with fail
            refine (len_any c _ S _ SJ.out.1.tk).mono ?_
            rintro e w5 ⟨rfl, rfl⟩
            rw [HM'.out]
            go_wp2_with fail
            refine (AW.out _).mono ?_
            rintro e w6 ⟨rfl, g6, rfl⟩
            go_wp2
            go_ret
            exact ⟨rfl, SJ.out.1.ext.ext g6⟩

end Go.Proofs.Ytblfplkocljlgaa
