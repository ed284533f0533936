import Derived.Test.YtblfplkocljlgaaTJoins0
import Derived.Test.YtblfplkocljlgaaTAwake
import Derived.Deep.RegionLaw
namespace Go.Proofs.Ytblfplkocljlgaa
open Go.RowKit Go.ChangeMaps
set_option linter.unusedVariables false
set_option linter.unusedSimpArgs false

structure JSt (w wr : World) (q gs : Nat) (x0 y0 x1 y1 : Int) (salt : Nat) (c : Nat) (m : TM) (S : Nat → Prop) (v : Value) (L : List KK) : Prop where
  tk : TK wr c m S
  ext : Ext w wr
  box : wr.heap[q]? = some (.cells #[.int .i64 x0, .int .i64 y0, .int .i64 x1, .int .i64 y1] 25 (0, 0))
  salt : wr.heap[gs]? = some (.cells #[.int .u8 (salt : Int)] 5 (0, 0))
  ks : Kys wr v L
  kb : ∀ b, v.ownBlock = some b → ¬ S b
  lo : ∀ b, S b → q < b ∧ gs < b
  wq : w.heap.size ≤ q

theorem JSt.grow {w wr wr' : World} {q gs : Nat} {x0 y0 x1 y1 : Int} {salt c : Nat} {m : TM} {S : Nat → Prop} {v : Value} {L : List KK} (h : JSt w wr q gs x0 y0 x1 y1 salt c m S v L) (he : Ext wr wr') : JSt w wr' q gs x0 y0 x1 y1 salt c m S v L :=
  ⟨h.tk.ext he, h.ext.trans he, he.heapAt h.box, he.heapAt h.salt, h.ks.ext he, h.kb, h.lo, h.wq⟩

theorem kys_keep {w w' : World} {v : Value} {l : List KK} {X : Nat → Prop} (h : Kys w v l) (hk : Keep w w' X) (hX : ∀ b, b < w.heap.size → v.ownBlock = some b → ¬ X b) : Kys w' v l := by
  obtain ⟨A, cap, h1, h2, h3, h4, h5, h6⟩ := h
  refine ⟨A, cap, h1, h2, h3, h4, h5, fun hn => ?_⟩
  obtain ⟨b, off, e1, e2, e3⟩ := h6 hn
  have nb : ¬ X b := hX b e2 (by rw [h1, e1]; rfl)
  exact ⟨b, off, e1, Nat.lt_of_lt_of_le e2 hk.size, fun i hi j hj => by rw [hk.cell e2 nb]; exact e3 i hi j hj⟩

theorem JSt.turn {w wr wr' : World} {q gs : Nat} {x0 y0 x1 y1 : Int} {salt c : Nat} {m m' : TM} {S S' : Nat → Prop} {v : Value} {L : List KK} (h : JSt w wr q gs x0 y0 x1 y1 salt c m S v L) (hT : TK wr' c m' S') (hS : ∀ b, S' b → S b ∨ wr.heap.size ≤ b) (hk : Keep wr wr' S) (hkb : ∀ b, v.ownBlock = some b → b < wr.heap.size) : JSt w wr' q gs x0 y0 x1 y1 salt c m' S' v L := by
  have hq : q < wr.heap.size := (Array.getElem?_eq_some_iff.1 h.box).1
  have hg : gs < wr.heap.size := (Array.getElem?_eq_some_iff.1 h.salt).1
  exact ⟨hT, Keep.toExt h.ext hk (fun b hb => by have := (h.lo b hb).1; have := h.wq; omega), by rw [hk.block q hq (fun hb => by have := (h.lo q hb).1; omega)]; exact h.box, by rw [hk.block gs hg (fun hb => by have := (h.lo gs hb).2; omega)]; exact h.salt, kys_keep h.ks hk (fun b _ hb => h.kb b hb), fun b hb e => by
    rcases hS b e with h1 | h1
    · exact h.kb b hb h1
    · have := hkb b hb; omega, fun b hb => by
    rcases hS b hb with h1 | h1
    · exact h.lo b h1
    · omega, h.wq⟩

set_option maxRecDepth 100000 in
set_option maxHeartbeats 12800000 in
theorem TileJoins_walk (x0 y0 x1 y1 miss : Int) (salt : Nat) (w : World) (hx0 : -9223372036854775808 ≤ x0 ∧ x0 ≤ 9223372036854775807) (hy0 : -9223372036854775808 ≤ y0 ∧ y0 ≤ 9223372036854775807) (hx1 : -9223372036854775808 ≤ x1 ∧ x1 ≤ 9223372036854775807) (hy1 : -9223372036854775808 ≤ y1 ∧ y1 ≤ 9223372036854775807) (hms : -9223372036854775808 ≤ miss ∧ miss ≤ 9223372036854775807) (hs : salt ≤ 255) :
    Calls Try.prog 7 #[.agg #[.int .i64 x0, .int .i64 y0, .int .i64 x1, .int .i64 y1], .int .i64 miss, .int .u8 (salt : Int)] w fun e w' => e = .returned (.bool true) ∧ Ext w w' := by
  have hb : inB (x0, y0, x1, y1) := ⟨hx0, hy0, hx1, hy1⟩
  have WI := Lib.hid (fun wx => window_any x0 y0 x1 y1 wx hb)
  have AW := Lib.hid awake_any
  have pe := ptr_eql
  cases hw : winB (x0, y0, x1, y1) with
  | false =>
    have JN := Lib.hid (fun c wx => join_no c x0 y0 x1 y1 wx hb hw)
    rw [hw] at WI
    clear hb hw
    go_enter Try.func7, Try.ntmps7
    go_wp2_with fail
    refine (WI.out _).mono ?_
    rintro e w1 ⟨rfl, g1, rfl⟩
    go_wp2_with fail
    refine (new_yes 4 _ (by omega)).mono ?_
    rintro e w2 ⟨rfl, -, g2, rfl⟩
    go_wp2_with fail
    refine (JN.out _ _).mono ?_
    rintro e w3 ⟨rfl, g3, rfl⟩
    go_wp2_with fail
    refine (AW.out _).mono ?_
    rintro e w4 ⟨rfl, g4, rfl⟩
    go_wp2
    go_ret
    exact ⟨rfl, by ((repeat (first | exact Ext.refl _ | apply Ext.alloc | apply Ext.drew' | apply Ext.drewN | apply Ext.ext)))⟩
  | true =>
    obtain ⟨X, Y, nx, ny, hW⟩ := winN_of hw
    have KY := Lib.hid (fun wx => keys_yes x0 y0 x1 y1 X Y nx ny wx hw hW)
    have HW := Lib.hid hw
    have HN := Lib.hid hW
    have hbb := (winB_iff _ _ _ _).1 hw
    rw [hw] at WI
    have r1 : 0 < x1 - x0 ∧ x1 - x0 ≤ 256 := by omega
    have r2 : 0 < y1 - y0 ∧ y1 - y0 ≤ 256 := by omega
    have r3 : 0 ≤ (x1 - x0) * (y1 - y0) ∧ (x1 - x0) * (y1 - y0) ≤ 65536 := ⟨Int.mul_nonneg (by omega) (by omega), by
      have := Int.mul_le_mul r1.2 r2.2 (by omega) (by omega)
      omega⟩
    obtain ⟨N, hNN⟩ : ∃ N, ny * nx = N := ⟨_, rfl⟩
    have hN2 : N ≤ 1089 := by have := Nat.mul_le_mul hW.ny.2 hW.nx.2; omega
    have hN1 : 1 ≤ N := by have := Nat.mul_le_mul hW.ny.1 hW.nx.1; omega
    have hnx : 0 < nx := by have := hW.nx; omega
    rw [hNN] at KY
    have HNN := Lib.hid hNN
    clear hb hw hW hNN
    by_cases hbig : 900 < (x1 - x0) * (y1 - y0)
    · go_enter Try.func7, Try.ntmps7
      go_wp2_with fail
      refine (WI.out _).mono ?_
      rintro e w1 ⟨rfl, g1, rfl⟩
      go_wp2_with fail
      refine (AW.out _).mono ?_
      rintro e w4 ⟨rfl, g4, rfl⟩
      go_wp2
      go_ret
      exact ⟨rfl, by ((repeat (first | exact Ext.refl _ | apply Ext.alloc | apply Ext.drew' | apply Ext.drewN | apply Ext.ext)))⟩
    · go_enter Try.func7, Try.ntmps7
      go_wp2_with fail
      refine (WI.out _).mono ?_
      rintro e w1 ⟨rfl, g1, rfl⟩
      go_wp2_with fail
      refine (KY.out _).mono ?_
      rintro e w2 ⟨A, kc, rfl, hO, g2, rfl⟩
      have O2 := Lib.hid hO
      clear hO
      go_wp2_with fail
      refine (new_yes N _ (by omega)).mono ?_
      rintro e w3 ⟨rfl, hT, hE⟩
      obtain ⟨wp, hwp⟩ : ∃ wp, (((w.alloc (.cells #[.int .i64 x0, .int .i64 y0, .int .i64 x1, .int .i64 y1] 25)).alloc (.cells #[.int .u8 (salt : Int)] 5)).ext g1).ext g2 = wp := ⟨_, rfl⟩
      obtain ⟨q, hq⟩ : ∃ q, w.heap.size = q := ⟨_, rfl⟩
      have EX : Ext ((w.alloc (.cells #[.int .i64 x0, .int .i64 y0, .int .i64 x1, .int .i64 y1] 25)).alloc (.cells #[.int .u8 (salt : Int)] 5)) wp := by rw [← hwp]; exact (Ext.ext (Ext.refl _) g1).ext g2
      have hb0 := (((Ext.refl (w.alloc (.cells #[.int .i64 x0, .int .i64 y0, .int .i64 x1, .int .i64 y1] 25))).alloc (.cells #[.int .u8 (salt : Int)] 5)).trans EX).heapAt (heap_alloc_new w _)
      have hb1 := EX.heapAt (heap_alloc_new (w.alloc (.cells #[.int .i64 x0, .int .i64 y0, .int .i64 x1, .int .i64 y1] 25)) (.cells #[.int .u8 (salt : Int)] 5))
      rw [show (w.alloc (.cells #[.int .i64 x0, .int .i64 y0, .int .i64 x1, .int .i64 y1] 25)).heap.size = w.heap.size + 1 by simp] at hb1
      have EP : Ext w wp := (((Ext.refl w).alloc _).alloc _).trans EX
      have O2' : OwnK 23 0 wp (.slice A N kc) (keysN X Y nx N) := by
        have := O2.out
        rw [hwp] at this
        exact this.mono (Nat.zero_le _)
      rw [hwp] at hT hE ⊢
      obtain ⟨c, hc⟩ : ∃ c, wp.heap.size + 1 = c := ⟨_, rfl⟩
      rw [hc] at hT ⊢
      have hql : q + 1 < wp.heap.size := by rw [← hq]; exact (Array.getElem?_eq_some_iff.1 hb1).1
      have ST0 : Hid (JSt w w3 q (q + 1) x0 y0 x1 y1 salt c ⟨N, tilesJ salt X Y nx miss 0⟩ (fun b => b = wp.heap.size ∨ b = c) (.slice A N kc) (keysN X Y nx N) ∧ ∀ b, (Value.slice A N kc).ownBlock = some b → b < w3.heap.size) := Lib.hid
        ⟨⟨hT, EP.trans hE, by rw [← hq]; exact hE.heapAt hb0, by rw [← hq]; exact hE.heapAt hb1, (O2'.ext hE).kys, fun b hb e => by have := (O2'.1.lt b hb).2; omega, fun b hb => by rcases hb with h | h <;> omega, by omega⟩, fun b hb => ((O2'.ext hE).1.lt b hb).2⟩
      have HQ := Lib.hid hq
      have HC := Lib.hid hc
      rw [hq]
      have OKM : Hid (∀ i, i ≤ N → TM.Ok ⟨N, tilesJ salt X Y nx miss i⟩) := Lib.hid (fun i hi => ⟨fun t ht => by
          obtain ⟨j, hj, _, rfl⟩ := tilesJ_mem ht
          exact (key_meets HW.out HN.out j (by rw [HNN.out]; omega)).1, fun t ht => by
          obtain ⟨j, hj, _, rfl⟩ := tilesJ_mem ht
          exact ⟨tileJ_len _ _, tileJ_ok _ _ hs⟩, Nat.le_trans (tilesJ_len _ _ _ _ _ _) hi, by simp only; omega⟩)
      clear hT hE hb0 hb1 EX EP O2' O2 hwp hc hq hql
      go_wp2
      go_loopw [69] (fun t69 wr => ∃ (i : Nat) (S : Nat → Prop), i ≤ N ∧ t69 = .int .i64 (i : Int) ∧ Hid (JSt w wr q (q + 1) x0 y0 x1 y1 salt c ⟨N, tilesJ salt X Y nx miss i⟩ S (.slice A N kc) (keysN X Y nx N) ∧ ∀ b, (Value.slice A N kc).ownBlock = some b → b < wr.heap.size)) (fun t69 _ => N - (intOf t69).toNat)
      case atStart => exact ⟨0, _, by omega, rfl, ST0⟩
      case round =>
        obtain ⟨i, S, hi, rfl, ST⟩ := hrel
        by_cases hlt : i < N
        · have hlt' : (i : Int) < (N : Int) := by omega
          obtain ⟨bk, off, kx, ky, rfl, hbk, hk0, hin, d0, d1⟩ := (ST.out.1.ks).at (i := i) hlt
          rw [keysN_getD _ _ _ _ _ hlt] at hk0
          have HK : Hid (keyAt X Y nx i = (kx, ky)) := Lib.hid hk0
          have IK := Lib.hid hin
          have HR := Lib.hid (key_meets HW.out HN.out i (by rw [HNN.out]; exact hlt)).1
          clear hk0 hin
          by_cases hmi : (i : Int) = miss
          · have TS : Hid (tilesJ salt X Y nx miss (i + 1) = tilesJ salt X Y nx miss i) := Lib.hid (tilesJ_skip salt X Y nx miss i hmi)
            have hmi' : ((i : Int) == miss) = true := by simpa using hmi
            have S1 : Hid (JSt w (wr.alloc (.cells #[.int .i64 kx, .int .i64 ky] 23)) q (q + 1) x0 y0 x1 y1 salt c ⟨N, tilesJ salt X Y nx miss (i + 1)⟩ S (.slice (some ⟨bk, off, none⟩) N kc) (keysN X Y nx N) ∧ ∀ b, (Value.slice (some ⟨bk, off, none⟩) N kc).ownBlock = some b → b < (wr.alloc (.cells #[.int .i64 kx, .int .i64 ky] 23)).heap.size) := Lib.hid (by
              rw [TS.out]
              exact ⟨ST.out.1.grow ((Ext.refl _).alloc _), fun b hb => Nat.lt_of_lt_of_le (ST.out.2 b hb) (by simp)⟩)
            clear hmi
            go_wp2
            go_roundw
            case rel => exact ⟨i + 1, S, by omega, by go_num, S1⟩
            case measure => simp [intOf]; omega
          · have TP : Hid (TM.putR ⟨N, tilesJ salt X Y nx miss i⟩ (kx, ky) (tileJ salt (kx, ky)) = ⟨N, tilesJ salt X Y nx miss (i + 1)⟩) := Lib.hid (by
              have h1 := tilesJ_put salt X Y nx miss i N hnx hmi hlt
              have h2 := HR.out
              rw [HK.out] at h1 h2
              unfold TM.putR
              rw [h2]
              exact h1)
            have hmi' : ((i : Int) == miss) = false := by simpa using hmi
            have rb : (-524288 ≤ kx ∧ kx ≤ 524287) ∧ (-524288 ≤ ky ∧ ky ≤ 524287) := by
              have := HR.out
              rw [HK.out] at this
              unfold rightK at this
              simp only [decide_eq_true_eq] at this
              omega
            obtain ⟨rb1, rb2⟩ := rb
            have CB := Lib.hid (fun wx => tbox_any kx ky wx)
            have eb : boxV (tboxB (kx, ky)) = .agg #[.int .i64 (8 * kx), .int .i64 (8 * ky), .int .i64 (8 * kx + 8), .int .i64 (8 * ky + 8)] := by
              have := HR.out
              rw [HK.out] at this
              unfold tboxB; rw [this]; rfl
            rw [eb] at CB
            clear hmi eb
            go_wp2_with fail
            refine (CB.out _).mono ?_
            rintro e w5 ⟨rfl, g5, rfl⟩
            obtain ⟨p14, hp14⟩ : ∃ p, wr.heap.size = p := ⟨_, rfl⟩
            obtain ⟨wk, hwk⟩ : ∃ wk, ((wr.alloc (.cells #[.int .i64 kx, .int .i64 ky] 23)).ext g5).alloc (.cells #[.int .i64 (8 * kx), .int .i64 (8 * ky), .int .i64 (8 * kx + 8), .int .i64 (8 * ky + 8)] 25) = wk := ⟨_, rfl⟩
            obtain ⟨p15, hp15⟩ : ∃ p, p14 + (1 + g5.blocks.size) = p := ⟨_, rfl⟩
            obtain ⟨p16, hp16⟩ : ∃ p, wk.heap.size = p := ⟨_, rfl⟩
            have hb14 : wk.heap[p14]? = some (.cells #[.int .i64 kx, .int .i64 ky] 23 (0, 0)) := by
              rw [← hwk, ← hp14]; exact ((Ext.ext (Ext.refl _) g5).alloc _).heapAt (heap_alloc_new wr _)
            have hb15 : wk.heap[p15]? = some (.cells #[.int .i64 (8 * kx), .int .i64 (8 * ky), .int .i64 (8 * kx + 8), .int .i64 (8 * ky + 8)] 25 (0, 0)) := by
              rw [← hwk, ← hp15, ← hp14]
              have := heap_alloc_new ((wr.alloc (.cells #[.int .i64 kx, .int .i64 ky] 23)).ext g5) (.cells #[.int .i64 (8 * kx), .int .i64 (8 * ky), .int .i64 (8 * kx + 8), .int .i64 (8 * ky + 8)] 25)
              simpa [Nat.add_assoc] using this
            have SK : Hid (JSt w wk q (q + 1) x0 y0 x1 y1 salt c ⟨N, tilesJ salt X Y nx miss i⟩ S (.slice (some ⟨bk, off, none⟩) N kc) (keysN X Y nx N) ∧ wk.heap[p14]? = some (.cells #[.int .i64 kx, .int .i64 ky] 23 (0, 0)) ∧ wk.heap[p15]? = some (.cells #[.int .i64 (8 * kx), .int .i64 (8 * ky), .int .i64 (8 * kx + 8), .int .i64 (8 * ky + 8)] 25 (0, 0)) ∧ wr.heap.size ≤ wk.heap.size) := Lib.hid
              ⟨ST.out.1.grow (by rw [← hwk]; exact (((Ext.refl _).alloc _).ext g5).alloc _), hb14, hb15, by rw [← hwk]; exact ((((Ext.refl wr).alloc (.cells #[.int .i64 kx, .int .i64 ky] 23)).ext g5).alloc (.cells #[.int .i64 (8 * kx), .int .i64 (8 * ky), .int .i64 (8 * kx + 8), .int .i64 (8 * ky + 8)] 25)).size⟩
            have HWK := Lib.hid hwk
            have HP14 := Lib.hid hp14
            have HP15 := Lib.hid hp15
            have HP16 := Lib.hid hp16
            clear hwk hp14 hp15 hp16 hb14 hb15
            go_wp2_with (first | rw [HWK.out] | fail)
            rw [HP14.out, HP15.out, HP16.out]
            go_loopw [80] (fun t80 wr' => ∃ (j : Nat) (A9 : Option Addr) (c9 : Nat), j ≤ 64 ∧ t80 = .int .i64 (j : Int) ∧ Hid (Ext wk wr' ∧ wr'.heap[p16]? = some (.cells #[.int .i64 8, .int .i64 8, .slice A9 j c9] 47 (0, 0)) ∧ OwnP .u8 68 (p16 + 1) wr' (.slice A9 j c9) ((tileJ salt (kx, ky)).take j))) (fun t80 _ => 64 - (intOf t80).toNat)
            case atStart => exact ⟨0, none, 0, by omega, rfl, Lib.hid ⟨(Ext.refl wk).alloc _, by rw [← HP16.out]; exact heap_alloc_new wk _, OwnP.nil _ _ _ _⟩⟩
            case round =>
              obtain ⟨j, A9, c9, hj, rfl, HJ⟩ := hrel
              have hbm := HJ.out.2.1
              have hbb15 := HJ.out.1.heapAt SK.out.2.2.1
              have hbs := HJ.out.1.heapAt SK.out.1.salt
              have m0 : wr.cell? ⟨p16, 0, none⟩ = some (.int .i64 8) := by rw [cell_of_row _ _ _ _ _ (0, 0) hbm]; rfl
              have m1 : wr.cell? ⟨p16, 1, none⟩ = some (.int .i64 8) := by rw [cell_of_row _ _ _ _ _ (0, 0) hbm]; rfl
              have m2 : wr.cell? ⟨p16, 2, none⟩ = some (.slice A9 j c9) := by rw [cell_of_row _ _ _ _ _ (0, 0) hbm]; rfl
              have hml : p16 < wr.heap.size := (Array.getElem?_eq_some_iff.1 hbm).1
              by_cases hjl : j < 64
              · have hjl' : (j : Int) < 64 := by omega
                have b0 : wr.cell? ⟨p15, 0, none⟩ = some (.int .i64 (8 * kx)) := by rw [cell_of_row _ _ _ _ _ (0, 0) hbb15]; rfl
                have b1 : wr.cell? ⟨p15, 1, none⟩ = some (.int .i64 (8 * ky)) := by rw [cell_of_row _ _ _ _ _ (0, 0) hbb15]; rfl
                have b2 : p15 < wr.heap.size := (Array.getElem?_eq_some_iff.1 hbb15).1
                obtain ⟨jm, hjm⟩ : ∃ jm : Nat, j % 8 = jm := ⟨_, rfl⟩
                obtain ⟨jd, hjd⟩ : ∃ jd : Nat, j / 8 = jd := ⟨_, rfl⟩
                have em : (j : Int).tmod 8 = (jm : Int) := by rw [Int.tmod_eq_emod_of_nonneg (by omega)]; omega
                have ed : (j : Int).tdiv 8 = (jd : Int) := by rw [Int.tdiv_eq_ediv_of_nonneg (by omega)]; omega
                have hjm8 : jm < 8 := by omega
                have hjd8 : jd < 8 := by omega
                have TK1 := Lib.hid (tileJ_take salt (kx, ky) j hjl)
                rw [hjm, hjd] at TK1
                dsimp only at TK1
                have g0 : wr.cell? ⟨q + 1, 0, none⟩ = some (.int .u8 (salt : Int)) := by rw [cell_of_row _ _ _ _ _ (0, 0) hbs]; rfl
                have g1' : q + 1 < wr.heap.size := (Array.getElem?_eq_some_iff.1 hbs).1
                have CJ := Lib.hid (fun wx (hx : Ext wr wx) => joins1_any salt (q + 1) (8 * kx + (jm : Int)) (8 * ky + (jd : Int)) wx hs ((hx.cell g1').trans g0) (Nat.lt_of_lt_of_le g1' hx.size) (by omega) (by omega))
                have CO := Lib.hid (colJ_ok salt (8 * kx + (jm : Int)) (8 * ky + (jd : Int)) hs)
                obtain ⟨⟨z0, z1, z2, z3⟩, hz⟩ : ∃ z, colJ salt (8 * kx + (jm : Int)) (8 * ky + (jd : Int)) = z := ⟨_, rfl⟩
                rw [hz] at CJ CO TK1
                simp only [valP] at CJ
                obtain ⟨Lj, hLj⟩ : ∃ Lj, (tileJ salt (kx, ky)).take j = Lj := ⟨_, rfl⟩
                have TL : Hid (Lj.length = j) := Lib.hid (by rw [← hLj, List.length_take, tileJ_len]; omega)
                have ZZ : Hid (Lj.length + ([(z0, z1, z2, z3)] : List Px).length ≤ 1000000) := Lib.hid (by rw [TL.out]; simp; omega)
                have HJ2 : Hid (OwnP .u8 68 (p16 + 1) wr (.slice A9 j c9) Lj) := Lib.hid (by rw [← hLj]; exact HJ.out.2.2)
                rw [hLj] at TK1
                clear hLj
                have HB := Lib.hid (And.intro hbm (And.intro hbb15 hbs))
                have wr1 : IntKind.i64.wrap (8 * kx + (jm : Int)) = 8 * kx + (jm : Int) := by rw [IntKind.wrap_i64]; omega
                have wr2 : IntKind.i64.wrap (jd : Int) = (jd : Int) := by rw [IntKind.wrap_i64]; omega
                have wr3 : IntKind.i64.wrap (8 * ky + (jd : Int)) = 8 * ky + (jd : Int) := by rw [IntKind.wrap_i64]; omega
                clear hbm hbb15 hbs hz hjm hjd
                go_wp2
                go_region_law (first
                  | (refine step_pxs (base := p16 + 1) (v := .slice A9 j c9) (x := .slice (some ⟨wr.heap.size + g9.blocks.size, 0, none⟩) 1 1) (m := [(z0, z1, z2, z3)]) (l := Lj) pxC rfl _ _ rfl (by simp [Act.eval, Act.put]) (by simp [Act.eval, Act.put]) (HJ2.out.ext (by (repeat (first | exact Ext.refl _ | apply Ext.drew' | apply Ext.alloc | apply Ext.ext)))) (pix_one (by simp [go_sem]) CO.out (by intro j hj; rcases j with _ | _ | _ | _ | j <;> (first | omega | simp [go_sem, cellsP]))) ZZ.out (by simp [go_sem]; omega) ?_
                     intro v9 w9 hO9 hg9 hown9
                     obtain ⟨A10, c10, rfl⟩ := own_slice hO9.1
                     have K9 := Keep.grown hg9
                     have nb : ∀ k, (Value.slice A9 j c9).ownBlock = some k → p16 < k := fun k e => by have := (HJ.out.2.2.1.lt k e).1; omega
                     have hb9 : w9.heap[p16]? = some (.cells #[.int .i64 8, .int .i64 8, .slice A9 j c9] 47 (0, 0)) := by
                       rw [K9.block p16 (by simp [go_sem]; omega) (fun e => by have := nb p16 e; omega)]
                       exact Ext.heapAt (W := wr) (by (repeat (first | exact Ext.refl _ | apply Ext.drew' | apply Ext.alloc | apply Ext.ext))) HB.out.1
                     have E9 : Ext wk w9 := Keep.toExt (w := _) (HJ.out.1.trans (by (repeat (first | exact Ext.refl _ | apply Ext.drew' | apply Ext.alloc | apply Ext.ext)))) K9 (fun k e => by have := nb k e; have := HP16.out; omega)
                     have k2 : w9.cell? ⟨p16, 2, none⟩ = some (.slice A9 j c9) := by rw [cell_of_row _ _ _ _ _ (0, 0) hb9]; rfl
                     have f9 : ∀ k, w9.frozen? ⟨p16, k, none⟩ = false := fun k => by simp [World.frozen?, hb9]
                     have hp9 : p16 < w9.heap.size := (Array.getElem?_eq_some_iff.1 hb9).1)
                  | (refine step_enter (f := 29) (vs := #[.int .i64 (8 * kx + (jm : Int)), .int .i64 (8 * ky + (jd : Int)), .pointer (some ⟨q + 1, 0, none⟩)]) rfl (by simp [execOp, go_sem, Act.eval, Act.put, wr1, wr2, wr3]) (CJ.out _ (by (repeat (first | exact Ext.refl _ | apply Ext.drew' | apply Ext.alloc | apply Ext.ext)))) ?_
                     rintro e w9 ⟨rfl, g9, rfl⟩
                     refine ⟨_, rfl, ?_⟩))
                all_goals (
                  have REL : Hid (Ext wk (w9.setCell ⟨p16, 2, none⟩ (.slice A10 (j + 1) c10)) ∧ (w9.setCell ⟨p16, 2, none⟩ (.slice A10 (j + 1) c10)).heap[p16]? = some (.cells #[.int .i64 8, .int .i64 8, .slice A10 (j + 1) c10] 47 (0, 0)) ∧ OwnP .u8 68 (p16 + 1) (w9.setCell ⟨p16, 2, none⟩ (.slice A10 (j + 1) c10)) (.slice A10 (j + 1) c10) ((tileJ salt (kx, ky)).take (j + 1))) := Lib.hid (by
                    have h1 := hO9
                    rw [List.length_append, TL.out] at h1
                    simp only [List.length_cons, List.length_nil, Nat.zero_add] at h1
                    rw [TK1.out]
                    exact ⟨E9.setCell (by have := HP16.out; simp; omega) _, by rw [heap_setCell_same w9 p16 2 _ 47 _ hb9]; rfl, ⟨row_set h1.1 (by omega), h1.2⟩⟩)
                  clear hO9 hg9 hown9 K9 nb hb9 E9 k2 f9 hp9 m0 m1 m2 b0 b1 g0
                  rw [TL.out]
                  go_wp2
                  go_roundw
                  case rel => exact ⟨j + 1, A10, c10, by omega, by go_num, REL⟩
                  case measure => simp [intOf]; omega)
              · have hjl' : ¬ (j : Int) < 64 := by omega
                obtain rfl : j = 64 := by omega
                have hb14 := HJ.out.1.heapAt SK.out.2.1
                have t0 : wr.cell? ⟨p14, 0, none⟩ = some (.int .i64 kx) := by rw [cell_of_row _ _ _ _ _ (0, 0) hb14]; rfl
                have t1 : wr.cell? ⟨p14, 1, none⟩ = some (.int .i64 ky) := by rw [cell_of_row _ _ _ _ _ (0, 0) hb14]; rfl
                have t2 : p14 < wr.heap.size := (Array.getElem?_eq_some_iff.1 hb14).1
                have TF : (tileJ salt (kx, ky)).take 64 = tileJ salt (kx, ky) := by rw [List.take_of_length_le (by rw [tileJ_len]; omega)]
                have PXO : OwnP .u8 68 (p16 + 1) wr (.slice A9 64 c9) (tileJ salt (kx, ky)) := by have := HJ.out.2.2; rw [TF] at this; exact this
                have SJ := SK.out.1.grow HJ.out.1
                have PT := put_tile c ⟨N, tilesJ salt X Y nx miss i⟩ S kx ky (.slice A9 64 c9) _ wr SJ.tk PXO.pix IK.out (tileJ_ok salt (kx, ky) hs) (OKM.out i hi) (fun b hb hS => by
                  have h1 := PXO.row b hb
                  have h2 := SK.out.1.tk.lt b hS
                  have := HP16.out
                  omega)
                have hRk := HR.out
                rw [HK.out] at hRk
                rw [hRk, TP.out] at PT
                simp only [if_true] at PT
                have G := Lib.hid PT
                have SJH := Lib.hid SJ
                have HSZ := Lib.hid (Nat.le_trans SK.out.2.2.2 HJ.out.1.size)
                clear PT hRk SJ PXO TF hb14 hbm hbb15 hbs
                go_wp2_with fail
                refine G.out.mono ?_
                rintro e w6 ⟨rfl, S6, hT6, hS6, hK6⟩
                have S7 : Hid (JSt w w6 q (q + 1) x0 y0 x1 y1 salt c ⟨N, tilesJ salt X Y nx miss (i + 1)⟩ S6 (.slice (some ⟨bk, off, none⟩) N kc) (keysN X Y nx N) ∧ ∀ b, (Value.slice (some ⟨bk, off, none⟩) N kc).ownBlock = some b → b < w6.heap.size) := Lib.hid
                  ⟨SJH.out.turn hT6 hS6 hK6 (fun b hb => Nat.lt_of_lt_of_le (ST.out.2 b hb) HSZ.out), fun b hb => Nat.lt_of_lt_of_le (Nat.lt_of_lt_of_le (ST.out.2 b hb) HSZ.out) hK6.size⟩
                clear hT6 hS6 hK6 t0 t1 t2 m0 m1 m2
                go_wp2
                go_roundw
                case rel => exact ⟨i + 1, S6, by omega, by go_num, S7⟩
                case measure => simp [intOf]; omega
        · have hlt' : ¬ (i : Int) < (N : Int) := by omega
          obtain rfl : i = N := by omega
          obtain ⟨W, hWW⟩ : ∃ W : Nat, x1 - x0 = W := ⟨(x1 - x0).toNat, by omega⟩
          obtain ⟨H, hHH⟩ : ∃ H : Nat, y1 - y0 = H := ⟨(y1 - y0).toNat, by omega⟩
          have FD : Hid (∀ j, j < i → TM.find ⟨i, tilesJ salt X Y nx miss i⟩ (keyAt X Y nx j) = if (j : Int) = miss then none else some (tileJ salt (keyAt X Y nx j))) := Lib.hid (fun j hj => tilesJ_find salt X Y nx miss i j hnx hj)
          have JY := join_yes c _ S x0 y0 x1 y1 X Y nx ny W H (colJ salt) wr ST.out.1.tk HW.out HN.out hWW hHH (fun j hj px hpx => by
            rw [HNN.out] at hj
            rw [FD.out j hj] at hpx
            split at hpx
            · cases hpx
            · simp only [Option.some.injEq] at hpx
              rw [← hpx]; exact tileJ_V _ _)
          rw [HNN.out] at JY
          have JH := Lib.hid JY
          have hbq := ST.out.1.box
          have z0 : wr.cell? ⟨q, 0, none⟩ = some (.int .i64 x0) := by rw [cell_of_row _ _ _ _ _ (0, 0) hbq]; rfl
          have z1 : wr.cell? ⟨q, 1, none⟩ = some (.int .i64 y0) := by rw [cell_of_row _ _ _ _ _ (0, 0) hbq]; rfl
          have z2 : wr.cell? ⟨q, 2, none⟩ = some (.int .i64 x1) := by rw [cell_of_row _ _ _ _ _ (0, 0) hbq]; rfl
          have z3 : wr.cell? ⟨q, 3, none⟩ = some (.int .i64 y1) := by rw [cell_of_row _ _ _ _ _ (0, 0) hbq]; rfl
          have z4 : q < wr.heap.size := (Array.getElem?_eq_some_iff.1 hbq).1
          have HWH := Lib.hid (And.intro hWW hHH)
          clear JY hbq hWW hHH
          go_wp2_with fail
          refine JH.out.mono ?_
          rintro e w6 ⟨hJ, hE⟩
          have E6 := Lib.hid hE
          rcases hJ with ⟨g, L, rfl, hO, hG, hall⟩ | ⟨rfl, j0, hj0, hnone⟩
          · have hmi : ¬ (0 ≤ miss ∧ miss < (i : Int)) := fun h => by
              obtain ⟨jm, hjm⟩ : ∃ jm : Nat, miss = jm := ⟨miss.toNat, by omega⟩
              have h1 := hall jm (by omega)
              rw [FD.out jm (by omega), if_pos hjm.symm] at h1
              exact h1 rfl
            obtain ⟨n, hn⟩ : ∃ n, W * H = n := ⟨_, rfl⟩
            rw [hn] at hO ⊢
            obtain ⟨wm, hwm⟩ : ∃ wm, w6.alloc (.cells #[.int .i64 (W : Int), .int .i64 (H : Int), .slice (some ⟨g, 0, none⟩) n n] 47) = wm := ⟨_, rfl⟩
            obtain ⟨pm, hpm⟩ : ∃ p, w6.heap.size = p := ⟨_, rfl⟩
            have EM : Ext w6 wm := by rw [← hwm]; exact (Ext.refl _).alloc _
            have FM : Hid (Ext w wm ∧ wm.heap[q]? = some (.cells #[.int .i64 x0, .int .i64 y0, .int .i64 x1, .int .i64 y1] 25 (0, 0)) ∧ wm.heap[q + 1]? = some (.cells #[.int .u8 (salt : Int)] 5 (0, 0)) ∧ wm.heap[pm]? = some (.cells #[.int .i64 (W : Int), .int .i64 (H : Int), .slice (some ⟨g, 0, none⟩) n n] 47 (0, 0)) ∧ Pix .u8 wm (.slice (some ⟨g, 0, none⟩) n n) L ∧ GoodJ x0 y0 W H (colJ salt) L (fun _ _ => True)) := Lib.hid
              ⟨(ST.out.1.ext.trans E6.out).trans EM, (E6.out.trans EM).heapAt ST.out.1.box, (E6.out.trans EM).heapAt ST.out.1.salt, by rw [← hwm, ← hpm]; exact heap_alloc_new _ _, (hO.ext EM).pix, hG⟩
            have HWM := Lib.hid hwm
            have HPM := Lib.hid hpm
            have HNW := Lib.hid hn
            clear hO hG hall hwm hpm EM hE hn z0 z1 z2 z3 z4
            have z0 : wm.cell? ⟨q, 0, none⟩ = some (.int .i64 x0) := by rw [cell_of_row _ _ _ _ _ (0, 0) FM.out.2.1]; rfl
            have z1 : wm.cell? ⟨q, 1, none⟩ = some (.int .i64 y0) := by rw [cell_of_row _ _ _ _ _ (0, 0) FM.out.2.1]; rfl
            have z2 : wm.cell? ⟨q, 2, none⟩ = some (.int .i64 x1) := by rw [cell_of_row _ _ _ _ _ (0, 0) FM.out.2.1]; rfl
            have z3 : wm.cell? ⟨q, 3, none⟩ = some (.int .i64 y1) := by rw [cell_of_row _ _ _ _ _ (0, 0) FM.out.2.1]; rfl
            have z4 : q < wm.heap.size := (Array.getElem?_eq_some_iff.1 FM.out.2.1).1
            have v0 : wm.cell? ⟨pm, 0, none⟩ = some (.int .i64 (W : Int)) := by rw [cell_of_row _ _ _ _ _ (0, 0) FM.out.2.2.2.1]; rfl
            have v1 : wm.cell? ⟨pm, 1, none⟩ = some (.int .i64 (H : Int)) := by rw [cell_of_row _ _ _ _ _ (0, 0) FM.out.2.2.2.1]; rfl
            have v2 : wm.cell? ⟨pm, 2, none⟩ = some (.slice (some ⟨g, 0, none⟩) n n) := by rw [cell_of_row _ _ _ _ _ (0, 0) FM.out.2.2.2.1]; rfl
            have v3 : pm < wm.heap.size := (Array.getElem?_eq_some_iff.1 FM.out.2.2.2.1).1
            have hWW := HWH.out.1
            have hHH := HWH.out.2
            have hWb : 1 ≤ W ∧ W ≤ 256 := by omega
            have hHb : 1 ≤ H ∧ H ≤ 256 := by omega
            have hn2 : n ≤ 65536 := by have := Nat.mul_le_mul hWb.2 hHb.2; have := HNW.out; omega
            by_cases hm0 : 0 ≤ miss
            · have hm1 : ¬ miss < (i : Int) := by omega
              go_wp2_with (first | rw [HWM.out, HPM.out] | rw [HWM.out] | fail)
              go_loopw [157] (fun t157 wr' => ∃ i9 : Nat, i9 ≤ n ∧ t157 = .int .i64 (i9 : Int) ∧ Hid (Ext wm wr')) (fun t157 _ => n - (intOf t157).toNat)
              case atStart => exact ⟨0, by omega, rfl, Lib.hid (Ext.refl _)⟩
              case round =>
                obtain ⟨j, hj, rfl, HJ⟩ := hrel
                by_cases hjl : j < n
                · have hjl' : (j : Int) < (n : Int) := by omega
                  obtain ⟨b, off, p0, p1, p2, p3, hA, hbs, hp, hpb, c0, c1, c2, c3⟩ := (FM.out.2.2.2.2.1.ext HJ.out).at hjl
                  obtain ⟨rfl, rfl⟩ : g = b ∧ 0 = off := by simpa using hA
                  obtain ⟨jm, hjm⟩ : ∃ jm : Nat, j % W = jm := ⟨_, rfl⟩
                  obtain ⟨jd, hjd⟩ : ∃ jd : Nat, j / W = jd := ⟨_, rfl⟩
                  have em : (j : Int).tmod (W : Int) = (jm : Int) := by rw [Int.tmod_eq_emod_of_nonneg (by omega), ← hjm]; exact (Int.natCast_emod j W).symm
                  have ed : (j : Int).tdiv (W : Int) = (jd : Int) := by rw [Int.tdiv_eq_ediv_of_nonneg (by omega), ← hjd]; exact (Int.natCast_ediv j W).symm
                  have hjmW : jm < W := by rw [← hjm]; exact Nat.mod_lt _ (by omega)
                  have hjdH : jd < H := by rw [← hjd]; exact Nat.div_lt_of_lt_mul (by rw [HNW.out]; exact hjl)
                  have VG := FM.out.2.2.2.2.2.val jm jd hjmW hjdH trivial
                  have hji : jd * W + jm = j := by rw [← hjm, ← hjd, Nat.mul_comm]; exact Nat.div_add_mod j W
                  rw [hji, hp] at VG
                  have hbs' := HJ.out.heapAt FM.out.2.2.1
                  have g0 : wr.cell? ⟨q + 1, 0, none⟩ = some (.int .u8 (salt : Int)) := by rw [cell_of_row _ _ _ _ _ (0, 0) hbs']; rfl
                  have g1' : q + 1 < wr.heap.size := (Array.getElem?_eq_some_iff.1 hbs').1
                  have CJ := Lib.hid (fun wx (hx : Ext wr wx) => joins1_any salt (q + 1) (x0 + (jm : Int)) (y0 + (jd : Int)) wx hs ((hx.cell g1').trans g0) (Nat.lt_of_lt_of_le g1' hx.size) (by omega) (by omega))
                  rw [← VG] at CJ
                  simp only [valP] at CJ
                  have wr1 : IntKind.i64.wrap (x0 + (jm : Int)) = x0 + (jm : Int) := by rw [IntKind.wrap_i64]; omega
                  have wr2 : IntKind.i64.wrap (jd : Int) = (jd : Int) := by rw [IntKind.wrap_i64]; omega
                  have wr3 : IntKind.i64.wrap (y0 + (jd : Int)) = y0 + (jd : Int) := by rw [IntKind.wrap_i64]; omega
                  have z0' : wr.cell? ⟨q, 0, none⟩ = some (.int .i64 x0) := (HJ.out.cell z4).trans z0
                  have z1' : wr.cell? ⟨q, 1, none⟩ = some (.int .i64 y0) := (HJ.out.cell z4).trans z1
                  have z4' : q < wr.heap.size := Nat.lt_of_lt_of_le z4 HJ.out.size
                  have v0' : wr.cell? ⟨pm, 0, none⟩ = some (.int .i64 (W : Int)) := (HJ.out.cell v3).trans v0
                  have v3' : pm < wr.heap.size := Nat.lt_of_lt_of_le v3 HJ.out.size
                  have hW0 : ¬ (W : Int) = 0 := by omega
                  simp only [Nat.zero_add] at c0 c1 c2 c3
                  clear VG hji hp hA hpb hjm hjd hbs'
                  go_wp2
                  refine region_quiet (by kernel_rfl) (by kernel_rfl) ?_
                  iterate 18 (go_big_quiet_step (exact calls_ext (CJ.out _ (Ext.ext (Ext.alloc (Ext.refl _) _) _))))
                  refine wpQuiet_nil ?_
                  rintro _ ⟨g9, rfl⟩
                  have E7 := Lib.hid (((HJ.out.alloc (.cells #[.int .u8 (p0 : Int), .int .u8 (p1 : Int), .int .u8 (p2 : Int), .int .u8 (p3 : Int)] 68)).ext g9))
                  clear c0 c1 c2 c3 g0 z0' z1' v0' em ed wr1 wr2 wr3
                  dsimp only [Exit.then]
                  go_wp2
                  go_roundw
                  case rel => exact ⟨j + 1, by omega, by go_num, E7⟩
                  case measure => simp [intOf]; omega
                · have hjl' : ¬ (j : Int) < (n : Int) := by omega
                  go_wp2_with fail
                  refine (AW.out _).mono ?_
                  rintro e w8 ⟨rfl, g8, rfl⟩
                  go_wp2
                  go_ret
                  exact ⟨rfl, Ext.ext (FM.out.1.trans HJ.out) g8⟩
            · go_wp2_with (first | rw [HWM.out, HPM.out] | rw [HWM.out] | fail)
              go_loopw [157] (fun t157 wr' => ∃ i9 : Nat, i9 ≤ n ∧ t157 = .int .i64 (i9 : Int) ∧ Hid (Ext wm wr')) (fun t157 _ => n - (intOf t157).toNat)
              case atStart => exact ⟨0, by omega, rfl, Lib.hid (Ext.refl _)⟩
              case round =>
                obtain ⟨j, hj, rfl, HJ⟩ := hrel
                by_cases hjl : j < n
                · have hjl' : (j : Int) < (n : Int) := by omega
                  obtain ⟨b, off, p0, p1, p2, p3, hA, hbs, hp, hpb, c0, c1, c2, c3⟩ := (FM.out.2.2.2.2.1.ext HJ.out).at hjl
                  obtain ⟨rfl, rfl⟩ : g = b ∧ 0 = off := by simpa using hA
                  obtain ⟨jm, hjm⟩ : ∃ jm : Nat, j % W = jm := ⟨_, rfl⟩
                  obtain ⟨jd, hjd⟩ : ∃ jd : Nat, j / W = jd := ⟨_, rfl⟩
                  have em : (j : Int).tmod (W : Int) = (jm : Int) := by rw [Int.tmod_eq_emod_of_nonneg (by omega), ← hjm]; exact (Int.natCast_emod j W).symm
                  have ed : (j : Int).tdiv (W : Int) = (jd : Int) := by rw [Int.tdiv_eq_ediv_of_nonneg (by omega), ← hjd]; exact (Int.natCast_ediv j W).symm
                  have hjmW : jm < W := by rw [← hjm]; exact Nat.mod_lt _ (by omega)
                  have hjdH : jd < H := by rw [← hjd]; exact Nat.div_lt_of_lt_mul (by rw [HNW.out]; exact hjl)
                  have VG := FM.out.2.2.2.2.2.val jm jd hjmW hjdH trivial
                  have hji : jd * W + jm = j := by rw [← hjm, ← hjd, Nat.mul_comm]; exact Nat.div_add_mod j W
                  rw [hji, hp] at VG
                  have hbs' := HJ.out.heapAt FM.out.2.2.1
                  have g0 : wr.cell? ⟨q + 1, 0, none⟩ = some (.int .u8 (salt : Int)) := by rw [cell_of_row _ _ _ _ _ (0, 0) hbs']; rfl
                  have g1' : q + 1 < wr.heap.size := (Array.getElem?_eq_some_iff.1 hbs').1
                  have CJ := Lib.hid (fun wx (hx : Ext wr wx) => joins1_any salt (q + 1) (x0 + (jm : Int)) (y0 + (jd : Int)) wx hs ((hx.cell g1').trans g0) (Nat.lt_of_lt_of_le g1' hx.size) (by omega) (by omega))
                  rw [← VG] at CJ
                  simp only [valP] at CJ
                  have wr1 : IntKind.i64.wrap (x0 + (jm : Int)) = x0 + (jm : Int) := by rw [IntKind.wrap_i64]; omega
                  have wr2 : IntKind.i64.wrap (jd : Int) = (jd : Int) := by rw [IntKind.wrap_i64]; omega
                  have wr3 : IntKind.i64.wrap (y0 + (jd : Int)) = y0 + (jd : Int) := by rw [IntKind.wrap_i64]; omega
                  have z0' : wr.cell? ⟨q, 0, none⟩ = some (.int .i64 x0) := (HJ.out.cell z4).trans z0
                  have z1' : wr.cell? ⟨q, 1, none⟩ = some (.int .i64 y0) := (HJ.out.cell z4).trans z1
                  have z4' : q < wr.heap.size := Nat.lt_of_lt_of_le z4 HJ.out.size
                  have v0' : wr.cell? ⟨pm, 0, none⟩ = some (.int .i64 (W : Int)) := (HJ.out.cell v3).trans v0
                  have v3' : pm < wr.heap.size := Nat.lt_of_lt_of_le v3 HJ.out.size
                  have hW0 : ¬ (W : Int) = 0 := by omega
                  simp only [Nat.zero_add] at c0 c1 c2 c3
                  clear VG hji hp hA hpb hjm hjd hbs'
                  go_wp2
                  refine region_quiet (by kernel_rfl) (by kernel_rfl) ?_
                  iterate 18 (go_big_quiet_step (exact calls_ext (CJ.out _ (Ext.ext (Ext.alloc (Ext.refl _) _) _))))
                  refine wpQuiet_nil ?_
                  rintro _ ⟨g9, rfl⟩
                  have E7 := Lib.hid (((HJ.out.alloc (.cells #[.int .u8 (p0 : Int), .int .u8 (p1 : Int), .int .u8 (p2 : Int), .int .u8 (p3 : Int)] 68)).ext g9))
                  clear c0 c1 c2 c3 g0 z0' z1' v0' em ed wr1 wr2 wr3
                  dsimp only [Exit.then]
                  go_wp2
                  go_roundw
                  case rel => exact ⟨j + 1, by omega, by go_num, E7⟩
                  case measure => simp [intOf]; omega
                · have hjl' : ¬ (j : Int) < (n : Int) := by omega
                  go_wp2_with fail
                  refine (AW.out _).mono ?_
                  rintro e w8 ⟨rfl, g8, rfl⟩
                  go_wp2
                  go_ret
                  exact ⟨rfl, Ext.ext (FM.out.1.trans HJ.out) g8⟩
          · have hmi : 0 ≤ miss ∧ miss < (i : Int) := by
              rw [FD.out j0 hj0] at hnone
              split at hnone
              · omega
              · cases hnone
            obtain ⟨hm0, hm1⟩ := hmi
            clear hnone hj0 hE
            go_wp2_with fail
            refine (AW.out _).mono ?_
            rintro e w8 ⟨rfl, g8, rfl⟩
            go_wp2
            go_ret
            exact ⟨rfl, ((ST.out.1.ext.trans E6.out).alloc _).ext g8⟩

end Go.Proofs.Ytblfplkocljlgaa
