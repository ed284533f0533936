import Derived.Test.YtncphiphgkjflaaILay0
import Derived.Test.YtncphiphgkjflaaICrop
namespace Go.Proofs.Ytncphiphgkjflaa
open Go.RowKit Go.Shelf
set_option linter.unusedVariables false
set_option linter.unusedSimpArgs false

/-- some pixels are changed -/
def updF (l : List Px) (P : Nat → Bool) (F : Nat → Px) : List Px := (List.range l.length).map fun k => if P k then F k else l.getD k noP
theorem updF_len (l : List Px) (P : Nat → Bool) (F : Nat → Px) : (updF l P F).length = l.length := by simp [updF]
theorem updF_at (l : List Px) (P : Nat → Bool) (F : Nat → Px) (k : Nat) (hk : k < l.length) : (updF l P F)[k]? = some (if P k then F k else l.getD k noP) := by
  unfold updF; rw [List.getElem?_map, List.getElem?_range hk]; rfl
theorem updF_congr {l : List Px} {P Q : Nat → Bool} {F : Nat → Px} (h : ∀ k, k < l.length → P k = Q k) : updF l P F = updF l Q F := by
  unfold updF
  apply List.map_congr_left
  intro k hk
  rw [h k (List.mem_range.1 hk)]
theorem updF_none {l : List Px} {P : Nat → Bool} {F : Nat → Px} (h : ∀ k, k < l.length → P k = false) : updF l P F = l := by
  apply List.ext_getElem?
  intro k
  by_cases hk : k < l.length
  · rw [updF_at l P F k hk, h k hk, List.getElem?_eq_getElem hk, List.getD_eq_getElem?_getD, List.getElem?_eq_getElem hk]; rfl
  · rw [List.getElem?_eq_none (by rw [updF_len]; omega), List.getElem?_eq_none (by omega)]
theorem updF_set (l : List Px) (P : Nat → Bool) (F : Nat → Px) (i : Nat) (hi : i < l.length) : (updF l P F).set i (F i) = updF l (fun k => P k || decide (k = i)) F := by
  apply List.ext_getElem?
  intro k
  rw [List.getElem?_set]
  by_cases hk : k < l.length
  · rw [updF_at _ _ _ k hk, updF_at _ _ _ k hk]
    by_cases e : i = k
    · subst e; simp [updF_len, hi]
    · rw [if_neg e]; simp [Ne.symm e]
  · rw [List.getElem?_eq_none (by rw [updF_len]; omega), List.getElem?_eq_none (by rw [updF_len]; omega)]
    by_cases e : i = k
    · subst e; omega
    · simp [e]

/-- is pixel k below the other image, at x, y? -/
def inL (W W2 H2 : Nat) (x y : Int) (k : Nat) : Bool := decide (0 ≤ ((k % W : Nat) : Int) - x ∧ ((k % W : Nat) : Int) - x < (W2 : Int) ∧ 0 ≤ ((k / W : Nat) : Int) - y ∧ ((k / W : Nat) : Int) - y < (H2 : Int))
def layF (W W2 : Nat) (l l2 : List Px) (x y : Int) (t m : Nat) (k : Nat) : Px := mixP t m (l2.getD ((((k / W : Nat) : Int) - y).toNat * W2 + (((k % W : Nat) : Int) - x).toNat) noP) (l.getD k noP)
/-- an image laid over another one -/
def layL (W : Nat) (l : List Px) (W2 H2 : Nat) (l2 : List Px) (x y : Int) (t m : Nat) : List Px := updF l (inL W W2 H2 x y) (layF W W2 l l2 x y t m)

set_option maxRecDepth 100000 in
set_option maxHeartbeats 12800000 in
theorem refLay_any (W W2 H2 : Nat) (H : Int) (v v2 : Value) (l l2 : List Px) (x y : Int) (t m : Nat) (w : World) (hl : Pix .i64 w v l) (hn : l.length ≤ 400) (hW : 1 ≤ W ∧ W ≤ 256) (hl2 : Pix .i64 w v2 l2) (hn2 : l2.length ≤ 400) (hWH : l2.length = W2 * H2) (hx : -1000 ≤ x ∧ x ≤ 1000) (hy : -1000 ≤ y ∧ y ≤ 1000) (ht : t ≤ 255) (hm : m ≤ 4) :
    Calls Try.prog 30 #[.agg #[.int .i64 (W : Int), .int .i64 H, v], .agg #[.int .i64 (W2 : Int), .int .i64 (H2 : Int), v2], .int .i64 x, .int .i64 y, .int .i64 (t : Int), .int .i64 (m : Int)] w fun e w' => ∃ v', e = .returned (.agg #[.int .i64 (W : Int), .int .i64 H, v']) ∧ OwnP .i64 50 w.heap.size w' v' (layL W l W2 H2 l2 x y t m) ∧ Ext w w' := by
  have P := Lib.hid hl
  have P2 := Lib.hid hl2
  obtain ⟨X, c, rfl, hc1, hc2, _⟩ := hl
  obtain ⟨X2, d, rfl, hd1, hd2, _⟩ := hl2
  obtain ⟨N, hN⟩ : ∃ N, l.length = N := ⟨_, rfl⟩
  obtain ⟨N2, hN2⟩ : ∃ N, l2.length = N := ⟨_, rfl⟩
  rw [hN] at P hn hc1
  rw [hN2] at P2 hn2 hd1 hWH
  rw [hN, hN2]
  have HN := Lib.hid hN
  have HN2 := Lib.hid hN2
  have HWH := Lib.hid hWH
  clear hN hN2 hWH
  obtain ⟨R, hR⟩ : ∃ R, layL W l W2 H2 l2 x y t m = R := ⟨_, rfl⟩
  rw [hR]
  have HR := Lib.hid hR
  clear hR
  go_enter Try.func30, Try.ntmps30
  go_wp2
  obtain ⟨wb, hwb⟩ : ∃ wb, ((w.alloc (.cells #[.int .i64 (W : Int), .int .i64 H, .slice X N c] 34)).alloc (.cells #[.int .i64 (W2 : Int), .int .i64 (H2 : Int), .slice X2 N2 d] 34)).alloc (.cells #[.int .i64 0, .int .i64 0, .slice none 0 0] 34) = wb := ⟨_, rfl⟩
  obtain ⟨q, hq⟩ : ∃ q, w.heap.size = q := ⟨_, rfl⟩
  have i0 : wb.cell? ⟨q, 0, none⟩ = some (.int .i64 (W : Int)) := by rw [← hwb, ← hq]; simp [go_sem]
  have i2 : wb.cell? ⟨q, 2, none⟩ = some (.slice X N c) := by rw [← hwb, ← hq]; simp [go_sem]
  have j0 : wb.cell? ⟨q + 1, 0, none⟩ = some (.int .i64 (W2 : Int)) := by rw [← hwb, ← hq]; simp [go_sem]
  have j1 : wb.cell? ⟨q + 1, 1, none⟩ = some (.int .i64 (H2 : Int)) := by rw [← hwb, ← hq]; simp [go_sem]
  have j2 : wb.cell? ⟨q + 1, 2, none⟩ = some (.slice X2 N2 d) := by rw [← hwb, ← hq]; simp [go_sem]
  have r0 : wb.cell? ⟨q + 2, 0, none⟩ = some (.int .i64 0) := by rw [← hwb, ← hq]; simp [go_sem]
  have r1 : wb.cell? ⟨q + 2, 1, none⟩ = some (.int .i64 0) := by rw [← hwb, ← hq]; simp [go_sem]
  have r2 : wb.cell? ⟨q + 2, 2, none⟩ = some (.slice none 0 0) := by rw [← hwb, ← hq]; simp [go_sem]
  have rf : ∀ j, wb.frozen? ⟨q + 2, j, none⟩ = false := fun j => by rw [← hwb, ← hq]; simp [go_sem]
  have hzs : wb.heap.size = q + 3 := by rw [← hwb, ← hq]; simp
  have EB : Hid (Ext w wb) := Lib.hid (by rw [← hwb]; (repeat (first | exact Ext.refl _ | apply Ext.alloc | apply Ext.ext)))
  rw [hwb, hq]
  have HQ := Lib.hid hq
  have HZS := Lib.hid hzs
  clear hwb hq
  have FC : Hid (∀ wr, Ext wb wr → (q + 3 ≤ wr.heap.size) ∧ (wr.cell? ⟨q, 0, none⟩ = some (.int .i64 (W : Int)) ∧ wr.cell? ⟨q, 2, none⟩ = some (.slice X N c)) ∧ (wr.cell? ⟨q + 1, 0, none⟩ = some (.int .i64 (W2 : Int)) ∧ wr.cell? ⟨q + 1, 1, none⟩ = some (.int .i64 (H2 : Int)) ∧ wr.cell? ⟨q + 1, 2, none⟩ = some (.slice X2 N2 d)) ∧ (wr.cell? ⟨q + 2, 0, none⟩ = some (.int .i64 0) ∧ wr.cell? ⟨q + 2, 1, none⟩ = some (.int .i64 0) ∧ wr.cell? ⟨q + 2, 2, none⟩ = some (.slice none 0 0) ∧ ∀ j, wr.frozen? ⟨q + 2, j, none⟩ = false) ∧ Pix .i64 wr (.slice X N c) l ∧ Pix .i64 wr (.slice X2 N2 d) l2) := Lib.hid (fun wr hk =>
    ⟨by have := hk.size; omega, ⟨(hk.cell (by omega)).trans i0, (hk.cell (by omega)).trans i2⟩, ⟨(hk.cell (by omega)).trans j0, (hk.cell (by omega)).trans j1, (hk.cell (by omega)).trans j2⟩, ⟨(hk.cell (by omega)).trans r0, (hk.cell (by omega)).trans r1, (hk.cell (by omega)).trans r2, fun j => (hk.frozen (by omega)).trans (rf j)⟩, P.out.ext (EB.out.trans hk), P2.out.ext (EB.out.trans hk)⟩)
  have ST0 : Hid (RefSt wb (wb.alloc (.cells #[.int .i64 (W : Int), .int .i64 H, .slice none 0 0] 34)) (q + 3) (W : Int) H (.slice none 0 0) (R.take 0)) := Lib.hid (by
    refine ⟨(Ext.refl _).alloc _, by simp; omega, OwnP.nil _ _ _ _, ?_, ?_, ?_, ?_⟩
    all_goals (rw [← hzs]; simp [go_sem]))
  obtain ⟨ws, hws⟩ : ∃ ws, wb.alloc (.cells #[.int .i64 (W : Int), .int .i64 H, .slice none 0 0] 34) = ws := ⟨_, rfl⟩
  rw [hws] at ST0
  rw [hws]
  clear i0 i2 j0 j1 j2 r0 r1 r2 rf hws hzs
  go_loopw [14] (fun t14 wr => ∃ (i : Nat) (A : Option Addr) (n cc : Nat), i ≤ N ∧ t14 = .int .i64 (i : Int) ∧ Hid (RefSt wb wr (q + 3) (W : Int) H (.slice A n cc) (R.take i))) (fun t14 _ => N - (intOf t14).toNat)
  case atStart => exact ⟨0, none, 0, 0, by omega, rfl, ST0⟩
  case round =>
    obtain ⟨i, A, n, c', hi, rfl, ST⟩ := hrel
    obtain ⟨hz, ⟨i0, i2⟩, ⟨j0, j1, j2⟩, ⟨r0, r1, r2, rf⟩, hP, hP2⟩ := FC.out _ ST.out.1
    by_cases hlt : i < N
    · have hlt' : (i : Int) < (N : Int) := by omega
      obtain ⟨b, off, r, g, u, a, rfl, hbs, hp, hpb, c0, c1, c2, c3⟩ := hP.at hlt
      have HPB := Lib.hid hpb
      have HML : Hid (R.length = N) := Lib.hid (by rw [← HR.out]; unfold layL; rw [updF_len]; exact HN.out)
      have HMi : Hid (R.getD i noP = if inL W W2 H2 x y i then layF W W2 l l2 x y t m i else (r, g, u, a)) := Lib.hid (by
        rw [← HR.out, List.getD_eq_getElem?_getD]; unfold layL; rw [updF_at _ _ _ i (by have := HN.out; omega), hp]; rfl)
      have HP := Lib.hid hp
      obtain ⟨xi, hxi⟩ : ∃ xi, i % W = xi := ⟨_, rfl⟩
      obtain ⟨yi, hyi⟩ : ∃ yi, i / W = yi := ⟨_, rfl⟩
      have hx' : (i : Int).tmod (W : Int) = (xi : Int) := by rw [← hxi]; exact (Int.ofNat_tmod i W).symm
      have hy' : (i : Int).tdiv (W : Int) = (yi : Int) := by rw [← hyi]; exact (Int.ofNat_tdiv i W).symm
      have hx'' : (i : Int) % (W : Int) = (xi : Int) := by rw [← hxi]; simp
      have hy'' : (i : Int) / (W : Int) = (yi : Int) := by rw [← hyi]; simp
      have hxb : xi ≤ 400 := by rw [← hxi]; have := Nat.mod_le i W; omega
      have hyb : yi ≤ 400 := by rw [← hyi]; have := Nat.div_le_self i W; omega
      have HXY := Lib.hid (And.intro hxi hyi)
      have hyy : ∀ g, Ext wr (wr.ext g) := fun g => ⟨g, rfl⟩
      have i0' : ∀ g, (wr.ext g).cell? ⟨q, 0, none⟩ = some (.int .i64 (W : Int)) := fun g => ((hyy g).cell (by omega)).trans i0
      clear hp hpb hP hP2 hxi hyi hyy
      go_wp2
      refine region_flow 14 [] (fun t v => False) (fun t v w' => True) (by kernel_rfl) (by kernel_rfl) (fun t v h => h.elim) (fun t h => h) (fun _ _ _ _ h => h.elim) ?_
      dsimp only [List.take, List.drop]
      repeat (first | (refine Flow.skip rfl ?_; simp only [Act.put, List.setIfInBounds_toArray, List.set_cons_zero, List.set_cons_succ]) | (refine Flow.plain rfl rfl ?_; go_big_quiet_step (fail); refine wpQuiet_nil ?_))
      refine Flow.nil fun w5 hx5 hf => ?_
      have ST5 := Lib.hid (ST.out.ext hx5)
      have E5 := Lib.hid (EB.out.trans ST5.out.1)
      have hb5 : b < w5.heap.size := Nat.lt_of_lt_of_le hbs hx5.size
      replace c0 := (hx5.cell hbs).trans c0
      replace c1 := (hx5.cell hbs).trans c1
      replace c2 := (hx5.cell hbs).trans c2
      replace c3 := (hx5.cell hbs).trans c3
      obtain ⟨hz5, ⟨i0, i2⟩, ⟨j0, j1, j2⟩, _, _, hP2⟩ := FC.out _ ST5.out.1
      have s2 := ST5.out.2.1
      have s6 := ST5.out.2.2.2.2.2.1
      have s7 := ST5.out.2.2.2.2.2.2
      have HB5 := Lib.hid s2
      clear hf hx5 i0' hx' hy' hx'' hy'' ST r0 r1 r2 rf hz hi
      dsimp only [wpList, Exit.then]
      have hq1 : q + 1 < w5.heap.size := by omega
      have hq0 : q < w5.heap.size := by omega
      have hq3 : q + 3 < w5.heap.size := s2
      have hc5 : (0 ≤ (xi : Int) - x ∧ (xi : Int) - x < (W2 : Int) ∧ 0 ≤ (yi : Int) - y ∧ (yi : Int) - y < (H2 : Int)) ∨ ¬ 0 ≤ (xi : Int) - x ∨ (0 ≤ (xi : Int) - x ∧ ¬ (xi : Int) - x < (W2 : Int)) ∨ (0 ≤ (xi : Int) - x ∧ (xi : Int) - x < (W2 : Int) ∧ ¬ 0 ≤ (yi : Int) - y) ∨ (0 ≤ (xi : Int) - x ∧ (xi : Int) - x < (W2 : Int) ∧ 0 ≤ (yi : Int) - y ∧ ¬ (yi : Int) - y < (H2 : Int)) := by omega
      have hdx : ∃ dx, (xi : Int) - x = dx := ⟨_, rfl⟩
      obtain ⟨dx, hdx⟩ := hdx
      obtain ⟨dy, hdy⟩ : ∃ dy, (yi : Int) - y = dy := ⟨_, rfl⟩
      have hxs : -2000 ≤ dx ∧ dx ≤ 2000 := by omega
      have hys : -2000 ≤ dy ∧ dy ≤ 2000 := by omega
      rw [hdx, hdy] at hc5
      have HD := Lib.hid (And.intro hdx hdy)
      clear hxb hyb
      rcases hc5 with ⟨h1, h2, h3, h4⟩ | hout
      · obtain ⟨da, rfl⟩ : ∃ n : Nat, dx = (n : Int) := ⟨dx.toNat, by omega⟩
        obtain ⟨db, rfl⟩ : ∃ n : Nat, dy = (n : Int) := ⟨dy.toNat, by omega⟩
        have hin : inL W W2 H2 x y i = true := by
          unfold inL
          rw [HXY.out.1, HXY.out.2, HD.out.1, HD.out.2]
          simp
          omega
        rw [hin, if_pos rfl] at HMi
        have hix : db * W2 + da < N2 := by
          have h9 := row_end (W := W2) (H := H2) (x0 := da) (d := 1) (y := db) (by omega) (by omega)
          have := HWH.out
          omega
        have hlf : layF W W2 l l2 x y t m i = mixP t m (l2.getD (db * W2 + da) noP) (r, g, u, a) := by
          unfold layF
          rw [HXY.out.1, HXY.out.2, HD.out.1, HD.out.2, HP.out]
          simp
        rw [hlf] at HMi
        obtain ⟨b2, off2, r2, g2, u2, a2, rfl, hbs2, hp2, hpb2, e0, e1, e2, e3⟩ := hP2.at hix
        rw [hp2] at HMi
        obtain ⟨dt, hdt⟩ : ∃ n, db * W2 = n := ⟨_, rfl⟩
        have hdt' : (db : Int) * (W2 : Int) = (dt : Int) := by rw [← hdt]; simp
        rw [hdt] at e0 e1 e2 e3 hix
        have hix' : (dt : Int) + (da : Int) < (N2 : Int) := by omega
        have hdtb : dt ≤ 400 := by omega
        have FP := Lib.hid (fun wx => refFade_px (r2, g2, u2, a2) t wx hpb2 ht)
        have HF : Hid (okP (fadeP (r2, g2, u2, a2) t)) := Lib.hid (fade_ok hpb2 ht)
        have HM9 : Hid (okP (mixP t m (r2, g2, u2, a2) (r, g, u, a))) := Lib.hid (mix_ok hpb2 HPB.out ht)
        obtain ⟨⟨f0, f1, f2, f3⟩, hff⟩ : ∃ p, fadeP (r2, g2, u2, a2) t = p := ⟨_, rfl⟩
        rw [hff] at FP HF
        obtain ⟨⟨z0, z1, z2, z3⟩, hzz⟩ : ∃ p, mixP t m (r2, g2, u2, a2) (r, g, u, a) = p := ⟨_, rfl⟩
        rw [hzz] at HM9 HMi
        have BP := Lib.hid (fun wx => refBlend_px (f0, f1, f2, f3) (r, g, u, a) m wx HF.out HPB.out hm)
        rw [show blendP m (f0, f1, f2, f3) (r, g, u, a) = (z0, z1, z2, z3) by rw [← hzz, ← hff]; rfl] at BP
        dsimp only [valP] at FP BP
        clear hp2 hpb2 hdt hlf hin hff hzz hP2
        go_wp2
        obtain ⟨wy, hwy⟩ : ∃ wy, w5.alloc (.cells #[.int .i64 (r : Int), .int .i64 (g : Int), .int .i64 (u : Int), .int .i64 (a : Int)] 50) = wy := ⟨_, rfl⟩
        obtain ⟨C, hC⟩ : ∃ C, w5.heap.size = C := ⟨_, rfl⟩
        have EY : Ext w5 wy := by rw [← hwy]; exact (Ext.refl w5).alloc _
        have m0 : wy.cell? ⟨C, 0, none⟩ = some (.int .i64 (r : Int)) := by rw [← hwy, ← hC]; simp [go_sem]
        have m1 : wy.cell? ⟨C, 1, none⟩ = some (.int .i64 (g : Int)) := by rw [← hwy, ← hC]; simp [go_sem]
        have m2 : wy.cell? ⟨C, 2, none⟩ = some (.int .i64 (u : Int)) := by rw [← hwy, ← hC]; simp [go_sem]
        have m3 : wy.cell? ⟨C, 3, none⟩ = some (.int .i64 (a : Int)) := by rw [← hwy, ← hC]; simp [go_sem]
        have mf : ∀ j, wy.frozen? ⟨C, j, none⟩ = false := fun j => by rw [← hwy, ← hC]; simp [go_sem]
        have hCy : C < wy.heap.size := by rw [← hwy, ← hC]; simp
        have hC5 : w5.heap.size ≤ C := by omega
        rw [hwy, hC]
        have hyy : ∀ g, Ext wy (wy.ext g) := fun g => ⟨g, rfl⟩
        have k0 : ∀ g', (wy.ext g').cell? ⟨C, 0, none⟩ = some (.int .i64 (r : Int)) := fun g' => ((hyy g').cell hCy).trans m0
        have k1 : ∀ g', (wy.ext g').cell? ⟨C, 1, none⟩ = some (.int .i64 (g : Int)) := fun g' => ((hyy g').cell hCy).trans m1
        have k2 : ∀ g', (wy.ext g').cell? ⟨C, 2, none⟩ = some (.int .i64 (u : Int)) := fun g' => ((hyy g').cell hCy).trans m2
        have k3 : ∀ g', (wy.ext g').cell? ⟨C, 3, none⟩ = some (.int .i64 (a : Int)) := fun g' => ((hyy g').cell hCy).trans m3
        have k4 : ∀ g', (wy.ext g').cell? ⟨q + 1, 0, none⟩ = some (.int .i64 (W2 : Int)) := fun g' => ((EY.trans (hyy g')).cell (by omega)).trans j0
        have k5 : ∀ g', (wy.ext g').cell? ⟨q + 1, 2, none⟩ = some (.slice (some ⟨b2, off2, none⟩) N2 d) := fun g' => ((EY.trans (hyy g')).cell (by omega)).trans j2
        have k6 : ∀ g', (wy.ext g').cell? ⟨b2, off2 + (dt + da) * 4, none⟩ = some (.int .i64 (r2 : Int)) := fun g' => ((EY.trans (hyy g')).cell hbs2).trans e0
        have k7 : ∀ g', (wy.ext g').cell? ⟨b2, off2 + ((dt + da) * 4 + 1), none⟩ = some (.int .i64 (g2 : Int)) := fun g' => ((EY.trans (hyy g')).cell hbs2).trans e1
        have k8 : ∀ g', (wy.ext g').cell? ⟨b2, off2 + ((dt + da) * 4 + 2), none⟩ = some (.int .i64 (u2 : Int)) := fun g' => ((EY.trans (hyy g')).cell hbs2).trans e2
        have k9 : ∀ g', (wy.ext g').cell? ⟨b2, off2 + ((dt + da) * 4 + 3), none⟩ = some (.int .i64 (a2 : Int)) := fun g' => ((EY.trans (hyy g')).cell hbs2).trans e3
        clear hwy hC c0 c1 c2 c3 i0 i2 j0 j1 j2 e0 e1 e2 e3 hyy hbs hbs2 s6 s7
        refine region_flow 15 [76, 79] (fun t v => match t with | 76 => v = .agg #[.int .i64 (f0 : Int), .int .i64 (f1 : Int), .int .i64 (f2 : Int), .int .i64 (f3 : Int)] | 79 => v = .agg #[.int .i64 (z0 : Int), .int .i64 (z1 : Int), .int .i64 (z2 : Int), .int .i64 (z3 : Int)] | _ => False) (fun t v w' => True) (by kernel_rfl) (by kernel_rfl) ?hq2 ?hu2 ?hR2 ?h2
        case hq2 => intro t v h; split at h <;> simp_all
        case hu2 => intro t h; split at h <;> simp_all [undef]
        case hR2 => intros; trivial
        case h2 =>
          dsimp only [List.take, List.drop]
          repeat (first | (refine Flow.skip rfl ?_; simp only [Act.put, List.setIfInBounds_toArray, List.set_cons_zero, List.set_cons_succ]) | (refine Flow.plain rfl rfl ?_; go_big_quiet_step (fail); refine wpQuiet_nil ?_))
          refine Flow.call Try.call49 [.agg #[.int .i64 (r2 : Int), .int .i64 (g2 : Int), .int .i64 (u2 : Int), .int .i64 (a2 : Int)], .int .i64 (t : Int)] rfl rfl rfl ?_ (fun wx hx hf => (FP.out wx).mono ?_) ?_
          · exact ⟨_, rfl⟩
          · exact fun e w' ⟨h1, h2⟩ => ⟨_, h1, h2, rfl, trivial⟩
          rintro v rfl
          simp only [Act.put, List.setIfInBounds_toArray, List.set_cons_zero, List.set_cons_succ]
          repeat (first | (refine Flow.skip rfl ?_; simp only [Act.put, List.setIfInBounds_toArray, List.set_cons_zero, List.set_cons_succ]) | (refine Flow.plain rfl rfl ?_; go_big_quiet_step (fail); refine wpQuiet_nil ?_))
          refine Flow.call Try.call48 [.agg #[.int .i64 (f0 : Int), .int .i64 (f1 : Int), .int .i64 (f2 : Int), .int .i64 (f3 : Int)], .agg #[.int .i64 (r : Int), .int .i64 (g : Int), .int .i64 (u : Int), .int .i64 (a : Int)], .int .i64 (m : Int)] rfl rfl rfl ?_ (fun wx hx hf => (BP.out wx).mono ?_) ?_
          · exact ⟨_, rfl⟩
          · exact fun e w' ⟨h1, h2⟩ => ⟨_, h1, h2, rfl, trivial⟩
          rintro v rfl
          simp only [Act.put, List.setIfInBounds_toArray, List.set_cons_zero, List.set_cons_succ]
          refine Flow.nil fun w6 hx6 hf => ?_
          replace m0 := (hx6.cell hCy).trans m0
          replace m1 := (hx6.cell hCy).trans m1
          replace m2 := (hx6.cell hCy).trans m2
          replace m3 := (hx6.cell hCy).trans m3
          replace mf := fun j => (hx6.frozen (i := j) hCy).trans (mf j)
          obtain ⟨w7, hw7⟩ : ∃ w7, (((w6.setCell ⟨C, 0, none⟩ (.int .i64 (z0 : Int))).setCell ⟨C, 1, none⟩ (.int .i64 (z1 : Int))).setCell ⟨C, 2, none⟩ (.int .i64 (z2 : Int))).setCell ⟨C, 3, none⟩ (.int .i64 (z3 : Int)) = w7 := ⟨_, rfl⟩
          have E7 := Lib.hid (show Ext w5 w7 by rw [← hw7]; exact ((((EY.trans hx6).setCell hC5 _).setCell hC5 _).setCell hC5 _).setCell hC5 _)
          have S7 := Lib.hid (ST5.out.ext E7.out)
          have n0 : w7.cell? ⟨C, 0, none⟩ = some (.int .i64 (z0 : Int)) := by rw [← hw7]; simp [go_sem, m0, m1, m2, m3, mf]
          have n1 : w7.cell? ⟨C, 1, none⟩ = some (.int .i64 (z1 : Int)) := by rw [← hw7]; simp [go_sem, m0, m1, m2, m3, mf]
          have n2 : w7.cell? ⟨C, 2, none⟩ = some (.int .i64 (z2 : Int)) := by rw [← hw7]; simp [go_sem, m0, m1, m2, m3, mf]
          have n3 : w7.cell? ⟨C, 3, none⟩ = some (.int .i64 (z3 : Int)) := by rw [← hw7]; simp [go_sem, m0, m1, m2, m3, mf]
          have s6 := S7.out.2.2.2.2.2.1
          have s7 := S7.out.2.2.2.2.2.2
          have TS := Lib.hid (take_succ_getD R i noP (by have := HML.out; omega))
          rw [HMi.out] at TS
          have X9 : Ext w7 (w7.alloc (.cells #[.int .i64 (z0 : Int), .int .i64 (z1 : Int), .int .i64 (z2 : Int), .int .i64 (z3 : Int)] 50)) := (Ext.refl w7).alloc _
          have S9 := Lib.hid (S7.out.ext X9)
          have O9 := Lib.hid S9.out.2.2.1
          have Y9 : Hid (Pix .i64 (w7.alloc (.cells #[.int .i64 (z0 : Int), .int .i64 (z1 : Int), .int .i64 (z2 : Int), .int .i64 (z3 : Int)] 50)) (.slice (some ⟨w7.heap.size, 0, none⟩) 1 1) [(z0, z1, z2, z3)]) := Lib.hid (pix_one (by simp) HM9.out (fun j hj => by rw [cell_marked _ _ _ _ _ _ rfl]; simp [cellsP]))
          have Z9 : Hid ((R.take i).length + [(z0, z1, z2, z3)].length ≤ 1000000) := Lib.hid (by rw [List.length_take]; simp only [List.length_cons, List.length_nil]; omega)
          have B9 : Hid (q + 3 + 1 ≤ (w7.alloc (.cells #[.int .i64 (z0 : Int), .int .i64 (z1 : Int), .int .i64 (z2 : Int), .int .i64 (z3 : Int)] 50)).heap.size) := Lib.hid (S9.out.2.1)
          clear X9
          clear hf hx6 k0 k1 k2 k3 k4 k5 k6 k7 k8 k9
          go_wp2_with (at_builtin; refine wpList_pxs pxR rfl (.tmp 81) (.tmp 83) rfl rfl rfl O9.out Y9.out Z9.out B9.out ?_)
          intro v6 w6 hO6 hgr6 _
          rw [← TS.out] at hO6
          obtain ⟨A6, c6, rfl⟩ := own_slice hO6.1
          obtain ⟨L6, hL6⟩ : ∃ L, (R.take (i + 1)).length = L := ⟨_, rfl⟩
          rw [hL6] at hO6 ⊢
          clear hL6
          obtain ⟨g2, f2, ST6⟩ := S9.out.push (by have := HZS.out; omega) hO6 hgr6
          have ST6 := Lib.hid ST6
          clear hO6 hgr6
          go_wp2
          go_roundw
          case rel => exact ⟨i + 1, A6, _, c6, by omega, by go_num, ST6⟩
          case measure => simp [intOf]; omega
      · have hin : inL W W2 H2 x y i = false := by
          unfold inL
          rw [HXY.out.1, HXY.out.2, HD.out.1, HD.out.2]
          simp
          omega
        rw [hin] at HMi
        replace HMi := Lib.hid (HMi.out.trans (show _ = (r, g, u, a) from rfl))
        have S7 := Lib.hid (ST5.out.ext ((Ext.refl w5).alloc (.cells #[.int .i64 (r : Int), .int .i64 (g : Int), .int .i64 (u : Int), .int .i64 (a : Int)] 50)))
        have TS := Lib.hid (take_succ_getD R i noP (by have := HML.out; omega))
        rw [HMi.out] at TS
        have X9 : Ext (w5.alloc (.cells #[.int .i64 (r : Int), .int .i64 (g : Int), .int .i64 (u : Int), .int .i64 (a : Int)] 50)) ((w5.alloc (.cells #[.int .i64 (r : Int), .int .i64 (g : Int), .int .i64 (u : Int), .int .i64 (a : Int)] 50)).alloc (.cells #[.int .i64 (r : Int), .int .i64 (g : Int), .int .i64 (u : Int), .int .i64 (a : Int)] 50)) := (Ext.refl (w5.alloc (.cells #[.int .i64 (r : Int), .int .i64 (g : Int), .int .i64 (u : Int), .int .i64 (a : Int)] 50))).alloc _
        have S9 := Lib.hid (S7.out.ext X9)
        have O9 := Lib.hid S9.out.2.2.1
        have Y9 : Hid (Pix .i64 ((w5.alloc (.cells #[.int .i64 (r : Int), .int .i64 (g : Int), .int .i64 (u : Int), .int .i64 (a : Int)] 50)).alloc (.cells #[.int .i64 (r : Int), .int .i64 (g : Int), .int .i64 (u : Int), .int .i64 (a : Int)] 50)) (.slice (some ⟨(w5.alloc (.cells #[.int .i64 (r : Int), .int .i64 (g : Int), .int .i64 (u : Int), .int .i64 (a : Int)] 50)).heap.size, 0, none⟩) 1 1) [(r, g, u, a)]) := Lib.hid (pix_one (by simp) HPB.out (fun j hj => by rw [cell_marked _ _ _ _ _ _ rfl]; simp [cellsP]))
        have Z9 : Hid ((R.take i).length + [(r, g, u, a)].length ≤ 1000000) := Lib.hid (by rw [List.length_take]; simp only [List.length_cons, List.length_nil]; omega)
        have B9 : Hid (q + 3 + 1 ≤ ((w5.alloc (.cells #[.int .i64 (r : Int), .int .i64 (g : Int), .int .i64 (u : Int), .int .i64 (a : Int)] 50)).alloc (.cells #[.int .i64 (r : Int), .int .i64 (g : Int), .int .i64 (u : Int), .int .i64 (a : Int)] 50)).heap.size) := Lib.hid (S9.out.2.1)
        clear X9
        have hs1 : Hid (w5.heap.size + 1 = w5.heap.size + 1) := Lib.hid rfl
        simp only [World.size_alloc] at Y9
        clear hin
        rcases hout with h1 | ⟨h1, h2⟩ | ⟨h1, h2, h3⟩ | ⟨h1, h2, h3, h4⟩
        all_goals (
          go_wp2_with (at_builtin; refine wpList_pxs pxR rfl (.tmp 81) (.tmp 83) rfl rfl rfl O9.out Y9.out Z9.out B9.out ?_)
          intro v6 w6 hO6 hgr6 _
          rw [← TS.out] at hO6
          obtain ⟨A6, c6, rfl⟩ := own_slice hO6.1
          obtain ⟨L6, hL6⟩ : ∃ L, (R.take (i + 1)).length = L := ⟨_, rfl⟩
          rw [hL6] at hO6 ⊢
          clear hL6
          obtain ⟨g2, f2, ST6⟩ := S9.out.push (by have := HZS.out; omega) hO6 hgr6
          have ST6 := Lib.hid ST6
          clear hO6 hgr6
          go_wp2
          go_roundw
          case rel => exact ⟨i + 1, A6, _, c6, by omega, by go_num, ST6⟩
          case measure => simp [intOf]; omega
        )
    · have hlt' : ¬ (i : Int) < (N : Int) := by omega
      have hML : R.length = N := by rw [← HR.out]; unfold layL; rw [updF_len]; exact HN.out
      have hfull : R.take i = R := List.take_of_length_le (by omega)
      obtain ⟨s1, s2, s3, s4, s5, s6, s7⟩ := ST.out
      rw [hfull] at s3
      have hn : n = N := s3.pix.len.trans hML
      subst hn
      have S1 := Lib.hid s1
      have S3 := Lib.hid s3
      clear s1 s3 hfull hP hP2
      go_wp2
      refine bodyPost_ret (v := .agg #[.int .i64 (W : Int), .int .i64 H, .slice A n c']) (by simp [results, Try.results30, go_sem, r0, r1, r2, rf]) rfl ⟨_, rfl, ?_, ?_⟩
      · exact (((S3.out.set (by omega)).set (by omega)).set (by omega)).mono (by have := HQ.out; omega)
      · have := HQ.out
        exact ((((EB.out.trans S1.out).setCell (by simp; omega) _).setCell (by simp; omega) _).setCell (by simp; omega) _)

end Go.Proofs.Ytncphiphgkjflaa
