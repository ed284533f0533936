import Derived.Test.YtblfplkocljlgaaTJoin0
import Derived.Test.YtblfplkocljlgaaTKeysW
import Derived.Deep.RegionLaw
import Derived.Deep.RegionHeld3
import Derived.Test.YtblfplkocljlgaaFloat
namespace Go.Proofs.Ytblfplkocljlgaa
open Go.RowKit Go.ChangeMaps
set_option linter.unusedVariables false
set_option linter.unusedSimpArgs false

theorem row4j {w : World} {g n : Nat} {cur : Array Value} (h : w.heap[g]? = some (.cells cur 68 (0, 0))) (hn : n * 4 ≤ cur.size) {i : Nat} (hi : i < n) :
    ∃ a b c d, w.cell? ⟨g, i * 4, none⟩ = some a ∧ w.cell? ⟨g, i * 4 + 1, none⟩ = some b ∧ w.cell? ⟨g, i * 4 + 2, none⟩ = some c ∧ w.cell? ⟨g, i * 4 + 3, none⟩ = some d := by
  refine ⟨cur[i * 4], cur[i * 4 + 1], cur[i * 4 + 2], cur[i * 4 + 3], ?_, ?_, ?_, ?_⟩ <;> (rw [cell_of_row w g _ _ _ (0, 0) h]; exact Array.getElem?_eq_getElem (by omega))

theorem own_cellsJ {κ : IntKind} {T : TypeId} {base : Nat} {w : World} {g n c : Nat} {l : List Px} (h : OwnP κ T base w (.slice (some ⟨g, 0, none⟩) n c) l) : ∃ cur, w.heap[g]? = some (.cells cur T (0, 0)) ∧ n * 4 ≤ cur.size ∧ base ≤ g := by
  rcases h.1.2 with ⟨e, _⟩ | ⟨g, cap, cur, e, hb, hg, h1, h2, h3, h4⟩
  · simp at e
  · simp only [Value.slice.injEq, Option.some.injEq, Addr.mk.injEq, and_true] at e
    obtain ⟨rfl, rfl, rfl⟩ := e
    exact ⟨cur, hg, by rw [h3]; exact Nat.mul_le_mul_right _ h1, hb⟩

/-- whatever order a region takes, it ends in one and the same world -/
def OneQ (A : Act) (W : World) : Exit → Act → World → Prop
  | .normal, a', w' => a' = A ∧ w' = W
  | _, _, _ => False
theorem region_one {P : Program} {c : Code} {Q : Exit → Act → World → Prop} {a : Act} {w : World} (A : Act) (W : World) (h : c.wp P (OneQ A W) a w) (hk : Q Exit.normal A W) : c.wp P Q a w :=
  wp_mono h (fun e a' w' h => by
    cases e
    case normal => obtain ⟨rfl, rfl⟩ := h; exact hk
    all_goals exact h.elim)

/-- the pixels of a window that have their colour -/
structure GoodJ (x0 y0 : Int) (W H : Nat) (V : Int → Int → Px) (L : List Px) (D : Int → Int → Prop) : Prop where
  len : L.length = W * H
  val : ∀ a b : Nat, a < W → b < H → D (x0 + a) (y0 + b) → L.getD (b * W + a) noP = V (x0 + a) (y0 + b)

theorem GoodJ.mono {x0 y0 : Int} {W H : Nat} {V : Int → Int → Px} {L : List Px} {D D' : Int → Int → Prop} (h : GoodJ x0 y0 W H V L D) (hd : ∀ a b : Nat, a < W → b < H → D' (x0 + a) (y0 + b) → D (x0 + a) (y0 + b)) : GoodJ x0 y0 W H V L D' :=
  ⟨h.len, fun a b ha hb hp => h.val a b ha hb (hd a b ha hb hp)⟩

theorem idx_inj {W a b a' b' : Nat} (ha : a < W) (ha' : a' < W) (h : b * W + a = b' * W + a') : a = a' ∧ b = b' := by
  have h1 : (b * W + a) % W = a := by rw [Nat.mul_comm, Nat.mul_add_mod]; exact Nat.mod_eq_of_lt ha
  have h2 : (b' * W + a') % W = a' := by rw [Nat.mul_comm, Nat.mul_add_mod]; exact Nat.mod_eq_of_lt ha'
  have h3 : (b * W + a) / W = b := by rw [Nat.mul_comm, Nat.mul_add_div (by omega), Nat.div_eq_of_lt ha]; rfl
  have h4 : (b' * W + a') / W = b' := by rw [Nat.mul_comm, Nat.mul_add_div (by omega), Nat.div_eq_of_lt ha']; rfl
  rw [h] at h1 h3
  exact ⟨h1.symm.trans h2, h3.symm.trans h4⟩

theorem idx_lt {W H a b : Nat} (ha : a < W) (hb : b < H) : b * W + a < W * H := by
  have := Nat.mul_le_mul_right W (show b + 1 ≤ H by omega)
  rw [Nat.add_mul, Nat.one_mul, Nat.mul_comm H W] at this
  omega

theorem GoodJ.set {x0 y0 : Int} {W H : Nat} {V : Int → Int → Px} {L : List Px} {D D' : Int → Int → Prop} (h : GoodJ x0 y0 W H V L D) {a b : Nat} (ha : a < W) (hb : b < H) {p : Px} (hp : p = V (x0 + a) (y0 + b)) (hd : ∀ a' b' : Nat, a' < W → b' < H → D' (x0 + a') (y0 + b') → D (x0 + a') (y0 + b') ∨ (a' = a ∧ b' = b)) :
    GoodJ x0 y0 W H V (L.set (b * W + a) p) D' := by
  refine ⟨by rw [List.length_set]; exact h.len, fun a' b' ha' hb' hD => ?_⟩
  rw [List.getD_eq_getElem?_getD, List.getElem?_set]
  by_cases e : b * W + a = b' * W + a'
  · obtain ⟨rfl, rfl⟩ := idx_inj ha ha' e
    rw [if_pos rfl, if_pos (by rw [h.len]; exact idx_lt ha hb)]
    exact hp
  · rw [if_neg e, ← List.getD_eq_getElem?_getD]
    rcases hd a' b' ha' hb' hD with h1 | ⟨rfl, rfl⟩
    · exact h.val a' b' ha' hb' h1
    · exact absurd rfl e

/-- what a tile has to do with a window -/
def TileV (px : List Px) (k : KK) (V : Int → Int → Px) : Prop := px.length = 64 ∧ ∀ x y : Int, (x / 8, y / 8) = k → px.getD ((y - 8 * k.2).toNat * 8 + (x - 8 * k.1).toNat) noP = V x y

def JPost (w : World) (m : TM) (x0 y0 : Int) (W H N : Nat) (X Y : Int) (nx : Nat) (V : Int → Int → Px) (e : Ending) (w' : World) : Prop :=
  ((∃ g L, e = .returned (.tuple #[.agg #[.int .i64 (W : Int), .int .i64 (H : Int), .slice (some ⟨g, 0, none⟩) (W * H) (W * H)], .int .i64 0]) ∧ OwnP .u8 68 w.heap.size w' (.slice (some ⟨g, 0, none⟩) (W * H) (W * H)) L ∧ GoodJ x0 y0 W H V L (fun _ _ => True) ∧ ∀ i, i < N → m.find (keyAt X Y nx i) ≠ none) ∨
    (e = .returned (.tuple #[.agg #[.int .i64 0, .int .i64 0, .slice none 0 0], .int .i64 31]) ∧ ∃ i, i < N ∧ m.find (keyAt X Y nx i) = none)) ∧ Ext w w'

theorem join_no (c : Nat) (x0 y0 x1 y1 : Int) (w : World) (hb : inB (x0, y0, x1, y1)) (h : winB (x0, y0, x1, y1) = false) :
    Calls Try.prog 28 #[.pointer (some ⟨c, 0, none⟩), .agg #[.int .i64 x0, .int .i64 y0, .int .i64 x1, .int .i64 y1]] w fun e w' => e = .returned (.tuple #[.agg #[.int .i64 0, .int .i64 0, .slice none 0 0], .int .i64 30]) ∧ Ext w w' := by
  have C := Lib.hid (fun wx => size_no x0 y0 x1 y1 wx hb h)
  clear hb h
  go_enter Try.func28, Try.ntmps28
  go_wp2_with fail
  refine (C.out _).mono ?_
  rintro e w1 ⟨rfl, g1, rfl⟩
  go_wp2
  exact bodyPost_ret (v := .tuple #[.agg #[.int .i64 0, .int .i64 0, .slice none 0 0], .int .i64 30]) (by simp [results, Try.results28, go_sem]) rfl ⟨rfl, by ((repeat (first | exact Ext.refl _ | apply Ext.alloc | apply Ext.drew' | apply Ext.drewN | apply Ext.ext)))⟩

set_option maxRecDepth 100000 in
set_option maxHeartbeats 12800000 in
theorem join_yes (c : Nat) (m : TM) (S : Nat → Prop) (x0 y0 x1 y1 X Y : Int) (nx ny W H : Nat) (V : Int → Int → Px) (w : World) (h : TK w c m S) (hw : winB (x0, y0, x1, y1) = true) (hN : WinN x0 y0 x1 y1 X Y nx ny) (hW : x1 - x0 = (W : Int)) (hH : y1 - y0 = (H : Int))
    (hV : ∀ i, i < ny * nx → ∀ px, m.find (keyAt X Y nx i) = some px → TileV px (keyAt X Y nx i) V) :
    Calls Try.prog 28 #[.pointer (some ⟨c, 0, none⟩), .agg #[.int .i64 x0, .int .i64 y0, .int .i64 x1, .int .i64 y1]] w (JPost w m x0 y0 W H (ny * nx) X Y nx V) := by
  have hbb := (winB_iff _ _ _ _).1 hw
  have hWb : 1 ≤ W ∧ W ≤ 256 := by omega
  have hHb : 1 ≤ H ∧ H ≤ 256 := by omega
  have SY := Lib.hid (fun wx => size_yes x0 y0 x1 y1 wx hw)
  rw [hW, hH] at SY
  have KY := Lib.hid (fun wx => keys_yes x0 y0 x1 y1 X Y nx ny wx hw hN)
  have HT := Lib.hid h
  have HW := Lib.hid hw
  have HN := Lib.hid hN
  have HV := Lib.hid hV
  have HWH := Lib.hid (And.intro hW hH)
  obtain ⟨N, hNN⟩ : ∃ N, ny * nx = N := ⟨_, rfl⟩
  have hN2 : N ≤ 1089 := by have := Nat.mul_le_mul hN.ny.2 hN.nx.2; omega
  have hnx : 0 < nx := by have := hN.nx; omega
  rw [hNN] at KY HV
  have HNN := Lib.hid hNN
  obtain ⟨n, hn⟩ : ∃ n, W * H = n := ⟨_, rfl⟩
  have HNW := Lib.hid hn
  have NI := Lib.hid (fun wx => new_img W H wx hWb hHb)
  rw [hn] at NI
  have LP : Hid (∀ t ∈ m.l, True) := Lib.hid (fun _ _ => trivial)
  clear h hw hN hV hW hH hn hNN
  go_enter Try.func28, Try.ntmps28
  go_wp2_with fail
  refine (SY.out _).mono ?_
  rintro e w1 ⟨rfl, g1, rfl⟩
  go_wp2_with fail
  refine (NI.out _).mono ?_
  rintro e w2 ⟨g, rfl, hO, hE⟩
  have EX1 : Ext ((w.alloc (.cells #[.int .i64 x0, .int .i64 y0, .int .i64 x1, .int .i64 y1] 25)).alloc (.cells #[.int .i64 0, .int .i64 0, .slice none 0 0] 47)) w2 := (Ext.ext (Ext.refl _) g1).trans hE
  have hb0 := (((Ext.refl (w.alloc (.cells #[.int .i64 x0, .int .i64 y0, .int .i64 x1, .int .i64 y1] 25))).alloc (.cells #[.int .i64 0, .int .i64 0, .slice none 0 0] 47)).trans EX1).heapAt (heap_alloc_new w (.cells #[.int .i64 x0, .int .i64 y0, .int .i64 x1, .int .i64 y1] 25))
  have hb1 := EX1.heapAt (heap_alloc_new (w.alloc (.cells #[.int .i64 x0, .int .i64 y0, .int .i64 x1, .int .i64 y1] 25)) (.cells #[.int .i64 0, .int .i64 0, .slice none 0 0] 47))
  have hE2 : Ext w w2 := (((Ext.refl w).alloc _).alloc _).trans EX1
  rw [show (w.alloc (.cells #[.int .i64 x0, .int .i64 y0, .int .i64 x1, .int .i64 y1] 25)).heap.size = w.heap.size + 1 by simp] at hb1
  have hgb : w.heap.size + 2 ≤ g := by have := hO.1.lt g rfl; simp at this; omega
  obtain ⟨q, hq⟩ : ∃ q, w.heap.size = q := ⟨_, rfl⟩
  obtain ⟨w3, hw3⟩ : ∃ w3, w2.alloc (.cells #[.int .i64 (W : Int), .int .i64 (H : Int), .slice (some ⟨g, 0, none⟩) n n] 47) = w3 := ⟨_, rfl⟩
  obtain ⟨pm, hpm⟩ : ∃ pm, w2.heap.size = pm := ⟨_, rfl⟩
  have E3 : Ext w2 w3 := by rw [← hw3]; exact (Ext.refl _).alloc _
  have F3 : Hid (Ext w w3 ∧ w3.heap[q]? = some (.cells #[.int .i64 x0, .int .i64 y0, .int .i64 x1, .int .i64 y1] 25 (0, 0)) ∧ w3.heap[q + 1]? = some (.cells #[.int .i64 0, .int .i64 0, .slice none 0 0] 47 (0, 0)) ∧ w3.heap[pm]? = some (.cells #[.int .i64 (W : Int), .int .i64 (H : Int), .slice (some ⟨g, 0, none⟩) n n] 47 (0, 0)) ∧ OwnP .u8 68 q w3 (.slice (some ⟨g, 0, none⟩) n n) (List.replicate n noP) ∧ q + 2 ≤ g ∧ g < pm) := Lib.hid
    ⟨hE2.trans E3, by rw [← hq]; exact E3.heapAt hb0, by rw [← hq]; exact E3.heapAt hb1, by rw [← hw3, ← hpm]; exact heap_alloc_new _ _, (hO.ext E3).mono (by simp; omega), by omega, by have := (hO.1.lt g rfl).2; omega⟩
  have f0 : w3.cell? ⟨q, 0, none⟩ = some (.int .i64 x0) := by rw [cell_of_row _ _ _ _ _ (0, 0) F3.out.2.1]; rfl
  have f1 : w3.cell? ⟨q, 1, none⟩ = some (.int .i64 y0) := by rw [cell_of_row _ _ _ _ _ (0, 0) F3.out.2.1]; rfl
  have f2 : w3.cell? ⟨q, 2, none⟩ = some (.int .i64 x1) := by rw [cell_of_row _ _ _ _ _ (0, 0) F3.out.2.1]; rfl
  have f3 : w3.cell? ⟨q, 3, none⟩ = some (.int .i64 y1) := by rw [cell_of_row _ _ _ _ _ (0, 0) F3.out.2.1]; rfl
  have f4 : q < w3.heap.size := (Array.getElem?_eq_some_iff.1 F3.out.2.1).1
  have HQ := Lib.hid hq
  have HW3 := Lib.hid hw3
  have HPM := Lib.hid hpm
  rw [hq]
  clear hO hE EX1 hb0 hb1 hE2 hgb hq hw3 hpm E3
  go_wp2_with (first | rw [HW3.out, HPM.out] | rw [HW3.out] | fail)
  refine (KY.out _).mono ?_
  rintro e w4 ⟨A, kc, rfl, hO, hE⟩
  have TY : ∀ b, (Value.slice A N kc).ownBlock = some b → b ≠ g := fun b hb e => by
    obtain ⟨cur, hc⟩ := row_typ hO.1 hb
    obtain ⟨cur', hc', _⟩ := own_cellsJ (F3.out.2.2.2.2.1.ext hE)
    rw [e, hc'] at hc
    simp only [Option.some.injEq, Obj.cells.injEq] at hc
    exact absurd hc.2.1 (by decide)
  have F4 : Hid (Ext w w4 ∧ w4.heap[q]? = some (.cells #[.int .i64 x0, .int .i64 y0, .int .i64 x1, .int .i64 y1] 25 (0, 0)) ∧ w4.heap[q + 1]? = some (.cells #[.int .i64 0, .int .i64 0, .slice none 0 0] 47 (0, 0)) ∧ w4.heap[pm]? = some (.cells #[.int .i64 (W : Int), .int .i64 (H : Int), .slice (some ⟨g, 0, none⟩) n n] 47 (0, 0)) ∧ OwnP .u8 68 q w4 (.slice (some ⟨g, 0, none⟩) n n) (List.replicate n noP) ∧ q + 2 ≤ g ∧ g < pm ∧ OwnK 23 0 w4 (.slice A N kc) (keysN X Y nx N) ∧ (∀ b, (Value.slice A N kc).ownBlock = some b → b ≠ g) ∧ TK w4 c m S ∧ ¬ S g) := Lib.hid
    ⟨F3.out.1.trans hE, hE.heapAt F3.out.2.1, hE.heapAt F3.out.2.2.1, hE.heapAt F3.out.2.2.2.1, F3.out.2.2.2.2.1.ext hE, F3.out.2.2.2.2.2.1, F3.out.2.2.2.2.2.2, hO.mono (Nat.zero_le _), TY, (HT.out.ext F3.out.1).ext hE, fun e => by have := HT.out.lt g e; have := F3.out.2.2.2.2.2.1; have := HQ.out; omega⟩
  clear hO hE TY f0 f1 f2 f3 f4
  go_wp2
  go_loopw [37] (fun t37 wr => ∃ (i : Nat) (L : List Px), i ≤ N ∧ t37 = .int .i64 (i : Int) ∧ Hid (Keep w4 wr (fun b => b = g) ∧ OwnP .u8 68 q wr (.slice (some ⟨g, 0, none⟩) n n) L ∧ GoodJ x0 y0 W H V L (fun x y => ∃ j, j < i ∧ keyAt X Y nx j = (x / 8, y / 8)) ∧ ∀ j, j < i → m.find (keyAt X Y nx j) ≠ none)) (fun t37 _ => N - (intOf t37).toNat)
  case atStart => exact ⟨0, _, by omega, rfl, Lib.hid ⟨Keep.refl _ _, F4.out.2.2.2.2.1, ⟨by rw [List.length_replicate, HNW.out], fun a b _ _ ⟨j, hj, _⟩ => absurd hj (by omega)⟩, fun j hj => by omega⟩⟩
  case round =>
    obtain ⟨i, L, hi, rfl, ST⟩ := hrel
    have kb : ∀ b o, w4.heap[b]? = some o → b ≠ g → wr.heap[b]? = some o := fun b o h1 h2 => by rw [ST.out.1.block b (Array.getElem?_eq_some_iff.1 h1).1 h2]; exact h1
    have hbq := kb q _ F4.out.2.1 (by have := F4.out.2.2.2.2.2.1; omega)
    have hbr := kb (q + 1) _ F4.out.2.2.1 (by have := F4.out.2.2.2.2.2.1; omega)
    have hbm := kb pm _ F4.out.2.2.2.1 (by have := F4.out.2.2.2.2.2.2.1; omega)
    have EWR : Hid (Ext w wr) := Lib.hid (Keep.toExt F4.out.1 ST.out.1 (fun b e => by have := F4.out.2.2.2.2.2.1; have := HQ.out; omega))
    have TR := Lib.hid (F4.out.2.2.2.2.2.2.2.2.2.1.keep ST.out.1 (fun b hb e => F4.out.2.2.2.2.2.2.2.2.2.2 (e ▸ hb)))
    have KR := Lib.hid (F4.out.2.2.2.2.2.2.2.1.keep ST.out.1 (fun b hb e => F4.out.2.2.2.2.2.2.2.2.1 b hb e))
    have BR := Lib.hid (And.intro hbq (And.intro hbr hbm))
    have hql : q + 1 < wr.heap.size := (Array.getElem?_eq_some_iff.1 hbr).1
    by_cases hlt : i < N
    · have hlt' : (i : Int) < (N : Int) := by omega
      obtain ⟨M, ov, f, hT⟩ := TR.out
      have HTS := Lib.hid hT
      have c1 := hT.cell.2.1
      have hcl := hT.lt c hT.sc
      obtain ⟨hR, hM⟩ := key_meets HW.out HN.out i (by rw [HNN.out]; exact hlt)
      obtain ⟨kx, ky, hk⟩ : ∃ a b, keyAt X Y nx i = (a, b) := ⟨_, _, rfl⟩
      obtain ⟨bk, off, kx', ky', hA, hbk, hk', hin, d0, d1⟩ := (KR.out.kys).at (i := i) (by exact hlt)
      rw [keysN_getD _ _ _ _ _ hlt] at hk'
      have hkk : (kx, ky) = (kx', ky') := hk.symm.trans hk'
      simp only [Prod.mk.injEq] at hkk
      obtain ⟨rfl, rfl⟩ := hkk
      subst hA
      rw [hk] at hR hM
      have IK := Lib.hid hin
      have HK := Lib.hid hk
      have HR := Lib.hid hR
      have HM := Lib.hid hM
      have hzi : ∀ w, (zeroValue 47).run Try.prog w = .ok (.agg #[.int .i64 0, .int .i64 0, .slice none 0 0]) w := fun w => by kernel_rfl
      have hru0 : ∀ wx, Ext wr wx → (Instr.lookup 75 (.map (some M)) (keyV (kx, ky)) true).run Try.prog wx = _ := fun wx hx => run_look (t := 75) (K := 23) (E := 47) mapK_Key Try.underlying75 hzi (hT.mp.ext hx) true (kx, ky) hin
      rw [look_map] at hru0
      simp only [if_true, keyV] at hru0
      have RU := Lib.hid hru0
      clear hT hk hk' hin hR hM hru0 hzi
      obtain ⟨wa, hwa⟩ : ∃ wa, wr.alloc (.cells #[.int .i64 kx, .int .i64 ky] 23) = wa := ⟨_, rfl⟩
      obtain ⟨p, hpp⟩ : ∃ p, wr.heap.size = p := ⟨_, rfl⟩
      have EA : Hid (Ext wr wa) := Lib.hid (by rw [← hwa]; exact (Ext.refl _).alloc _)
      have hpl : p < wa.heap.size := by rw [← hwa, ← hpp]; simp
      have y0' : wa.cell? ⟨c, 1, none⟩ = some (.map (some M)) := by rw [EA.out.cell hcl]; exact c1
      have y1' : wa.cell? ⟨p, 0, none⟩ = some (.int .i64 kx) := by rw [← hwa, ← hpp]; simp [go_sem]
      have y2' : wa.cell? ⟨p, 1, none⟩ = some (.int .i64 ky) := by rw [← hwa, ← hpp]; simp [go_sem]
      have y4' : c < wa.heap.size := Nat.lt_of_lt_of_le hcl EA.out.size
      have PP := Lib.hid (And.intro hpl (And.intro y1' y2'))
      have HWA := Lib.hid hwa
      have HPP := Lib.hid hpp
      clear c1 hcl hwa hpp
      cases hfd : m.l.find? (fun t => decide (t.1 = (kx, ky))) with
      | none =>
        have hfn : m.find (keyAt X Y nx i) = none := by rw [HK.out]; unfold TM.find; rw [hfd]; rfl
        have r := RU.out
        rw [hfd] at r
        simp only [Option.map_none, Option.getD_none, Option.isSome_none] at r
        have r0 := r wa EA.out
        have r1 := r wa.drew (EA.out.drew')
        have r2 := r ((wa.alloc (.cells #[.int .i64 0, .int .i64 0, .slice none 0 0] 47)).drew) ((EA.out.alloc _).drew')
        have r3 := r (wa.drew.alloc (.cells #[.int .i64 0, .int .i64 0, .slice none 0 0] 47)) ((EA.out.drew').alloc _)
        have HFN := Lib.hid hfn
        clear r hfd hfn hbq hbr hbm
        go_wp2_with (first | rw [HWA.out, HPP.out] | rw [HWA.out] | fail)
        go_region
        all_goals (
          obtain ⟨wb, hwb⟩ : ∃ wb, (wa.alloc (.cells #[.int .i64 0, .int .i64 0, .slice none 0 0] 47)).drew = wb := ⟨_, rfl⟩
          have EB : Hid (Ext wr wb) := Lib.hid (by rw [← hwb]; exact (EA.out.alloc _).drew')
          rw [hwb]
          have hb2 := EB.out.heapAt BR.out.2.1
          have f0 : ∀ j, wb.frozen? ⟨q + 1, j, none⟩ = false := fun j => by simp [World.frozen?, hb2]
          have k0 : wb.cell? ⟨q + 1, 0, none⟩ = some (.int .i64 0) := by rw [cell_of_row _ _ _ _ _ (0, 0) hb2]; rfl
          have k1 : wb.cell? ⟨q + 1, 1, none⟩ = some (.int .i64 0) := by rw [cell_of_row _ _ _ _ _ (0, 0) hb2]; rfl
          have k2 : wb.cell? ⟨q + 1, 2, none⟩ = some (.slice none 0 0) := by rw [cell_of_row _ _ _ _ _ (0, 0) hb2]; rfl
          have hq9 : q + 1 < wb.heap.size := (Array.getElem?_eq_some_iff.1 hb2).1
          have hbF : (((wb.setCell ⟨q + 1, 0, none⟩ (.int .i64 0)).setCell ⟨q + 1, 1, none⟩ (.int .i64 0)).setCell ⟨q + 1, 2, none⟩ (.slice none 0 0)).heap[q + 1]? = some (.cells #[.int .i64 0, .int .i64 0, .slice none 0 0] 47 (0, 0)) := by
            have h1 := heap_setCell_same wb (q + 1) 0 _ 47 (.int .i64 0) hb2
            have h2 := heap_setCell_same _ (q + 1) 1 _ 47 (.int .i64 0) h1
            exact heap_setCell_same _ (q + 1) 2 _ 47 (.slice none 0 0) h2
          clear hwb hb2 r0 r1 r2 r3 y0' y1' y2' y4'
          go_wp2
          have hE10 : Ext w (((wb.setCell ⟨q + 1, 0, none⟩ (.int .i64 0)).setCell ⟨q + 1, 1, none⟩ (.int .i64 0)).setCell ⟨q + 1, 2, none⟩ (.slice none 0 0)) := (((EWR.out.trans EB.out).setCell (by rw [HQ.out]; simp) _).setCell (by rw [HQ.out]; simp) _).setCell (by rw [HQ.out]; simp) _
          obtain ⟨wF, hwF⟩ : ∃ wF, (((wb.setCell ⟨q + 1, 0, none⟩ (.int .i64 0)).setCell ⟨q + 1, 1, none⟩ (.int .i64 0)).setCell ⟨q + 1, 2, none⟩ (.slice none 0 0)) = wF := ⟨_, rfl⟩
          rw [hwF] at hbF hE10 ⊢
          have p0 : wF.cell? ⟨q + 1, 0, none⟩ = some (.int .i64 0) := by rw [cell_of_row _ _ _ _ _ (0, 0) hbF]; rfl
          have p1 : wF.cell? ⟨q + 1, 1, none⟩ = some (.int .i64 0) := by rw [cell_of_row _ _ _ _ _ (0, 0) hbF]; rfl
          have p2 : wF.cell? ⟨q + 1, 2, none⟩ = some (.slice none 0 0) := by rw [cell_of_row _ _ _ _ _ (0, 0) hbF]; rfl
          exact bodyPost_ret (v := .tuple #[.agg #[.int .i64 0, .int .i64 0, .slice none 0 0], .int .i64 31]) (by simp [results, Try.results28, go_sem, p0, p1, p2]) rfl ⟨.inr ⟨rfl, i, by rw [HNN.out]; exact hlt, HFN.out⟩, hE10⟩)
      | some t =>
        have htk := List.find?_some hfd
        simp only [decide_eq_true_eq] at htk
        have htm := List.mem_of_find?_eq_some hfd
        have hfs : m.find (keyAt X Y nx i) = some t.2 := by rw [HK.out]; unfold TM.find; rw [hfd]; rfl
        have hTV := HV.out i hlt t.2 hfs
        rw [HK.out] at hTV
        obtain ⟨pv, e1, e2, e3⟩ := HTS.out.px t htm
        obtain ⟨PA, pc, rfl⟩ := own_slice e2.1
        rw [hTV.1] at e1 e2
        have r := RU.out
        rw [hfd] at r
        simp only [Option.map_some, Option.getD_some, Option.isSome_some] at r
        rw [← htk, e1] at r
        have r0 := r wa EA.out
        have r1 := r wa.drew (EA.out.drew')
        have r2 := r ((wa.alloc (.cells #[.int .i64 0, .int .i64 0, .slice none 0 0] 47)).drew) ((EA.out.alloc _).drew')
        have r3 := r (wa.drew.alloc (.cells #[.int .i64 0, .int .i64 0, .slice none 0 0] 47)) ((EA.out.drew').alloc _)
        have PX := Lib.hid (And.intro e2.pix (And.intro hTV e3))
        have HFS := Lib.hid hfs
        obtain ⟨px, hpx⟩ : ∃ px, t.2 = px := ⟨_, rfl⟩
        rw [hpx] at PX HFS
        clear r hfd hfs hbq hbr hbm e1 e2 e3 hTV htk htm hpx
        go_wp2_with (first | rw [HWA.out, HPP.out] | rw [HWA.out] | fail)
        apply region_one
        case h =>
          go_region
          all_goals exact ⟨rfl, rfl⟩
        case hk =>
          obtain ⟨wb, hwb⟩ : ∃ wb, (wa.alloc (.cells #[.int .i64 8, .int .i64 8, .slice PA 64 pc] 47)).drew = wb := ⟨_, rfl⟩
          obtain ⟨p13, hp13⟩ : ∃ p, wa.heap.size = p := ⟨_, rfl⟩
          have EB : Hid (Ext wr wb ∧ wb.heap[p13]? = some (.cells #[.int .i64 8, .int .i64 8, .slice PA 64 pc] 47 (0, 0)) ∧ wr.heap.size ≤ p13 ∧ p13 < wb.heap.size) := Lib.hid ⟨by rw [← hwb]; exact (EA.out.alloc _).drew', by rw [← hwb, ← hp13]; exact (Ext.drew _).heapAt (heap_alloc_new wa _), by rw [← hp13]; exact EA.out.size, by rw [← hwb, ← hp13]; simp [go_sem]⟩
          have EAB : Ext wa wb := by rw [← hwb]; exact ((Ext.refl wa).alloc _).drew'
          have n0 : wb.cell? ⟨p, 0, none⟩ = some (.int .i64 kx) := (EAB.cell hpl).trans y1'
          have n1 : wb.cell? ⟨p, 1, none⟩ = some (.int .i64 ky) := (EAB.cell hpl).trans y2'
          have hplb : p < wb.heap.size := Nat.lt_of_lt_of_le hpl EAB.size
          rw [hwb, hp13]
          have CB := Lib.hid (fun wx => tbox_any kx ky wx)
          have eb : boxV (tboxB (kx, ky)) = .agg #[.int .i64 (8 * kx), .int .i64 (8 * ky), .int .i64 (8 * kx + 8), .int .i64 (8 * ky + 8)] := by unfold tboxB; rw [HR.out]; rfl
          have et : tboxB (kx, ky) = (8 * kx, 8 * ky, 8 * kx + 8, 8 * ky + 8) := by unfold tboxB; rw [HR.out]; rfl
          rw [eb] at CB
          have hMM := HM.out
          rw [et] at hMM
          have CM := Lib.hid (fun wx => meet_any (8 * kx) (8 * ky) (8 * kx + 8) (8 * ky + 8) x0 y0 x1 y1 wx)
          obtain ⟨m0, m1, m2, m3, hm, hmm⟩ : ∃ m0 m1 m2 m3, meetB (8 * kx, 8 * ky, 8 * kx + 8, 8 * ky + 8) (x0, y0, x1, y1) = (m0, m1, m2, m3) ∧ (m0 = max (8 * kx) x0 ∧ m1 = max (8 * ky) y0 ∧ m2 = min (8 * kx + 8) x1 ∧ m3 = min (8 * ky + 8) y1 ∧ m0 < m2 ∧ m1 < m3) := by
            try dsimp only at hMM
            unfold meetB at hMM ⊢
            try dsimp only at hMM ⊢
            by_cases hc : min (8 * kx + 8) x1 ≤ max (8 * kx) x0 ∨ min (8 * ky + 8) y1 ≤ max (8 * ky) y0
            · rw [if_pos hc] at hMM
              simp at hMM
            · rw [if_neg hc]
              exact ⟨_, _, _, _, rfl, rfl, rfl, rfl, rfl, by omega, by omega⟩
          rw [hm] at CM
          simp only [boxV] at CM
          have rb : (-524288 ≤ kx ∧ kx ≤ 524287) ∧ (-524288 ≤ ky ∧ ky ≤ 524287) := by
            have := HR.out
            unfold rightK at this
            simp only [decide_eq_true_eq] at this
            omega
          obtain ⟨rb1, rb2⟩ := rb
          obtain ⟨hm0, hm1, hm2, hm3, hm4, hm5⟩ := hmm
          have mb0 : 8 * kx ≤ m0 ∧ x0 ≤ m0 := by omega
          have mb1 : 8 * ky ≤ m1 ∧ y0 ≤ m1 := by omega
          have mb2 : m2 ≤ 8 * kx + 8 ∧ m2 ≤ x1 := by omega
          have mb3 : m3 ≤ 8 * ky + 8 ∧ m3 ≤ y1 := by omega
          have MX := Lib.hid (And.intro hm0 (And.intro hm1 (And.intro hm2 hm3)))
          have bq := EB.out.1.heapAt BR.out.1
          have z0 : wb.cell? ⟨q, 0, none⟩ = some (.int .i64 x0) := by rw [cell_of_row _ _ _ _ _ (0, 0) bq]; rfl
          have z1 : wb.cell? ⟨q, 1, none⟩ = some (.int .i64 y0) := by rw [cell_of_row _ _ _ _ _ (0, 0) bq]; rfl
          have z2 : wb.cell? ⟨q, 2, none⟩ = some (.int .i64 x1) := by rw [cell_of_row _ _ _ _ _ (0, 0) bq]; rfl
          have z3 : wb.cell? ⟨q, 3, none⟩ = some (.int .i64 y1) := by rw [cell_of_row _ _ _ _ _ (0, 0) bq]; rfl
          have z4 : q < wb.heap.size := (Array.getElem?_eq_some_iff.1 bq).1
          clear hwb hp13 EAB r0 r1 r2 r3 y0' y1' y2' y4' eb et hMM hm hm0 hm1 hm2 hm3 bq
          go_wp2_with fail
          refine (CB.out _).mono ?_
          rintro e w5 ⟨rfl, g5, rfl⟩
          go_wp2_with fail
          refine (CM.out _).mono ?_
          rintro e w5 ⟨rfl, g6, rfl⟩
          obtain ⟨wc, hwc⟩ : ∃ wc, (((wb.ext g5).alloc (.cells #[.int .i64 (8 * kx), .int .i64 (8 * ky), .int .i64 (8 * kx + 8), .int .i64 (8 * ky + 8)] 25)).ext g6) = wc := ⟨_, rfl⟩
          obtain ⟨p15, hp15⟩ : ∃ p, wb.heap.size + g5.blocks.size = p := ⟨_, rfl⟩
          obtain ⟨wj, hwj⟩ : ∃ wj, wc.alloc (.cells #[.int .i64 m0, .int .i64 m1, .int .i64 m2, .int .i64 m3] 25) = wj := ⟨_, rfl⟩
          obtain ⟨p16, hp16⟩ : ∃ p, wc.heap.size = p := ⟨_, rfl⟩
          have hb15 : wc.heap[p15]? = some (.cells #[.int .i64 (8 * kx), .int .i64 (8 * ky), .int .i64 (8 * kx + 8), .int .i64 (8 * ky + 8)] 25 (0, 0)) := by
            have h1 := (Ext.ext (Ext.refl _) g6).heapAt (heap_alloc_new (wb.ext g5) (.cells #[.int .i64 (8 * kx), .int .i64 (8 * ky), .int .i64 (8 * kx + 8), .int .i64 (8 * ky + 8)] 25))
            rw [hwc] at h1
            simpa [hp15] using h1
          have EBC : Ext wb wc := by rw [← hwc]; exact (((Ext.refl _).ext g5).alloc _).ext g6
          have ECJ : Ext wc wj := by rw [← hwj]; exact (Ext.refl _).alloc _
          have FJ : Hid (Ext wr wj ∧ wj.heap[p13]? = some (.cells #[.int .i64 8, .int .i64 8, .slice PA 64 pc] 47 (0, 0)) ∧ wj.heap[p15]? = some (.cells #[.int .i64 (8 * kx), .int .i64 (8 * ky), .int .i64 (8 * kx + 8), .int .i64 (8 * ky + 8)] 25 (0, 0)) ∧ wj.heap[p16]? = some (.cells #[.int .i64 m0, .int .i64 m1, .int .i64 m2, .int .i64 m3] 25 (0, 0)) ∧ wr.heap.size ≤ p13 ∧ wr.heap.size ≤ p15 ∧ wr.heap.size ≤ p16) := Lib.hid
            ⟨EB.out.1.trans (EBC.trans ECJ), (EBC.trans ECJ).heapAt EB.out.2.1, ECJ.heapAt hb15, by rw [← hwj, ← hp16]; exact heap_alloc_new _ _, EB.out.2.2.1, by have := EB.out.1.size; omega, by have := EB.out.1.size; have := EBC.size; omega⟩
          have HWC := Lib.hid hwc
          have HP15 := Lib.hid hp15
          have HWJ := Lib.hid hwj
          have HP16 := Lib.hid hp16
          clear hwc hp15 hwj hp16 hb15 EBC ECJ z0 z1 z2 z3 z4 n0 n1 hplb
          rw [HWC.out]
          have jb16 := FJ.out.2.2.2.1
          have w0' : wj.cell? ⟨p16, 1, none⟩ = some (.int .i64 m1) := by rw [cell_of_row _ _ _ _ _ (0, 0) jb16]; rfl
          have w1' : p16 < wj.heap.size := (Array.getElem?_eq_some_iff.1 jb16).1
          clear jb16
          go_wp2_with (first | rw [HWJ.out, HP16.out, HP15.out] | rw [HWJ.out, HP16.out] | rw [HWJ.out] | fail)
          have GE : Hid (Ext w wj ∧ q < wr.heap.size ∧ q + 2 ≤ g ∧ g < pm) := Lib.hid ⟨EWR.out.trans FJ.out.1, by omega, F4.out.2.2.2.2.2.1, F4.out.2.2.2.2.2.2.1⟩
          have hgl : g < wr.heap.size := by obtain ⟨cur, h1, _⟩ := own_cellsJ ST.out.2.1; exact (Array.getElem?_eq_some_iff.1 h1).1
          have NG : Hid (p13 ≠ g ∧ p15 ≠ g ∧ p16 ≠ g) := Lib.hid ⟨by have := FJ.out.2.2.2.2.1; omega, by have := FJ.out.2.2.2.2.2.1; omega, by have := FJ.out.2.2.2.2.2.2; omega⟩
          have BJ := Lib.hid (And.intro (FJ.out.1.heapAt BR.out.1) (And.intro (FJ.out.1.heapAt BR.out.2.1) (FJ.out.1.heapAt BR.out.2.2)))
          have PXJ := Lib.hid (PX.out.1.ext FJ.out.1)
          clear hgl
          go_loopw [17] (fun t17 wr' => ∃ (yy : Int) (L : List Px), m1 ≤ yy ∧ yy ≤ m3 ∧ t17 = .int .i64 yy ∧ Hid (Keep wj wr' (fun b => b = g) ∧ OwnP .u8 68 q wr' (.slice (some ⟨g, 0, none⟩) n n) L ∧ GoodJ x0 y0 W H V L (fun x y => (∃ j, j < i ∧ keyAt X Y nx j = (x / 8, y / 8)) ∨ ((kx, ky) = (x / 8, y / 8) ∧ y < yy)))) (fun t17 _ => (m3 - intOf t17).toNat)
          case atStart =>
            refine ⟨m1, L, by omega, by omega, rfl, Lib.hid ⟨Keep.refl _ _, ST.out.2.1.ext FJ.out.1, ST.out.2.2.1.mono (fun a b ha hb hd => ?_)⟩⟩
            rcases hd with h1 | ⟨h1, h2⟩
            · exact h1
            · simp only [Prod.mk.injEq] at h1
              have := MX.out
              omega
          case round =>
            obtain ⟨yy, Ly, hy1, hy2, rfl, SY⟩ := hrel
            have kj : ∀ b o, wj.heap[b]? = some o → b ≠ g → wr.heap[b]? = some o := fun b o h1 h2 => by rw [SY.out.1.block b (Array.getElem?_eq_some_iff.1 h1).1 h2]; exact h1
            have jb16 := kj p16 _ FJ.out.2.2.2.1 NG.out.2.2
            have i0 : wr.cell? ⟨p16, 0, none⟩ = some (.int .i64 m0) := by rw [cell_of_row _ _ _ _ _ (0, 0) jb16]; rfl
            have i3 : wr.cell? ⟨p16, 3, none⟩ = some (.int .i64 m3) := by rw [cell_of_row _ _ _ _ _ (0, 0) jb16]; rfl
            have i4 : p16 < wr.heap.size := (Array.getElem?_eq_some_iff.1 jb16).1
            clear jb16
            by_cases hyl : yy < m3
            · go_wp2
              go_loopw [18] (fun t18 wr' => ∃ (xx : Int) (L : List Px), m0 ≤ xx ∧ xx ≤ m2 ∧ t18 = .int .i64 xx ∧ Hid (Keep wj wr' (fun b => b = g) ∧ OwnP .u8 68 q wr' (.slice (some ⟨g, 0, none⟩) n n) L ∧ GoodJ x0 y0 W H V L (fun x y => (∃ j, j < i ∧ keyAt X Y nx j = (x / 8, y / 8)) ∨ ((kx, ky) = (x / 8, y / 8) ∧ (y < yy ∨ (y = yy ∧ x < xx)))))) (fun t18 _ => (m2 - intOf t18).toNat)
              case atStart =>
                refine ⟨m0, Ly, by omega, by omega, rfl, Lib.hid ⟨SY.out.1, SY.out.2.1, SY.out.2.2.mono (fun a b ha hb hd => ?_)⟩⟩
                rcases hd with h1 | ⟨h1, h2⟩
                · exact .inl h1
                · refine .inr ⟨h1, ?_⟩
                  simp only [Prod.mk.injEq] at h1
                  have := MX.out
                  omega
              case round =>
                obtain ⟨xx, Lx, hx1, hx2, rfl, SX⟩ := hrel
                have kj : ∀ b o, wj.heap[b]? = some o → b ≠ g → wr.heap[b]? = some o := fun b o h1 h2 => by rw [SX.out.1.block b (Array.getElem?_eq_some_iff.1 h1).1 h2]; exact h1
                have jb16 := kj p16 _ FJ.out.2.2.2.1 NG.out.2.2
                have i2 : wr.cell? ⟨p16, 2, none⟩ = some (.int .i64 m2) := by rw [cell_of_row _ _ _ _ _ (0, 0) jb16]; rfl
                have i3 : wr.cell? ⟨p16, 3, none⟩ = some (.int .i64 m3) := by rw [cell_of_row _ _ _ _ _ (0, 0) jb16]; rfl
                have i4 : p16 < wr.heap.size := (Array.getElem?_eq_some_iff.1 jb16).1
                by_cases hxl : xx < m2
                · obtain ⟨ra, hra⟩ : ∃ ra : Nat, xx = x0 + ra := ⟨(xx - x0).toNat, by omega⟩
                  obtain ⟨rb, hrb⟩ : ∃ rb : Nat, yy = y0 + rb := ⟨(yy - y0).toNat, by omega⟩
                  have hraW : ra < W := by have := HWH.out; omega
                  have hrbH : rb < H := by have := HWH.out; omega
                  obtain ⟨ta, hta⟩ : ∃ ta : Nat, xx - 8 * kx = ta := ⟨(xx - 8 * kx).toNat, by omega⟩
                  obtain ⟨tb, htb⟩ : ∃ tb : Nat, yy - 8 * ky = tb := ⟨(yy - 8 * ky).toNat, by omega⟩
                  have hta8 : ta < 8 := by omega
                  have htb8 : tb < 8 := by omega
                  have hry : yy - y0 = (rb : Int) := by omega
                  obtain ⟨rw_, hrw⟩ : ∃ rw_ : Nat, rb * W = rw_ := ⟨_, rfl⟩
                  have hrwb : rw_ ≤ 65536 := by have := Nat.mul_le_mul (show rb ≤ 256 by omega) (show W ≤ 256 by omega); omega
                  have hrwi : (rb : Int) * (W : Int) = (rw_ : Int) := by rw [← hrw, Int.natCast_mul]
                  obtain ⟨idx, hidx⟩ : ∃ idx : Nat, rw_ + ra = idx := ⟨_, rfl⟩
                  have hix : (rw_ : Int) + xx - x0 = (idx : Int) := by omega
                  have hidn : idx < n := by rw [← hidx, ← hrw, ← HNW.out]; exact idx_lt hraW hrbH
                  have hidN : (idx : Int) < (n : Int) := by omega
                  have hrx : -8388608 ≤ (rw_ : Int) + xx ∧ (rw_ : Int) + xx ≤ 8388608 := by omega
                  have jb13 := kj p13 _ FJ.out.2.1 NG.out.1
                  have jb15 := kj p15 _ FJ.out.2.2.1 NG.out.2.1
                  have jbq := kj q _ BJ.out.1 (by have := GE.out.2.2.1; omega)
                  have jbm := kj pm _ BJ.out.2.2 (by have := GE.out.2.2.2; omega)
                  have s0 : wr.cell? ⟨pm, 2, none⟩ = some (.slice (some ⟨g, 0, none⟩) n n) := by rw [cell_of_row _ _ _ _ _ (0, 0) jbm]; rfl
                  have s1 : wr.cell? ⟨q, 0, none⟩ = some (.int .i64 x0) := by rw [cell_of_row _ _ _ _ _ (0, 0) jbq]; rfl
                  have s2 : wr.cell? ⟨q, 1, none⟩ = some (.int .i64 y0) := by rw [cell_of_row _ _ _ _ _ (0, 0) jbq]; rfl
                  have s3 : wr.cell? ⟨p13, 0, none⟩ = some (.int .i64 8) := by rw [cell_of_row _ _ _ _ _ (0, 0) jb13]; rfl
                  have s4 : wr.cell? ⟨p13, 1, none⟩ = some (.int .i64 8) := by rw [cell_of_row _ _ _ _ _ (0, 0) jb13]; rfl
                  have s5 : wr.cell? ⟨p13, 2, none⟩ = some (.slice PA 64 pc) := by rw [cell_of_row _ _ _ _ _ (0, 0) jb13]; rfl
                  have s6 : wr.cell? ⟨p15, 0, none⟩ = some (.int .i64 (8 * kx)) := by rw [cell_of_row _ _ _ _ _ (0, 0) jb15]; rfl
                  have s7 : wr.cell? ⟨p15, 1, none⟩ = some (.int .i64 (8 * ky)) := by rw [cell_of_row _ _ _ _ _ (0, 0) jb15]; rfl
                  have l0 : pm < wr.heap.size := (Array.getElem?_eq_some_iff.1 jbm).1
                  have l1 : q < wr.heap.size := (Array.getElem?_eq_some_iff.1 jbq).1
                  have l2 : p13 < wr.heap.size := (Array.getElem?_eq_some_iff.1 jb13).1
                  have l3 : p15 < wr.heap.size := (Array.getElem?_eq_some_iff.1 jb15).1
                  obtain ⟨cur, hcur, hcs, _⟩ := own_cellsJ SX.out.2.1
                  obtain ⟨v0, v1, v2, v3, e0, e1, e2, e3⟩ := row4j hcur hcs hidn
                  have fz : ∀ k, wr.frozen? ⟨g, k, none⟩ = false := fun k => by simp [World.frozen?, hcur]
                  have l4 : g < wr.heap.size := (Array.getElem?_eq_some_iff.1 hcur).1
                  obtain ⟨⟨z0, z1, z2, z3⟩, hz⟩ : ∃ z, px.getD (tb * 8 + ta) noP = z := ⟨_, rfl⟩
                  have PXR : Pix .u8 wr (.slice PA 64 pc) px := by
                    obtain ⟨A', cap', e, h2, h3, h4, h5, h6⟩ := PXJ.out
                    refine ⟨A', cap', e, h2, h3, h4, h5, fun hn => ?_⟩
                    obtain ⟨b, off, e1, e2, e3⟩ := h6 hn
                    have nb : b ≠ g := fun hbg => F4.out.2.2.2.2.2.2.2.2.2.2 (hbg ▸ PX.out.2.2 b (by simp only [Value.slice.injEq] at e; rw [e.1, e1]; rfl))
                    exact ⟨b, off, e1, Nat.lt_of_lt_of_le e2 SX.out.1.size, fun i hi j hj => by rw [SX.out.1.cell e2 nb]; exact e3 i hi j hj⟩
                  have AT : Hid (∀ wx, Ext wr wx → Calls Try.prog 45 #[.agg #[.int .i64 8, .int .i64 8, .slice PA 64 pc], .int .i64 (ta : Int), .int .i64 (tb : Int)] wx fun e w' => e = .returned (.tuple #[.agg #[.int .u8 (z0 : Int), .int .u8 (z1 : Int), .int .u8 (z2 : Int), .int .u8 (z3 : Int)], .bool true]) ∧ Ext wx w') := Lib.hid
                    (fun wx hx => by
                      have h1 := at_in 8 8 (.slice PA 64 pc) px ta tb wx (PXR.ext hx) PX.out.2.1.1 (by omega) (by omega) hta8 htb8
                      rw [hz] at h1
                      exact h1)
                  have VZ : Hid ((z0, z1, z2, z3) = V (x0 + ra) (y0 + rb)) := Lib.hid (by
                    have h1 := PX.out.2.1.2 xx yy (by rw [Prod.mk.injEq]; omega)
                    dsimp only at h1
                    rw [hta, htb, Int.toNat_natCast, Int.toNat_natCast, hz] at h1
                    rw [h1, hra, hrb])
                  have GN : Hid (GoodJ x0 y0 W H V (Lx.set idx (z0, z1, z2, z3)) (fun x y => (∃ j, j < i ∧ keyAt X Y nx j = (x / 8, y / 8)) ∨ ((kx, ky) = (x / 8, y / 8) ∧ (y < yy ∨ (y = yy ∧ x < xx + 1))))) := Lib.hid (by
                    have h1 := SX.out.2.2.set hraW hrbH VZ.out (D' := fun x y => (∃ j, j < i ∧ keyAt X Y nx j = (x / 8, y / 8)) ∨ ((kx, ky) = (x / 8, y / 8) ∧ (y < yy ∨ (y = yy ∧ x < xx + 1)))) (fun a b ha hb hd => by
                      rcases hd with h1 | ⟨h1, h2⟩
                      · exact .inl (.inl h1)
                      · by_cases he : a = ra ∧ b = rb
                        · exact .inr he
                        · exact .inl (.inr ⟨h1, by omega⟩))
                    rw [hrw, hidx] at h1
                    exact h1)
                  have OKZ : Hid (okP (z0, z1, z2, z3)) := Lib.hid (by
                    obtain ⟨A', cap', e, h2, h3, h4, h5, h6⟩ := PXR
                    rw [← hz]; exact h5 _)
                  have IDL : Hid (idx < Lx.length) := Lib.hid (by rw [SX.out.2.2.len, HNW.out]; exact hidn)
                  clear hra hrb hraW hrbH hrw hidx hcur hcs jb13 jb15 jbq jbm jb16 hz PXR hta8 htb8
                  have REL : Hid (∀ g9 : Junk, Keep wj (((((wr.setCell ⟨g, idx * 4, none⟩ (.int .u8 (z0 : Int))).setCell ⟨g, idx * 4 + 1, none⟩ (.int .u8 (z1 : Int))).setCell ⟨g, idx * 4 + 2, none⟩ (.int .u8 (z2 : Int))).setCell ⟨g, idx * 4 + 3, none⟩ (.int .u8 (z3 : Int))).ext g9) (fun b => b = g) ∧ OwnP .u8 68 q (((((wr.setCell ⟨g, idx * 4, none⟩ (.int .u8 (z0 : Int))).setCell ⟨g, idx * 4 + 1, none⟩ (.int .u8 (z1 : Int))).setCell ⟨g, idx * 4 + 2, none⟩ (.int .u8 (z2 : Int))).setCell ⟨g, idx * 4 + 3, none⟩ (.int .u8 (z3 : Int))).ext g9) (.slice (some ⟨g, 0, none⟩) n n) (Lx.set idx (z0, z1, z2, z3))) := Lib.hid (fun g9 =>
                    ⟨(SX.out.1.trans (((Keep.setCell.trans Keep.setCell (fun _ _ h => h)).trans Keep.setCell (fun _ _ h => h)).trans Keep.setCell (fun _ _ h => h)) (fun _ _ h => h)).trans (Keep.ofExt (Ext.ext (Ext.refl _) g9) (fun b => b = g)) (fun _ _ h => h), (SX.out.2.1.stored idx (z0, z1, z2, z3) IDL.out OKZ.out).ext (Ext.ext (Ext.refl _) g9)⟩)
                  go_wp2
                  refine Fl.region_float 26 25 (by kernel_rfl) (by kernel_rfl) (by kernel_rfl) ?_
                  simp only [List.take_succ_cons, List.take_zero, List.drop_succ_cons, List.drop_zero, List.map_cons, List.map_nil, Fl.wait]
                  iterate 26 (go_big_quiet_step (exact calls_ext (AT.out _ (Ext.ext (Ext.refl _) _))))
                  refine wpQuiet_nil ?_
                  rintro _ ⟨g9, rfl⟩
                  go_wp2
                  have REL9 := Lib.hid (REL.out g9)
                  clear s0 s1 s2 s3 s4 s5 s6 s7 l0 l1 l2 l3 l4 e0 e1 e2 e3 fz i2 i3 i4
                  refine Fl.Only.normal ?_
                  dsimp only [Exit.inBlock, Exit.then]
                  go_wp2
                  go_roundw
                  case rel => exact ⟨xx + 1, Lx.set idx (z0, z1, z2, z3), by omega, by omega, by go_num, Lib.hid ⟨REL9.out.1, REL9.out.2, GN.out⟩⟩
                  case measure => simp [intOf]; omega
                · have hxl' : ¬ xx < m2 := hxl
                  obtain rfl : xx = m2 := by omega
                  have SN : Hid (GoodJ x0 y0 W H V Lx (fun x y => (∃ j, j < i ∧ keyAt X Y nx j = (x / 8, y / 8)) ∨ ((kx, ky) = (x / 8, y / 8) ∧ y < yy + 1))) := Lib.hid (SX.out.2.2.mono (fun a b ha hb hd => by
                    rcases hd with h1 | ⟨h1, h2⟩
                    · exact .inl h1
                    · refine .inr ⟨h1, ?_⟩
                      simp only [Prod.mk.injEq] at h1
                      have := MX.out
                      have := HWH.out
                      omega))
                  go_wp2
                  go_roundw
                  case rel => exact ⟨yy + 1, Lx, by omega, by omega, by go_num, Lib.hid ⟨SX.out.1, SX.out.2.1, SN.out⟩⟩
                  case measure => simp [intOf]; omega
            · obtain rfl : yy = m3 := by omega
              have SN : Hid (GoodJ x0 y0 W H V Ly (fun x y => ∃ j, j < i + 1 ∧ keyAt X Y nx j = (x / 8, y / 8))) := Lib.hid (SY.out.2.2.mono (fun a b ha hb hd => by
                obtain ⟨j, hj, hjk⟩ := hd
                by_cases hji : j = i
                · subst hji
                  rw [HK.out] at hjk
                  refine .inr ⟨hjk, ?_⟩
                  simp only [Prod.mk.injEq] at hjk
                  have := MX.out
                  have := HWH.out
                  omega
                · exact .inl ⟨j, by omega, hjk⟩))
              have FN : Hid (∀ j, j < i + 1 → m.find (keyAt X Y nx j) ≠ none) := Lib.hid (fun j hj => by
                by_cases hji : j = i
                · subst hji; rw [HFS.out]; simp
                · exact ST.out.2.2.2 j (by omega))
              have KN : Hid (Keep w4 wr (fun b => b = g)) := Lib.hid ((ST.out.1.trans (Keep.ofExt FJ.out.1 (fun b => b = g)) (fun _ _ h => h)).trans SY.out.1 (fun _ _ h => h))
              go_wp2
              go_roundw
              case rel => exact ⟨i + 1, Ly, by omega, by go_num, Lib.hid ⟨KN.out, SY.out.2.1, SN.out, FN.out⟩⟩
              case measure => simp [intOf]; omega
    · have hlt' : ¬ (i : Int) < (N : Int) := by omega
      obtain rfl : i = N := by omega
      have v0 : wr.cell? ⟨pm, 0, none⟩ = some (.int .i64 (W : Int)) := by rw [cell_of_row _ _ _ _ _ (0, 0) hbm]; rfl
      have v1 : wr.cell? ⟨pm, 1, none⟩ = some (.int .i64 (H : Int)) := by rw [cell_of_row _ _ _ _ _ (0, 0) hbm]; rfl
      have v2 : wr.cell? ⟨pm, 2, none⟩ = some (.slice (some ⟨g, 0, none⟩) n n) := by rw [cell_of_row _ _ _ _ _ (0, 0) hbm]; rfl
      have v3 : pm < wr.heap.size := (Array.getElem?_eq_some_iff.1 hbm).1
      have f0 : ∀ j, wr.frozen? ⟨q + 1, j, none⟩ = false := fun j => by simp [World.frozen?, hbr]
      have k0 : wr.cell? ⟨q + 1, 0, none⟩ = some (.int .i64 0) := by rw [cell_of_row _ _ _ _ _ (0, 0) hbr]; rfl
      have k1 : wr.cell? ⟨q + 1, 1, none⟩ = some (.int .i64 0) := by rw [cell_of_row _ _ _ _ _ (0, 0) hbr]; rfl
      have k2 : wr.cell? ⟨q + 1, 2, none⟩ = some (.slice none 0 0) := by rw [cell_of_row _ _ _ _ _ (0, 0) hbr]; rfl
      have hbF : (((wr.setCell ⟨q + 1, 0, none⟩ (.int .i64 (W : Int))).setCell ⟨q + 1, 1, none⟩ (.int .i64 (H : Int))).setCell ⟨q + 1, 2, none⟩ (.slice (some ⟨g, 0, none⟩) n n)).heap[q + 1]? = some (.cells #[.int .i64 (W : Int), .int .i64 (H : Int), .slice (some ⟨g, 0, none⟩) n n] 47 (0, 0)) := by
        have h1 := heap_setCell_same wr (q + 1) 0 _ 47 (.int .i64 (W : Int)) hbr
        have h2 := heap_setCell_same _ (q + 1) 1 _ 47 (.int .i64 (H : Int)) h1
        exact heap_setCell_same _ (q + 1) 2 _ 47 (.slice (some ⟨g, 0, none⟩) n n) h2
      clear hbq hbr hbm
      go_wp2
      have hE10 : Ext w (((wr.setCell ⟨q + 1, 0, none⟩ (.int .i64 (W : Int))).setCell ⟨q + 1, 1, none⟩ (.int .i64 (H : Int))).setCell ⟨q + 1, 2, none⟩ (.slice (some ⟨g, 0, none⟩) n n)) := ((EWR.out.setCell (by rw [HQ.out]; simp) _).setCell (by rw [HQ.out]; simp) _).setCell (by rw [HQ.out]; simp) _
      have KF : Keep wr (((wr.setCell ⟨q + 1, 0, none⟩ (.int .i64 (W : Int))).setCell ⟨q + 1, 1, none⟩ (.int .i64 (H : Int))).setCell ⟨q + 1, 2, none⟩ (.slice (some ⟨g, 0, none⟩) n n)) (fun b => b = q + 1) := (Keep.setCell.trans Keep.setCell (fun _ _ h => h)).trans Keep.setCell (fun _ _ h => h)
      obtain ⟨wF, hwF⟩ : ∃ wF, (((wr.setCell ⟨q + 1, 0, none⟩ (.int .i64 (W : Int))).setCell ⟨q + 1, 1, none⟩ (.int .i64 (H : Int))).setCell ⟨q + 1, 2, none⟩ (.slice (some ⟨g, 0, none⟩) n n)) = wF := ⟨_, rfl⟩
      rw [hwF] at hbF hE10 KF ⊢
      have p0 : wF.cell? ⟨q + 1, 0, none⟩ = some (.int .i64 (W : Int)) := by rw [cell_of_row _ _ _ _ _ (0, 0) hbF]; rfl
      have p1 : wF.cell? ⟨q + 1, 1, none⟩ = some (.int .i64 (H : Int)) := by rw [cell_of_row _ _ _ _ _ (0, 0) hbF]; rfl
      have p2 : wF.cell? ⟨q + 1, 2, none⟩ = some (.slice (some ⟨g, 0, none⟩) n n) := by rw [cell_of_row _ _ _ _ _ (0, 0) hbF]; rfl
      refine bodyPost_ret (v := .tuple #[.agg #[.int .i64 (W : Int), .int .i64 (H : Int), .slice (some ⟨g, 0, none⟩) n n], .int .i64 0]) (by simp [results, Try.results28, go_sem, p0, p1, p2]) rfl ⟨.inl ⟨g, L, by rw [HNW.out], ?_, ST.out.2.2.1.mono (fun a b ha hb _ => ?_), by rw [HNN.out]; exact ST.out.2.2.2⟩, hE10⟩
      · rw [HNW.out, HQ.out]
        exact ST.out.2.1.keep KF (fun b e1 e2 => by simp only [Value.ownBlock, Option.some.injEq] at e1; have := F4.out.2.2.2.2.2.1; omega)
      · have := key_covers HN.out (x0 + a) (y0 + b) (by have := HWH.out; omega) (by have := HWH.out; omega)
        rw [HNN.out] at this
        exact this

end Go.Proofs.Ytblfplkocljlgaa
