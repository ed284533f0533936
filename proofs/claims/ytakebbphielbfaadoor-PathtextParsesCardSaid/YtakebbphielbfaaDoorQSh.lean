import Derived.Test.YtakebbphielbfaaDoorQCh
import Derived.Test.YtakebbphielbfaaDoorFlow
namespace Go.Proofs.YtakebbphielbfaaDoor
open Go.RowKit
set_option linter.unusedVariables false
set_option linter.unusedSimpArgs false
set_option maxRecDepth 100000
set_option maxHeartbeats 6400000

/-- the words of a path's text -/
def ptW (q : Pt) : List (List UInt8) := [textA q.1, textA q.2]
def segW (s : Sg) : List (List UInt8) := [[lettersL.getD s.k.toNat 0]] ++ (ptsOf s (needL s.k)).flatMap ptW
def showW (l : List Sg) : List (List UInt8) := l.flatMap segW
def showT (l : List Sg) : List UInt8 := if checkL false l = 0 then Lib.join (showW l) [32] else []

theorem ptW_len (q : Pt) : (ptW q).length = 2 := rfl
theorem segW_len (s : Sg) : (segW s).length = 1 + 2 * needL s.k := by
  unfold segW
  rw [List.length_append]
  have : ∀ l : List Pt, (l.flatMap ptW).length = 2 * l.length := by
    intro l
    induction l with
    | nil => rfl
    | cons x l ih => rw [List.flatMap_cons, List.length_append, ih, ptW_len, List.length_cons]; omega
  rw [this, ptsOf_len s (needL_le _)]
  rfl
theorem showW_len (l : List Sg) : (showW l).length ≤ 7 * l.length := by
  induction l with
  | nil => simp [showW]
  | cons s l ih =>
    have h := needL_le s.k
    have h2 := segW_len s
    have e : showW (s :: l) = segW s ++ showW l := by unfold showW; rw [List.flatMap_cons]
    rw [e, List.length_append, List.length_cons]
    omega
theorem textA_len (a : Int) : (textA a).length ≤ 17 := by
  unfold textA
  split
  · exact text_len (by omega)
  · simp
theorem showW_short (l : List Sg) : ∀ x ∈ showW l, x.length ≤ 17 := by
  intro x hx
  obtain ⟨s, _, hx⟩ := List.mem_flatMap.1 hx
  rcases List.mem_append.1 hx with hx | hx
  · simp at hx; subst hx; simp
  · obtain ⟨q, _, hx⟩ := List.mem_flatMap.1 hx
    simp [ptW] at hx
    rcases hx with rfl | rfl <;> exact textA_len _
theorem join_len_le (xs : List (List UInt8)) (m : Nat) (h : ∀ x ∈ xs, x.length ≤ m) : (Lib.join xs [32]).length ≤ (m + 1) * xs.length := by
  cases xs with
  | nil => simp [Lib.join_nil]
  | cons x r =>
    rw [Lib.join_length]
    have : ∀ ys : List (List UInt8), (∀ y ∈ ys, y.length ≤ m) → Lib.lens ys ≤ m * ys.length := by
      intro ys
      induction ys with
      | nil => intro _; simp [Lib.lens]
      | cons y ys ih =>
        intro h
        have h1 := h y (by simp)
        have h2 := ih (fun z hz => h z (by simp [hz]))
        have e : Lib.lens (y :: ys) = y.length + Lib.lens ys := by simp [Lib.lens]
        rw [e, List.length_cons, Nat.mul_succ]
        omega
    have h1 := this (x :: r) h
    have e32 : ([32] : List UInt8).length = 1 := rfl
    rw [e32]
    rw [List.length_cons] at h1 ⊢
    rw [Nat.add_mul]
    omega
theorem showW_take {l : List Sg} {i : Nat} (h : i < l.length) : showW (l.take (i + 1)) = showW (l.take i) ++ segW (l.getD i noS) := by
  have e : ∀ (a : List Sg) b, showW (a ++ [b]) = showW a ++ segW b := by intro a b; simp [showW]
  rw [List.take_succ_eq_append_getElem h, e, List.getD_eq_getElem?_getD, List.getElem?_eq_getElem h]; rfl
theorem ptsW_take {l : List Pt} {i : Nat} (h : i < l.length) : (l.take (i + 1)).flatMap ptW = (l.take i).flatMap ptW ++ ptW (l.getD i (0, 0)) := by
  have e : ∀ (a : List Pt) b, (a ++ [b]).flatMap ptW = a.flatMap ptW ++ ptW b := by intro a b; simp
  rw [List.take_succ_eq_append_getElem h, e, List.getD_eq_getElem?_getD, List.getElem?_eq_getElem h]; rfl
theorem check_at : ∀ (l : List Sg) (o : Bool) (i : Nat), checkL o l = 0 → i < l.length → ∃ o', check1 o' (l.getD i noS) = 0 := by
  intro l
  induction l with
  | nil => intro o i _ h; simp at h
  | cons s l ih =>
    intro o i hc hi
    unfold checkL at hc
    split at hc
    · rename_i h; exact absurd hc h
    · rename_i h
      cases i with
      | zero => exact ⟨o, by simpa using Classical.not_not.1 h⟩
      | succ i => rw [List.getD_cons_succ]; exact ih _ i hc (by simpa using hi)
theorem check1_kind {o : Bool} {s : Sg} (h : check1 o s = 0) : 1 ≤ s.k ∧ s.k ≤ 5 := by
  unfold check1 at h
  split at h
  · cases h
  · rename_i hb
    constructor
    · apply Classical.byContradiction; intro h; exact hb (.inl (by omega))
    · apply Classical.byContradiction; intro h; exact hb (.inr (.inl (by omega)))

/-- own words, and two more -/
theorem WR.push2 {B : Nat} {w0 w w9 : World} {A : Option Addr} {n c : Nat} {l : List (List UInt8)} {x y : List UInt8} {v9 : Value} (h : WR B w0 w A n c l) (hn : n ≤ 60000) {w1 : World} (h1 : Ext w w1) (hO : OwnR strR 9 B w9 v9 (l ++ [x, y])) (hg : w1.grownBy w9 (Value.slice A n c).ownBlock) : ∃ A9 c9, v9 = .slice A9 (n + 2) c9 ∧ WR B w0 w9 A9 (n + 2) c9 (l ++ [x, y]) := by
  obtain ⟨A9, c9, e9⟩ := hO.slice
  rw [show (l ++ [x, y]).length = n + 2 by rw [List.length_append, h.len]; rfl] at e9
  subst e9
  exact ⟨A9, c9, rfl, hO, by rw [List.length_append, h.len]; rfl, by omega, Keep.toExt (h.ext.trans h1) (Keep.grown hg) (fun k hk => by have := h.own.row k hk; have := h.base; omega), h.base⟩
theorem WR.ready2 {B : Nat} {w0 w : World} {A : Option Addr} {n c : Nat} {l : List (List UInt8)} (x y : List UInt8) (h : WR B w0 w A n c l) (hx : x.length ≤ 100000) (hy : y.length ≤ 100000) :
    OwnR strR 9 B (w.alloc (.cells #[.string (ba x), .string (ba y)] 9)) (.slice A n c) l ∧ Sl strR (w.alloc (.cells #[.string (ba x), .string (ba y)] 9)) (.slice (some ⟨w.heap.size, 0, none⟩) 2 2) [x, y] ∧ l.length + ([x, y] : List (List UInt8)).length ≤ 1000000 ∧ B ≤ (w.alloc (.cells #[.string (ba x), .string (ba y)] 9)).heap.size ∧ Ext w (w.alloc (.cells #[.string (ba x), .string (ba y)] 9)) := by
  refine ⟨h.own.ext ((Ext.refl _).alloc _), sl_block (l := [x, y]) (by simp) (fun i => ?_) (by simp) (fun j hj => ?_), by rw [h.len]; have := h.few; simp; omega, ?_, (Ext.refl _).alloc _⟩
  · rcases i with _ | _ | i
    · exact hx
    · exact hy
    · exact strR.nok
  · have : j < 2 * 1 := hj
    rcases j with _ | _ | j
    · simp [go_sem, strR]
    · simp [go_sem, strR]
    · omega
  · have := h.ext.size
    have := h.base
    simp [go_sem]; omega
theorem WR.extW {B : Nat} {w0 w w' : World} {A : Option Addr} {n c : Nat} {l : List (List UInt8)} (h : WR B w0 w A n c l) (he : Ext w w') : WR B w0 w' A n c l := ⟨h.own.ext he, h.len, h.few, h.ext.trans he, h.base⟩

theorem show_any (A : Option Addr) (n c : Nat) (l : List Sg) (w : World) (hS : Sl sgR w (.slice A n c) l) (hI : IV w) (hn : n ≤ 4096) :
    Calls Tryd.prog 12 #[.slice A n c] w fun e w' => e = .returned (.tuple #[.string (ba (showT l)), .int .i64 (checkL false l)]) ∧ Ext w w' := by
  have CK := Lib.hid (check_any A n c l w hS hI hn)
  have HN := Lib.hid hS.len
  have S := Lib.hid hS
  have HI := Lib.hid hI
  obtain ⟨T, hT⟩ : ∃ T, checkL false l = T := ⟨_, rfl⟩
  have HT := Lib.hid hT
  rw [hT] at CK ⊢
  clear hS hI hT
  by_cases h0 : T = 0
  · subst h0
    have SH : Hid (showT l = Lib.join (showW l) [32]) := Lib.hid (by unfold showT; rw [if_pos HT.out])
    have TX := Lib.hid (fun a wx (h : Ext w wx) => text_all a wx (HI.out.ext h))
    obtain ⟨B, hB⟩ : ∃ B, w.heap.size = B := ⟨_, rfl⟩
    have HB := Lib.hid hB
    clear hB
    go_enter Tryd.func12, Tryd.ntmps12
    go_wp2_with fail
    refine CK.out.mono ?_
    rintro e w1 ⟨rfl, hE1⟩
    have E1 := Lib.hid hE1
    clear hE1 CK
    go_wp2_with fail
    go_loopw [5, 17] (fun t5 t17 wr => ∃ (i k : Nat) (A5 : Option Addr) (c5 : Nat), i ≤ n ∧ t5 = .slice A5 k c5 ∧ t17 = .int .i64 (i : Int) ∧ Hid (WR B w wr A5 k c5 (showW (l.take i)))) (fun _ t17 _ => n - (intOf t17).toNat)
    case atStart => exact ⟨0, 0, none, 0, by omega, rfl, rfl, Lib.hid ⟨OwnR.nil _ _ _ _, rfl, by omega, E1.out, HB.out⟩⟩
    case round =>
      obtain ⟨i, k5, A5, c5, hi, rfl, rfl, ST⟩ := hrel
      have hk5 : k5 ≤ 28672 := by
        have h1 := showW_len (l.take i)
        have h2 : (l.take i).length ≤ 4096 := by rw [List.length_take, ← HN.out]; omega
        have h3 := ST.out.len
        omega
      by_cases hlt : i < n
      · have hlt' : (i : Int) < (n : Int) := by omega
        obtain ⟨b, off, rfl, hb, hok, hc⟩ := (S.out.ext ST.out.ext).at hlt
        obtain ⟨s, hs⟩ : ∃ s, l.getD i sgR.no = s := ⟨_, rfl⟩
        rw [hs] at hc hok
        have SW : Hid (showW (l.take (i + 1)) = showW (l.take i) ++ [[lettersL.getD s.k.toNat 0]] ++ (ptsOf s (needL s.k)).flatMap ptW) := Lib.hid (by
          rw [showW_take (by rw [← HN.out]; exact hlt), show l.getD i noS = s from hs, segW]; simp)
        have KD : 1 ≤ s.k ∧ s.k ≤ 5 := by
          obtain ⟨o', ho⟩ := check_at l false i HT.out (by rw [← HN.out]; exact hlt)
          rw [show l.getD i noS = s from hs] at ho
          exact check1_kind ho
        obtain ⟨⟨kz, ⟨x0, y0⟩, ⟨x1, y1⟩, ⟨x2, y2⟩⟩, hs2⟩ : ∃ s', s = s' := ⟨_, rfl⟩
        subst hs2
        dsimp only at KD SW
        obtain ⟨k, rfl⟩ := Int.eq_ofNat_of_zero_le (show 0 ≤ kz by omega)
        rw [Int.toNat_natCast] at SW
        have g0 : wr.cell? ⟨b, off + i * 7, none⟩ = some (.int .i64 (k : Int)) := hc 0 (by decide)
        have g1 : wr.cell? ⟨b, off + (i * 7 + 1), none⟩ = some (.int .i64 x0) := hc 1 (by decide)
        have g2 : wr.cell? ⟨b, off + (i * 7 + 2), none⟩ = some (.int .i64 y0) := hc 2 (by decide)
        have g3 : wr.cell? ⟨b, off + (i * 7 + 3), none⟩ = some (.int .i64 x1) := hc 3 (by decide)
        have g4 : wr.cell? ⟨b, off + (i * 7 + 4), none⟩ = some (.int .i64 y1) := hc 4 (by decide)
        have g5 : wr.cell? ⟨b, off + (i * 7 + 5), none⟩ = some (.int .i64 x2) := hc 5 (by decide)
        have g6 : wr.cell? ⟨b, off + (i * 7 + 6), none⟩ = some (.int .i64 y2) := hc 6 (by decide)
        obtain ⟨w3, hw3⟩ : ∃ w3, wr.alloc (.cells #[.int .i64 (k : Int), .int .i64 x0, .int .i64 y0, .int .i64 x1, .int .i64 y1, .int .i64 x2, .int .i64 y2] 42) = w3 := ⟨_, rfl⟩
        obtain ⟨q, hq⟩ : ∃ q, wr.heap.size = q := ⟨_, rfl⟩
        have hqb : w3.heap[q]? = some (.cells (sgA ⟨(k : Int), (x0, y0), (x1, y1), (x2, y2)⟩) 42 (0, 0)) := by rw [← hw3, ← hq]; exact heap_alloc_new wr _
        have NQ5 : Hid (∀ kk, (Value.slice A5 k5 c5).ownBlock = some kk → kk ≠ q) := Lib.hid (fun kk hkk e => by
          have h1 := ST.out.own.lt kk (by cases A5 <;> exact hkk)
          omega)
        have W3 : Hid (WR B w w3 A5 k5 c5 (showW (l.take i))) := Lib.hid (by rw [← hw3]; exact ST.out.extW ((Ext.refl _).alloc _))
        have m0 : w3.cell? ⟨q, 0, none⟩ = some (.int .i64 (k : Int)) := (heap_cell hqb 0).trans rfl
        have ml := heap_lt hqb
        have HQ := Lib.hid hqb
        have OKS := Lib.hid hok
        obtain ⟨L0, hL0⟩ : ∃ L0, showW (l.take i) = L0 := ⟨_, rfl⟩
        rw [hL0] at W3 SW
        obtain ⟨k1, hk1⟩ : ∃ k1, k + 1 = k1 := ⟨_, rfl⟩
        have wr1 : IntKind.i64.wrap ((k : Int) + 1) = (k1 : Int) := by rw [IntKind.wrap_i64]; omega
        have hkk1 : k ≤ k1 := by omega
        have hkk2 : k1 ≤ 6 := by omega
        have hkk3 : (k1 : Int) ≤ 6 := by omega
        have hkk4 : (k : Int) ≤ (k1 : Int) := by omega
        obtain ⟨ch, hch⟩ : ∃ ch, lettersL.getD k 0 = ch := ⟨_, rfl⟩
        have EX : ({ data := #[32, 77, 76, 81, 67, 90] } : ByteArray).extract k k1 = ba [ch] := by
          have h := ba_sub lettersL k k1
          have h2 : (lettersL.take k1).drop k = [ch] := by
            rw [← hk1, take_sub (by show k < 6; omega), hch]
          rw [h2] at h
          exact h
        rw [hch] at SW
        obtain ⟨r1, r2, r3, r4, r5⟩ := W3.out.ready [ch] (by simp)
        have O := Lib.hid r1
        have Y := Lib.hid r2
        have Z := Lib.hid r3
        have BB := Lib.hid r4
        have X := Lib.hid r5
        have KDH := Lib.hid KD
        clear r1 r2 r3 r4 r5 hc hs ST hqb hok hL0 hk1 hch KD
        go_wp2_with (at_builtin; refine wpList_rs strT rfl (.tmp 21) (.tmp 28) rfl rfl rfl O.out Y.out Z.out BB.out ?_)
        intro v9 w9 hO9 hg9 hown9
        obtain ⟨A9, c9, rfl, hW⟩ := W3.out.push (w9 := w9) (by omega) (Nat.le_trans X.out.size hg9.size) X.out hO9 hg9
        have W9 := Lib.hid hW
        have hq9 : w9.heap[q]? = some (.cells (sgA ⟨(k : Int), (x0, y0), (x1, y1), (x2, y2)⟩) 42 (0, 0)) := by
          rw [(Keep.grown hg9).block q (Nat.lt_of_lt_of_le ml X.out.size) (fun e => NQ5.out q e rfl)]
          exact X.out.heapAt HQ.out
        have NQ9 : Hid (∀ kk, (Value.slice A9 (k5 + 1) c9).ownBlock = some kk → kk ≠ q) := Lib.hid (fun kk hkk e => by
          rcases hown9 with h | h
          · exact NQ5.out kk (by rw [← h]; exact hkk) e
          · rw [h] at hkk; have := X.out.size; simp at hkk; omega)
        have HQ9 := Lib.hid hq9
        have n0 : w9.cell? ⟨q, 0, none⟩ = some (.int .i64 (k : Int)) := (heap_cell hq9 0).trans rfl
        have nl := heap_lt hq9
        have ND := Lib.hid (need_any (k : Int) w9 (HI.out.ext W9.out.ext) (by have := KDH.out; omega))
        obtain ⟨m, hm⟩ : ∃ m, needL (k : Int) = m := ⟨_, rfl⟩
        have hm3 : m ≤ 3 := by rw [← hm]; exact needL_le _
        have hm3' : (m : Int) ≤ 3 := by omega
        rw [hm] at ND SW
        obtain ⟨PS, hPS⟩ : ∃ PS, ptsOf ⟨(k : Int), (x0, y0), (x1, y1), (x2, y2)⟩ m = PS := ⟨_, rfl⟩
        have SP : Hid (∀ wx, wx.heap[q]? = some (.cells (sgA ⟨(k : Int), (x0, y0), (x1, y1), (x2, y2)⟩) 42 (0, 0)) → Sl ptR wx (.slice (some ⟨q, 1, none⟩) m 3) PS) := Lib.hid (fun wx h => by rw [← hPS]; exact seg_pts h OKS.out hm3)
        have PL : Hid (PS.length = m) := Lib.hid (by rw [← hPS]; exact ptsOf_len _ hm3)
        rw [hPS] at SW
        clear hO9 hg9 hown9 hW W3 O Y Z BB X hq9 hm hPS HQ NQ5 m0 ml hw3 hq
        go_wp2_with fail
        refine ND.out.mono ?_
        rintro e wa ⟨rfl, hEa⟩
        have WA := Lib.hid (W9.out.extW hEa)
        have QA := Lib.hid (hEa.heapAt HQ9.out)
        clear hEa ND W9 HQ9 n0 nl
        go_wp2_with fail
        go_loopw [5, 36] (fun t5 t36 wr => ∃ (j k6 : Nat) (A6 : Option Addr) (c6 : Nat), j ≤ m ∧ k6 = k5 + 1 + 2 * j ∧ t5 = .slice A6 k6 c6 ∧ t36 = .int .i64 (j : Int) ∧ Hid (WR B w wr A6 k6 c6 (L0 ++ [[ch]] ++ (PS.take j).flatMap ptW) ∧ wr.heap[q]? = some (.cells (sgA ⟨(k : Int), (x0, y0), (x1, y1), (x2, y2)⟩) 42 (0, 0)) ∧ ∀ kk, (Value.slice A6 k6 c6).ownBlock = some kk → kk ≠ q)) (fun _ t36 _ => m - (intOf t36).toNat)
        case atStart => exact ⟨0, _, A9, c9, by omega, rfl, rfl, rfl, Lib.hid ⟨by simpa using WA.out, QA.out, NQ9.out⟩⟩
        case round =>
          obtain ⟨j, k6, A6, c6, hj, hk6, rfl, rfl, SI⟩ := hrel
          have hk6b : k6 ≤ 29000 := by omega
          have HK6 := Lib.hid hk6
          clear hk6
          by_cases hjm : j < m
          · have hjm' : (j : Int) < (m : Int) := by omega
            obtain ⟨b9, o9, e9, hb9, _, hcp⟩ := (SP.out wr SI.out.2.1).at hjm
            simp only [Option.some.injEq, Addr.mk.injEq, and_true] at e9
            obtain ⟨rfl, rfl⟩ := e9
            obtain ⟨⟨x, y⟩, hp⟩ : ∃ p, PS.getD j (0, 0) = p := ⟨_, rfl⟩
            have h0 : wr.cell? ⟨q, 1 + j * 2, none⟩ = some (.int .i64 x) := by
              have := hcp 0 (by decide); rw [show ptR.no = (0, 0) from rfl, hp] at this; exact this
            have h1 : wr.cell? ⟨q, 1 + (j * 2 + 1), none⟩ = some (.int .i64 y) := by
              have := hcp 1 (by decide); rw [show ptR.no = (0, 0) from rfl, hp] at this; exact this
            have PT : Hid ((PS.take (j + 1)).flatMap ptW = (PS.take j).flatMap ptW ++ [textA x, textA y]) := Lib.hid (by
              rw [ptsW_take (by rw [PL.out]; exact hjm), hp]; rfl)
            obtain ⟨w5, hw5⟩ : ∃ w5, wr.alloc (.cells #[.int .i64 x, .int .i64 y] 39) = w5 := ⟨_, rfl⟩
            obtain ⟨p, hpz⟩ : ∃ p, wr.heap.size = p := ⟨_, rfl⟩
            have hpb : w5.heap[p]? = some (.cells #[.int .i64 x, .int .i64 y] 39 (0, 0)) := by rw [← hw5, ← hpz]; exact heap_alloc_new wr _
            have pl := heap_lt hpb
            have d0 : ∀ g, (w5.ext g).cell? ⟨p, 0, none⟩ = some (.int .i64 x) := fun g => (cellE g pl).trans ((heap_cell hpb 0).trans rfl)
            have d1 : ∀ g, (w5.ext g).cell? ⟨p, 1, none⟩ = some (.int .i64 y) := fun g => (cellE g pl).trans ((heap_cell hpb 1).trans rfl)
            have E5 : Hid (Ext wr w5) := Lib.hid (by rw [← hw5]; exact (Ext.refl _).alloc _)
            have T1 : Hid (∀ wx, Ext w5 wx → Calls Tryd.prog 23 #[.int .i64 x] wx fun e w' => e = .returned (.string (ba (textA x))) ∧ Ext wx w') := Lib.hid (fun wx hx => TX.out x _ ((SI.out.1.ext.trans E5.out).trans hx))
            have T2 : Hid (∀ wx, Ext w5 wx → Calls Tryd.prog 23 #[.int .i64 y] wx fun e w' => e = .returned (.string (ba (textA y))) ∧ Ext wx w') := Lib.hid (fun wx hx => TX.out y _ ((SI.out.1.ext.trans E5.out).trans hx))
            have W6 : Hid (∀ w6, Ext w5 w6 → WR B w w6 A6 k6 c6 (L0 ++ [[ch]] ++ (PS.take j).flatMap ptW) ∧ w6.heap[q]? = some (.cells (sgA ⟨(k : Int), (x0, y0), (x1, y1), (x2, y2)⟩) 42 (0, 0)) ∧ ∀ kk, (Value.slice A6 k6 c6).ownBlock = some kk → kk ≠ q) := Lib.hid (fun w6 hE6 => ⟨SI.out.1.extW (E5.out.trans hE6), (E5.out.trans hE6).heapAt SI.out.2.1, SI.out.2.2⟩)
            obtain ⟨sx, hsx⟩ : ∃ sx, textA x = sx := ⟨_, rfl⟩
            obtain ⟨sy, hsy⟩ : ∃ sy, textA y = sy := ⟨_, rfl⟩
            have lx : sx.length ≤ 17 := by rw [← hsx]; exact textA_len x
            have ly : sy.length ≤ 17 := by rw [← hsy]; exact textA_len y
            rw [hsx, hsy] at PT
            rw [hsx] at T1
            rw [hsy] at T2
            clear hcp hp hpb hsx hsy hb9
            go_wp2_with fail
            have PUT := fun wx (h : Ext w5 wx) => W6.out wx h
            refine region_flow 8 [43, 46, 47] (fun t v => match t with | 43 => v = .string (ba sx) | 46 => v = .string (ba sy) | 47 => ∃ g, v = .slice (some ⟨g, 0, none⟩) 2 2 | _ => False) (fun t v w' => match t with | 47 => ∃ g, v = .slice (some ⟨g, 0, none⟩) 2 2 ∧ Sl strR w' v [sx, sy] | _ => True) (by kernel_rfl) (by kernel_rfl) ?hq ?hu ?hR ?h
            case hq => intro t v h; split at h <;> simp_all
            case hu => intro t h; split at h <;> simp_all [undef]
            case hR =>
              intro t v w w' h1 h2 h3
              split at h2
              · obtain ⟨g, e, h⟩ := h2; exact ⟨g, e, h.ext h3⟩
              · trivial
            case h =>
              dsimp only [List.take, List.drop]
              iterate 3 (refine Flow.plain rfl rfl ?_; go_big_quiet_step (fail); refine wpQuiet_nil ?_)
              refine Flow.call Tryd.call23 [.int .i64 x] rfl rfl rfl ⟨_, rfl⟩ (fun wx hx hf => (T1.out wx hx).mono ?_) ?_
              · rintro e w' ⟨rfl, hE⟩
                exact ⟨_, rfl, hE, rfl, trivial⟩
              rintro v rfl
              simp only [Act.put, List.setIfInBounds_toArray, List.set_cons_zero, List.set_cons_succ]
              iterate 2 (refine Flow.plain rfl rfl ?_; go_big_quiet_step (fail); refine wpQuiet_nil ?_)
              refine Flow.call Tryd.call23 [.int .i64 y] rfl rfl rfl ⟨_, rfl⟩ (fun wx hx hf => (T2.out wx hx).mono ?_) ?_
              · rintro e w' ⟨rfl, hE⟩
                exact ⟨_, rfl, hE, rfl, trivial⟩
              rintro v rfl
              simp only [Act.put, List.setIfInBounds_toArray, List.set_cons_zero, List.set_cons_succ]
              refine Flow.make 47 rfl rfl rfl ⟨.slice (some ⟨0, 0, none⟩) 2 2, 0, rfl⟩ (fun wx hx hf => ⟨.slice (some ⟨wx.heap.size, 0, none⟩) 2 2, wx.alloc (.cells #[.string (ba sx), .string (ba sy)] 9), by kernel_rfl, (Ext.refl wx).alloc _, ⟨_, rfl⟩, ⟨_, rfl, (W6.out wx hx).1.ready2 sx sy (by omega) (by omega) |>.2.1⟩⟩) ?_
              rintro _ ⟨g5, rfl⟩
              simp only [Act.put, List.setIfInBounds_toArray, List.set_cons_zero, List.set_cons_succ]
              refine Flow.nil fun w6 hx6 hf => ?_
              obtain ⟨g6, e6, hY6⟩ := hf 47 (by simp) ⟨g5, rfl⟩
              have e7 : (Value.slice (some ⟨g5, 0, none⟩) 2 2) = .slice (some ⟨g6, 0, none⟩) 2 2 := e6
              simp only [Value.slice.injEq, Option.some.injEq, Addr.mk.injEq, and_true] at e7
              subst e7
              have hY7 : Sl strR w6 (.slice (some ⟨g5, 0, none⟩) 2 2) [sx, sy] := hY6
              have WQ := Lib.hid (W6.out w6 hx6)
              have O := Lib.hid WQ.out.1.own
              have Y := Lib.hid hY7
              have Z : Hid ((L0 ++ [[ch]] ++ (PS.take j).flatMap ptW).length + ([sx, sy] : List (List UInt8)).length ≤ 1000000) := Lib.hid (by rw [WQ.out.1.len]; simp; omega)
              have BB : Hid (B ≤ w6.heap.size) := Lib.hid (by have := WQ.out.1.ext.size; have := HB.out; omega)
              have Q6 := Lib.hid WQ.out.2.1
              have NQ6 := Lib.hid WQ.out.2.2
              clear hY6 hY7 hf e6 hx6 d0 d1 T1 T2 SI E5 pl hw5 hpz h0 h1 W6 PUT
              go_wp2_with (at_builtin; refine wpList_rs strT rfl (.tmp 40) (.tmp 47) rfl rfl rfl O.out Y.out Z.out BB.out ?_)
              intro v9 w9 hO9 hg9 hown9
              rw [show L0 ++ [ch] :: ((PS.take j).flatMap ptW ++ [sx, sy]) = L0 ++ [[ch]] ++ (PS.take j).flatMap ptW ++ [sx, sy] by simp] at hO9
              obtain ⟨A9, c9, rfl, hW⟩ := WQ.out.1.push2 (w9 := w9) (by omega) (Ext.refl _) hO9 hg9
              have ql6 := heap_lt Q6.out
              have R : Hid (WR B w w9 A9 (k6 + 2) c9 (L0 ++ [[ch]] ++ (PS.take (j + 1)).flatMap ptW) ∧ w9.heap[q]? = some (.cells (sgA ⟨(k : Int), (x0, y0), (x1, y1), (x2, y2)⟩) 42 (0, 0)) ∧ ∀ kk, (Value.slice A9 (k6 + 2) c9).ownBlock = some kk → kk ≠ q) := Lib.hid (by
                refine ⟨by rw [PT.out, ← List.append_assoc]; exact hW, ?_, fun kk hkk e => ?_⟩
                · rw [(Keep.grown hg9).block q ql6 (fun e => NQ6.out q e rfl)]
                  exact Q6.out
                · rcases hown9 with h | h
                  · exact NQ6.out kk (by rw [← h]; exact hkk) e
                  · rw [h] at hkk; simp at hkk; omega)
              clear hO9 hg9 hown9 hW O Y Z BB Q6 NQ6 ql6 WQ
              go_wp2
              go_roundw
              case rel => exact ⟨j + 1, k6 + 2, A9, c9, by omega, by have := HK6.out; omega, rfl, by go_num, R⟩
              case measure => simp [intOf]; omega
          · have hjm' : ¬ (j : Int) < (m : Int) := by omega
            have R : Hid (WR B w wr A6 k6 c6 (showW (l.take (i + 1)))) := Lib.hid (by
              have h := SI.out.1
              rw [show PS.take j = PS from List.take_of_length_le (by rw [PL.out]; omega)] at h
              rw [SW.out]; exact h)
            clear SI
            go_wp2
            go_roundw
            case rel => exact ⟨i + 1, k6, A6, c6, by omega, rfl, by go_num, R⟩
            case measure => simp [intOf]; omega
      · have hlt' : ¬ (i : Int) < (n : Int) := by omega
        have W9 : Hid (WR B w wr A5 k5 c5 (showW l)) := Lib.hid (by
          have h := ST.out
          rw [List.take_of_length_le (by rw [← HN.out]; omega)] at h
          exact h)
        clear ST
        have JN : Hid (Calls Tryd.prog 24 #[.slice A5 k5 c5, .string { data := #[32] }] wr fun e w' => e = .returned (.string (ba (Lib.join (showW l) [32]))) ∧ Ext wr w') := Lib.hid (by
          have hsl := W9.out.own.sl
          have hlen := W9.out.len
          cases k5 with
          | zero =>
            refine (Tryd.strings_Join_none A5 c5 { data := #[32] } wr).mono ?_
            rintro e w' ⟨rfl, rfl⟩
            rw [List.eq_nil_of_length_eq_zero hlen]
            exact ⟨rfl, Ext.refl _⟩
          | succ k5 =>
            obtain ⟨bk, o, rfl, hbk, _⟩ := sl_word hsl (i := 0) (by omega)
            have hcap : k5 + 1 ≤ c5 := by
              obtain ⟨A', cap, e, h2, _⟩ := hsl
              simp only [Value.slice.injEq] at e
              obtain ⟨_, _, rfl⟩ := e
              omega
            have hd : ∀ x : List UInt8, (ba x).data.toList = x := ba_data
            have hmap : ((showW l).map ba).map (·.data.toList) = showW l := by
              rw [List.map_map]
              conv => rhs; rw [← List.map_id (showW l)]
              apply List.map_congr_left
              intro x _
              exact ba_data x
            have hJ := Tryd.strings_Join bk o c5 ((showW l).map ba) { data := #[32] } wr (fun j x hj => by
                rw [List.getElem?_map, Option.map_eq_some_iff] at hj
                obtain ⟨y, hy, rfl⟩ := hj
                have hjl := (List.getElem?_eq_some_iff.1 hy).1
                obtain ⟨b2, o2, e2, _, hc2⟩ := sl_word hsl (i := j) (by omega)
                simp only [Option.some.injEq, Addr.mk.injEq, and_true] at e2
                obtain ⟨rfl, rfl⟩ := e2
                rw [hc2, List.getD_eq_getElem?_getD, hy]; rfl) hbk (by rw [List.length_map, hlen]; omega) (by rw [List.length_map, hlen]; exact hcap) (by
                rw [hmap]
                have h1 := join_len_le (showW l) 17 (showW_short l)
                have h2 : (({ data := #[32] } : ByteArray)).data.toList = [32] := rfl
                rw [h2]
                omega)
            rw [List.length_map, hlen, hmap] at hJ
            refine hJ.mono ?_
            rintro e w' ⟨rfl, hb⟩
            exact ⟨rfl, ext_of_below hb⟩)
        have E9 := Lib.hid W9.out.ext
        clear W9
        go_wp2_with fail
        refine JN.out.mono ?_
        rintro e w2 ⟨rfl, hE2⟩
        have E2 := Lib.hid (E9.out.trans hE2)
        clear hE2 JN
        go_wp2
        go_ret2
        exact ⟨by rw [SH.out] <;> rfl, E2.out⟩
  · have SH : Hid (showT l = []) := Lib.hid (by unfold showT; rw [if_neg (by rw [HT.out]; exact h0)])
    have hne : (T == 0) = false := by simpa using h0
    go_enter Tryd.func12, Tryd.ntmps12
    go_wp2_with fail
    refine CK.out.mono ?_
    rintro e w1 ⟨rfl, hE1⟩
    have E1 := Lib.hid hE1
    clear hE1 CK
    go_wp2
    go_ret2
    exact ⟨by rw [SH.out] <;> rfl, E1.out⟩
end Go.Proofs.YtakebbphielbfaaDoor
