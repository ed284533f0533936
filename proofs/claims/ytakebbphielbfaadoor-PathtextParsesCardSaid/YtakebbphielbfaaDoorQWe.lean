import Derived.Test.YtakebbphielbfaaDoorQWd
namespace Go.Proofs.YtakebbphielbfaaDoor
open Go.RowKit
set_option linter.unusedVariables false
set_option linter.unusedSimpArgs false
set_option maxRecDepth 100000
set_option maxHeartbeats 6400000

/-- where the word under way begins -/
structure WBeg (s : List UInt8) (i : Nat) (b : Int) : Prop where
  h : (b = -1 ∧ (wat (s.take i)).2 = []) ∨ (∃ k : Nat, b = (k : Int) ∧ k < i ∧ (wat (s.take i)).2 = (s.take i).drop k ∧ (wat (s.take i)).2 ≠ [])

theorem wbeg_fl {s : List UInt8} {i : Nat} {b : Int} (h : WBeg s i b) : (b = -1 ∧ flush (wat (s.take i)).2 = []) ∨ ∃ k : Nat, b = (k : Int) ∧ k < i ∧ flush (wat (s.take i)).2 = [(s.take i).drop k] := by
  rcases h.h with ⟨h1, h2⟩ | ⟨k, h1, h2, h3, h4⟩
  · exact .inl ⟨h1, by rw [h2]; rfl⟩
  · exact .inr ⟨k, h1, h2, by rw [flush, if_neg h4, h3]⟩

theorem wlen_le {s : List UInt8} (i : Nat) : (wat (s.take i)).1.length ≤ s.length := by
  have h := wInv (s.take i)
  have h1 := sumLen_ge (l := (wat (s.take i)).1) fun w hw => (h.ok w hw).1
  have h2 := h.len
  have h3 : (s.take i).length ≤ s.length := by simp; omega
  omega

/-- end, whether a word is under way or not -/
theorem end_any {B po pb ps : Nat} {w : World} {s : List UInt8} {l : List (List UInt8)} {i : Nat} {b : Int} {F : List (List UInt8)} (h : WSt B po pb ps w s b l) (hF : (b = -1 ∧ F = []) ∨ ∃ k : Nat, b = (k : Int) ∧ k < i ∧ F = [(s.take i).drop k]) (hi : i ≤ s.length) (hs : s.length ≤ 100000) (hl : l.length ≤ 100000) :
    Calls Tryd.prog 17 #[.int .i64 (i : Int), .pointer (some ⟨pb, 0, none⟩), .pointer (some ⟨po, 0, none⟩), .pointer (some ⟨ps, 0, none⟩)] w fun e w' => e = .returned (.tuple #[]) ∧ WSt B po pb ps w' s (-1) (l ++ F) ∧ Keep w w' (fun k => k = po ∨ k = pb ∨ B ≤ k) := by
  rcases hF with ⟨rfl, rfl⟩ | ⟨k, rfl, hk, rfl⟩
  · rw [List.append_nil]; exact end_no i h
  · exact end_yes i k h (by omega) hi hs hl

theorem wst_cells {B po pb ps : Nat} {w : World} {s : List UInt8} {b : Int} {l : List (List UInt8)} (h : WSt B po pb ps w s b l) : w.cell? ⟨ps, 0, none⟩ = some (.string (ba s)) ∧ w.cell? ⟨pb, 0, none⟩ = some (.int .i64 b) ∧ w.frozen? ⟨pb, 0, none⟩ = false ∧ pb < w.heap.size ∧ ps < w.heap.size :=
  ⟨(heap_cell h.hs 0).trans rfl, (heap_cell h.hb 0).trans rfl, heap_thaw h.hb 0, heap_lt h.hb, heap_lt h.hs⟩

theorem wst_set {B po pb ps : Nat} {w : World} {s : List UInt8} {b b' : Int} {l : List (List UInt8)} (h : WSt B po pb ps w s b l) : WSt B po pb ps (w.setCell ⟨pb, 0, none⟩ (.int .i64 b')) s b' l ∧ Keep w (w.setCell ⟨pb, 0, none⟩ (.int .i64 b')) (fun k => k = po ∨ k = pb ∨ B ≤ k) := by
  obtain ⟨⟨v, hv, hO⟩, hb, hs, a1, a2, a3, a4, a5, a6, a7⟩ := h
  refine ⟨⟨⟨v, by rw [setCell_heap a5]; exact hv, hO.set a2⟩, ?_, by rw [setCell_heap (Ne.symm a7)]; exact hs, a1, a2, a3, by simpa [World.setCell] using a4, a5, a6, a7⟩, Keep.setCell.mono (fun x hx => .inr (.inl hx))⟩
  rw [heap_setCell_same w pb 0 _ 3 _ hb]; rfl

theorem WSt.ext {B po pb ps : Nat} {w w' : World} {s : List UInt8} {b : Int} {l : List (List UInt8)} (h : WSt B po pb ps w s b l) (he : Ext w w') : WSt B po pb ps w' s b l := by
  obtain ⟨⟨v, hv, hO⟩, hb, hs, a1, a2, a3, a4, a5, a6, a7⟩ := h
  exact ⟨⟨v, he.heapAt hv, hO.ext he⟩, he.heapAt hb, he.heapAt hs, a1, a2, a3, Nat.le_trans a4 he.size, a5, a6, a7⟩

theorem take_sub {s : List UInt8} {i : Nat} (h : i < s.length) : (s.take (i + 1)).drop i = [s.getD i 0] := by
  rw [List.take_succ_eq_append_getElem h, List.drop_append_of_le_length (by simp; omega), List.drop_eq_nil_of_le (by simp; omega), List.nil_append, List.getD_eq_getElem?_getD, List.getElem?_eq_getElem h]; rfl
theorem take_more {s : List UInt8} {i k : Nat} (h : i < s.length) (hk : k ≤ i) : (s.take (i + 1)).drop k = (s.take i).drop k ++ [s.getD i 0] := by
  rw [List.take_succ_eq_append_getElem h, List.drop_append_of_le_length (by simp; omega), List.getD_eq_getElem?_getD, List.getElem?_eq_getElem h]; rfl

theorem sepB_nat (c : UInt8) : sepB c = (decide (c.toNat = 32) || decide (c.toNat = 44) || decide (c.toNat = 10)) := by
  unfold sepB
  have e : ∀ k : UInt8, (c == k) = decide (c.toNat = k.toNat) := by
    intro k
    by_cases hk : c = k
    · subst hk; simp
    · have : ¬ c.toNat = k.toNat := fun e => hk (UInt8.toNat_inj.1 e)
      simp [hk, this]
  rw [e, e, e]; rfl

theorem words_any (s : List UInt8) (w : World) (hs : s.length ≤ 60000) :
    Calls Tryd.prog 7 #[.string (ba s)] w fun e w' => ∃ v, e = .returned v ∧ OwnR strR 9 w.heap.size w' v (wordsL s) ∧ Ext w w' := by
  have sz : (ba s).size = s.length := ba_size s
  obtain ⟨n, hn⟩ : ∃ n, w.heap.size = n := ⟨_, rfl⟩
  have HN := Lib.hid hn
  obtain ⟨N, hN⟩ : ∃ N, s.length = N := ⟨_, rfl⟩
  have HS := Lib.hid hN
  rw [hN] at sz hs
  have ENDC := Lib.hid (fun wx b l i F (h : WSt (n + 3) (n + 1) (n + 2) n wx s b l) hF hi hl => end_any (i := i) (F := F) h hF hi (by rw [hN]; omega) hl)
  have BY : Hid (∀ i, (h : i < (ba s).size) → (ba s)[i] = s.getD i 0) := Lib.hid (fun i h => by
    have : (ba s)[i] = s[i]'(by rw [ba_size] at h; exact h) := rfl
    rw [this, List.getD_eq_getElem?_getD, List.getElem?_eq_getElem (by rw [ba_size] at h; exact h)]; rfl)
  have LET := Lib.hid (fun c wx => let_any c wx)
  have W0 : Hid (WSt (n + 3) (n + 1) (n + 2) n (((w.alloc (.cells #[.string (ba s)] 9)).alloc (.cells #[.slice none 0 0] 23)).alloc (.cells #[.int .i64 (-1)] 3)) s (-1) []) := Lib.hid (by
    subst hn
    have z1 : (w.alloc (.cells #[.string (ba s)] 9)).heap.size = w.heap.size + 1 := by simp [go_sem]
    have z2 : ((w.alloc (.cells #[.string (ba s)] 9)).alloc (.cells #[.slice none 0 0] 23)).heap.size = w.heap.size + 2 := by simp [go_sem]
    have g1 : (w.alloc (.cells #[.string (ba s)] 9)).heap[w.heap.size]? = some (.cells #[.string (ba s)] 9 (0, 0)) := heap_alloc_new w _
    have g2 : ((w.alloc (.cells #[.string (ba s)] 9)).alloc (.cells #[.slice none 0 0] 23)).heap[w.heap.size + 1]? = some (.cells #[.slice none 0 0] 23 (0, 0)) := by rw [← z1]; exact heap_alloc_new _ _
    have g3 : (((w.alloc (.cells #[.string (ba s)] 9)).alloc (.cells #[.slice none 0 0] 23)).alloc (.cells #[.int .i64 (-1)] 3)).heap[w.heap.size + 2]? = some (.cells #[.int .i64 (-1)] 3 (0, 0)) := by rw [← z2]; exact heap_alloc_new _ _
    refine ⟨⟨.slice none 0 0, ?_, OwnR.nil _ _ _ _⟩, ?_, ?_, by omega, by omega, by omega, by simp [go_sem], by omega, by omega, by omega⟩
    · exact Ext.heapAt ((Ext.refl _).alloc _) g2
    · exact g3
    · exact Ext.heapAt (((Ext.refl _).alloc _).alloc _) g1)
  clear hN
  go_enter Tryd.func7, Tryd.ntmps7
  go_wp2
  go_loopw [11] (fun t11 wr => ∃ (i : Nat) (b : Int), i ≤ N ∧ t11 = .int .i64 (i : Int) ∧ Hid (WBeg s i b ∧ WSt (n + 3) (n + 1) (n + 2) n wr s b (wat (s.take i)).1 ∧ Keep w wr (fun k => n ≤ k))) (fun t11 _ => N - (intOf t11).toNat)
  case atStart => exact ⟨0, -1, by omega, rfl, Lib.hid ⟨⟨.inl ⟨rfl, rfl⟩⟩, W0.out, Keep.ofExt ((((Ext.refl w).alloc _).alloc _).alloc _) _⟩⟩
  case round =>
    obtain ⟨i, b, hi, rfl, ST⟩ := hrel
    by_cases hlt : i < N
    · have hlt' : (i : Int) < (N : Int) := by omega
      have hby := BY.out i (by omega)
      obtain ⟨c, hc⟩ : ∃ c, s.getD i 0 = c := ⟨_, rfl⟩
      rw [hc] at hby
      obtain ⟨c1, c2, f2, l2, l1⟩ := wst_cells ST.out.2.1
      have WT := Lib.hid (wat_take (s := s) (i := i) (by rw [HS.out]; exact hlt))
      rw [hc] at WT
      have CS := Lib.hid (sepB_nat c)
      have LT := Lib.hid (LET.out c)
      obtain ⟨m, hm⟩ : ∃ m, c.toNat = m := ⟨_, rfl⟩
      rw [hm] at CS LT
      have FL := Lib.hid (wbeg_fl ST.out.1)
      have LL : Hid ((wat (s.take i)).1.length ≤ 60000) := Lib.hid (Nat.le_trans (wlen_le i) (by rw [HS.out]; exact hs))
      by_cases hsep : m = 32 ∨ m = 44 ∨ m = 10
      · have SEP : sepB c = true := by rw [CS.out]; simpa [or_assoc] using hsep
        have EN := Lib.hid (ENDC.out wr b _ i _ ST.out.2.1 FL.out (by rw [HS.out]; omega) (by have := LL.out; omega))
        have NX : Hid (wat (s.take (i + 1)) = ((wat (s.take i)).1 ++ flush (wat (s.take i)).2, [])) := Lib.hid (by rw [WT.out, wst, if_pos SEP])
        have KP := Lib.hid ST.out.2.2
        clear WT CS LT FL LL SEP ST ENDC
        rcases hsep with h | h | h <;> subst h
        all_goals (
          go_wp2_with fail
          refine EN.out.mono ?_
          rintro e w1 ⟨rfl, hw1, hk1⟩
          have R : Hid (WBeg s (i + 1) (-1) ∧ WSt (n + 3) (n + 1) (n + 2) n w1 s (-1) (wat (s.take (i + 1))).1 ∧ Keep w w1 (fun k => n ≤ k)) := Lib.hid ⟨⟨.inl ⟨rfl, by rw [NX.out]⟩⟩, by rw [NX.out]; exact hw1, KP.out.trans hk1 (fun x _ hx => by omega)⟩
          clear hw1 hk1 EN NX KP
          go_wp2
          go_roundw
          case rel => exact ⟨i + 1, -1, by omega, by go_num, R⟩
          case measure => simp [intOf]; omega)
      · have SEP : sepB c = false := by rw [CS.out]; simpa [or_assoc, and_assoc] using hsep
        have e1 : ((m : Int) == 32) = false := by simp; omega
        have e2 : ((m : Int) == 44) = false := by simp; omega
        have e3 : ((m : Int) == 10) = false := by simp; omega
        clear CS hsep
        cases hl : letB c with
        | true =>
          have EN := Lib.hid (fun wx (hx : Ext wr wx) => ENDC.out wx b _ i _ (ST.out.2.1.ext hx) FL.out (by rw [HS.out]; omega) (by have := LL.out; omega))
          have KP := Lib.hid ST.out.2.2
          rw [hl] at LT
          have NX : Hid (wat (s.take (i + 1)) = ((wat (s.take i)).1 ++ flush (wat (s.take i)).2 ++ [[c]], [])) := Lib.hid (by rw [WT.out, wst, if_neg (by simp [SEP]), if_pos hl])
          have LF : Hid (((wat (s.take i)).1 ++ flush (wat (s.take i)).2).length ≤ 60001) := Lib.hid (by
            have := LL.out
            have h2 : (flush (wat (s.take i)).2).length ≤ 1 := by unfold flush; split <;> simp
            rw [List.length_append]; omega)
          have EX := ba_sub s i (i + 1)
          rw [take_sub (by rw [HS.out]; exact hlt), hc] at EX
          obtain ⟨L0, hL0⟩ : ∃ L0, (wat (s.take i)).1 ++ flush (wat (s.take i)).2 = L0 := ⟨_, rfl⟩
          rw [hL0] at EN NX LF
          clear WT FL LL SEP ST ENDC hl hL0
          go_wp2_with fail
          refine (LT.out _).mono ?_
          rintro e w1 ⟨rfl, hE1⟩
          have E1 := Lib.hid hE1
          clear hE1 LT
          go_wp2_with fail
          refine (EN.out w1 E1.out).mono ?_
          rintro e w2 ⟨rfl, hw2, hk2⟩
          obtain ⟨⟨v, hv, hO⟩, hbb, hss, a1, a2, a3, a4, a5, a6, a7⟩ := hw2
          obtain ⟨A0, cap0, rfl⟩ := hO.slice
          have c2 : w2.cell? ⟨n + 1, 0, none⟩ = some (.slice A0 L0.length cap0) := (heap_cell hv 0).trans rfl
          have c3 : w2.cell? ⟨n, 0, none⟩ = some (.string (ba s)) := (heap_cell hss 0).trans rfl
          have l2 := heap_lt hv
          have l3 := heap_lt hss
          have ZZ : Hid (L0.length + ([[c]] : List (List UInt8)).length ≤ 1000000) := Lib.hid (by have := LF.out; simp; omega)
          have HO := Lib.hid hO
          have H1 := Lib.hid (And.intro hv (And.intro hbb hss))
          have A4 := Lib.hid a4
          have K2 : Hid (Keep w w2 (fun k => n ≤ k)) := Lib.hid ((KP.out.trans (Keep.ofExt E1.out (fun k => n ≤ k)) (fun _ _ x => x)).trans hk2 (fun x _ hx => by omega))
          clear hv hbb hss hO a4 hk2 EN KP
          obtain ⟨i1, hi1⟩ : ∃ i1, i + 1 = i1 := ⟨_, rfl⟩
          have wr1 : IntKind.i64.wrap ((i : Int) + 1) = (i1 : Int) := by rw [IntKind.wrap_i64]; omega
          rw [hi1] at EX
          have hi2 : i ≤ i1 := by omega
          have hi3 : i1 ≤ N := by omega
          have HI1 := Lib.hid hi1
          clear hi1
          go_wp2_with fail
          go_region_law (
            refine step_rs (base := n + 3) (v := .slice A0 L0.length cap0) (x := .slice (some ⟨w2.heap.size, 0, none⟩) 1 1) (m := [[c]]) (l := L0) strT rfl _ _ rfl (by simp [Act.eval, Act.put]) (by simp [Act.eval, Act.put]) (HO.out.ext (by (repeat (first | exact Ext.refl _ | apply Ext.drew' | apply Ext.alloc | apply Ext.ext)))) (sl_one (by simp) (by show [c].length ≤ 100000; simp) (by intro j hj; rcases j with _ | j <;> (first | (simp [go_sem, strR, EX]; done) | (exfalso; have : strR.n = 1 := rfl; omega)))) ZZ.out (by have := A4.out; simp [go_sem]; omega) ?_
            intro v9 w9 hO9 hg9 hown9
            obtain ⟨A9, c9, e9⟩ := hO9.slice
            rw [show (L0 ++ [[c]]).length = L0.length + 1 by simp] at e9
            subst e9
            have K9 := Keep.grown hg9
            have nb : ∀ k, (Value.slice A0 L0.length cap0).ownBlock = some k → n + 3 ≤ k := HO.out.row
            have q1 : w9.heap[n + 1]? = some (.cells #[.slice A0 L0.length cap0] 23 (0, 0)) := by
              rw [K9.block (n + 1) (by simp [go_sem]; omega) (fun e => by have := nb (n + 1) e; omega)]
              exact Ext.heapAt (W := w2) (by (repeat (first | exact Ext.refl _ | apply Ext.drew' | apply Ext.alloc | apply Ext.ext))) H1.out.1
            have q2 : w9.heap[n + 2]? = some (.cells #[.int .i64 (-1)] 3 (0, 0)) := by
              rw [K9.block (n + 2) (by have := A4.out; simp [go_sem]; omega) (fun e => by have := nb (n + 2) e; omega)]
              exact Ext.heapAt (W := w2) (by (repeat (first | exact Ext.refl _ | apply Ext.drew' | apply Ext.alloc | apply Ext.ext))) H1.out.2.1
            have q3 : w9.heap[n]? = some (.cells #[.string (ba s)] 9 (0, 0)) := by
              rw [K9.block n (by simp [go_sem]; omega) (fun e => by have := nb n e; omega)]
              exact Ext.heapAt (W := w2) (by (repeat (first | exact Ext.refl _ | apply Ext.drew' | apply Ext.alloc | apply Ext.ext))) H1.out.2.2
            have KK : Keep w2 w9 (fun k => n ≤ k) := (Keep.ofExt (by (repeat (first | exact Ext.refl _ | apply Ext.drew' | apply Ext.alloc | apply Ext.ext))) (fun k => n ≤ k)).trans K9 (fun x _ e => by have := nb x e; omega)
            have d2 : w9.cell? ⟨n + 1, 0, none⟩ = some (.slice A0 L0.length cap0) := (heap_cell q1 0).trans rfl
            have f2 : w9.frozen? ⟨n + 1, 0, none⟩ = false := heap_thaw q1 0
            have m2 := heap_lt q1
            clear hg9 hown9 K9 nb)
          all_goals (
            have R : Hid (WBeg s (i + 1) (-1) ∧ WSt (n + 3) (n + 1) (n + 2) n (w9.setCell ⟨n + 1, 0, none⟩ (.slice A9 (L0.length + 1) c9)) s (-1) (wat (s.take (i + 1))).1 ∧ Keep w (w9.setCell ⟨n + 1, 0, none⟩ (.slice A9 (L0.length + 1) c9)) (fun k => n ≤ k)) := Lib.hid (by
              refine ⟨⟨.inl ⟨rfl, by rw [NX.out]⟩⟩, ?_, (K2.out.trans KK (fun _ _ x => x)).trans (Keep.setCell.mono (fun x hx => by omega)) (fun _ _ x => x)⟩
              rw [NX.out]
              refine ⟨⟨.slice A9 (L0.length + 1) c9, by rw [heap_setCell_same w9 (n + 1) 0 _ 23 _ q1]; rfl, hO9.set a1⟩, by rw [setCell_heap (by omega)]; exact q2, by rw [setCell_heap (by omega)]; exact q3, a1, a2, a3, by have := KK.size; have := A4.out; simp [World.setCell]; omega, a5, a6, a7⟩)
            clear hO9 q1 q2 q3 KK K2 HO H1 NX
            have hi1 := HI1.out
            subst hi1
            go_wp2
            go_roundw
            case rel => exact ⟨i + 1, -1, by omega, by go_num, R⟩
            case measure => simp [intOf]; omega)
        | false =>
          rw [hl] at LT
          have NX : Hid (wat (s.take (i + 1)) = ((wat (s.take i)).1, (wat (s.take i)).2 ++ [c])) := Lib.hid (by rw [WT.out, wst, if_neg (by simp [SEP]), if_neg (by simp [hl])])
          have TS := Lib.hid (take_sub (s := s) (i := i) (by rw [HS.out]; exact hlt))
          have TM := Lib.hid (fun k => take_more (s := s) (i := i) (k := k) (by rw [HS.out]; exact hlt))
          rw [hc] at TS TM
          clear WT FL LL SEP ENDC hl
          rcases ST.out.1.h with ⟨rfl, hcur⟩ | ⟨k, rfl, hk, hcur, hne⟩
          · have R0 := Lib.hid (fun w1 (hx : Ext wr w1) => wst_set (b' := (i : Int)) (ST.out.2.1.ext hx))
            have WC := Lib.hid (fun w1 (hx : Ext wr w1) => wst_cells (ST.out.2.1.ext hx))
            have KP := Lib.hid ST.out.2.2
            have WB : Hid (WBeg s (i + 1) (i : Int)) := Lib.hid ⟨.inr ⟨i, rfl, by omega, by rw [NX.out, hcur, TS.out]; rfl, by rw [NX.out, hcur]; simp⟩⟩
            clear ST hcur TS TM
            go_wp2_with fail
            refine (LT.out _).mono ?_
            rintro e w1 ⟨rfl, hE1⟩
            obtain ⟨b1, b2, b3, b4, b5⟩ := WC.out w1 hE1
            have R : Hid (WBeg s (i + 1) (i : Int) ∧ WSt (n + 3) (n + 1) (n + 2) n (w1.setCell ⟨n + 2, 0, none⟩ (.int .i64 (i : Int))) s (i : Int) (wat (s.take (i + 1))).1 ∧ Keep w (w1.setCell ⟨n + 2, 0, none⟩ (.int .i64 (i : Int))) (fun k => n ≤ k)) := Lib.hid
              ⟨WB.out, by rw [NX.out]; exact (R0.out w1 hE1).1, (KP.out.trans (Keep.ofExt hE1 (fun k => n ≤ k)) (fun _ _ x => x)).trans (R0.out w1 hE1).2 (fun x _ hx => by omega)⟩
            clear hE1 LT R0 WC KP WB NX
            go_wp2
            go_roundw
            case rel => exact ⟨i + 1, i, by omega, by go_num, R⟩
            case measure => simp [intOf]; omega
          · have R : Hid (∀ w1, Ext wr w1 → WBeg s (i + 1) (k : Int) ∧ WSt (n + 3) (n + 1) (n + 2) n w1 s (k : Int) (wat (s.take (i + 1))).1 ∧ Keep w w1 (fun k => n ≤ k)) := Lib.hid (fun w1 hx =>
              ⟨⟨.inr ⟨k, rfl, by omega, by rw [NX.out, hcur, TM.out k (by omega)], by rw [NX.out]; simp⟩⟩, by rw [NX.out]; exact ST.out.2.1.ext hx, ST.out.2.2.trans (Keep.ofExt hx (fun k => n ≤ k)) (fun _ _ x => x)⟩)
            have WC := Lib.hid (fun w1 (hx : Ext wr w1) => wst_cells (ST.out.2.1.ext hx))
            clear ST hcur hne TS TM NX
            go_wp2_with fail
            refine (LT.out _).mono ?_
            rintro e w1 ⟨rfl, hE1⟩
            obtain ⟨b1, b2, b3, b4, b5⟩ := WC.out w1 hE1
            have R1 := Lib.hid (R.out w1 hE1)
            clear hE1 LT R WC
            go_wp2
            go_roundw
            case rel => exact ⟨i + 1, k, by omega, by go_num, R1⟩
            case measure => simp [intOf]; omega
    · have hlt' : ¬ (i : Int) < (N : Int) := by omega
      obtain rfl : i = N := by omega
      obtain ⟨c1, c2, f2, l2, l1⟩ := wst_cells ST.out.2.1
      have FL := Lib.hid (wbeg_fl ST.out.1)
      have LL : Hid ((wat (s.take i)).1.length ≤ 60000) := Lib.hid (Nat.le_trans (wlen_le i) (by rw [HS.out]; exact hs))
      have EN := Lib.hid (ENDC.out wr b _ i _ ST.out.2.1 FL.out (by rw [HS.out]; omega) (by have := LL.out; omega))
      have KP := Lib.hid ST.out.2.2
      have TT : Hid ((wat (s.take i)).1 ++ flush (wat (s.take i)).2 = wordsL s) := Lib.hid (by rw [← HS.out, List.take_length]; rfl)
      rw [TT.out] at EN
      clear ST FL LL ENDC TT
      go_wp2_with fail
      refine EN.out.mono ?_
      rintro e w2 ⟨rfl, hw2, hk2⟩
      obtain ⟨⟨v, hv, hO⟩, hbb, hss, a1, a2, a3, a4, a5, a6, a7⟩ := hw2
      have c5 : w2.cell? ⟨n + 1, 0, none⟩ = some v := (heap_cell hv 0).trans rfl
      have FIN : Hid (OwnR strR 9 w.heap.size w2 v (wordsL s) ∧ Ext w w2) := Lib.hid ⟨by rw [HN.out]; exact hO.mono (by omega), (KP.out.trans hk2 (fun x _ hx => by omega)).ext (fun k hk hx => by have := HN.out; omega)⟩
      clear hv hbb hss hO hk2 EN KP
      go_wp2
      go_ret
      exact ⟨_, rfl, FIN.out⟩
end Go.Proofs.YtakebbphielbfaaDoor
