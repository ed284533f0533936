import Derived.Test.YtncphiphgkjflaaOwnP
import Derived.Deep.RegionHeld3
namespace Go.Proofs.Ytncphiphgkjflaa
open Go.RowKit
set_option linter.unusedVariables false
set_option linter.unusedSimpArgs false

theorem slice_nil_eq (w : World) : (binOp .eql 22 (.slice none 0 0) (.slice none 0 0)).run Try.prog w = .ok (.bool true) w := by kernel_rfl
theorem slice_some_eq (a : Addr) (n c : Nat) (w : World) : (binOp .eql 22 (.slice (some a) n c) (.slice none 0 0)).run Try.prog w = .ok (.bool false) w := by kernel_rfl

theorem own_empty {w0 w : World} (h : Ext w0 w) : OwnP .u8 40 w0.heap.size (w.alloc (.cells #[] 40)) (.slice (some ⟨w.heap.size, 0, none⟩) 0 0) [] := by
  refine ⟨?_, fun i => by simp [okP, noP]⟩
  have := World.ownsRow_lit (e := 40) (size := 4) w (#[] : Array Value) 0 h.size (by simp) (by simp)
  simpa using this

set_option maxRecDepth 100000 in
set_option maxHeartbeats 1600000 in
theorem clone_any (v : Value) (l : List Px) (w : World) (hl : Pix .u8 w v l) (hn : l.length ≤ 1000000) :
    Calls Try.prog 52 #[v] w fun e w' => ∃ v', e = .returned v' ∧ OwnP .u8 40 w.heap.size w' v' l ∧ Ext w w' := by
  have P := Lib.hid hl
  obtain ⟨X, c, rfl, h2, h3, h4, h5, h6⟩ := hl
  cases X with
  | none =>
    have hc := h4 rfl
    subst hc
    have hm : l = [] := List.eq_nil_of_length_eq_zero (by omega)
    subst hm
    have he1 := slice_nil_eq
    have he2 := slice_some_eq
    go_enter Try.func52, Try.ntmps52
    go_wp2
    go_ret
    exact ⟨_, rfl, OwnP.nil _ _ _ _, Ext.refl _⟩
  | some a =>
    clear h4 h5 h6 h2 h3
    have E := Lib.hid ((Ext.refl w).alloc (.cells #[] 40))
    have O := Lib.hid (own_empty (Ext.refl w))
    have Y := Lib.hid (P.out.ext E.out)
    have Z : Hid (([] : List Px).length + l.length ≤ 1000000) := Lib.hid (by simpa using hn)
    have he1 := slice_nil_eq
    have he2 := slice_some_eq
    go_enter Try.func52, Try.ntmps52
    go_wp2_with (at_builtin; refine wpList_pxs pxC rfl (.tmp 5) (.tmp 6) rfl rfl rfl O.out Y.out Z.out E.out.size ?_)
    intro v' w1 hO hgr _
    have O1 := Lib.hid hO
    have E1 := Lib.hid (E.out.grown hgr O.out.row)
    clear hO hgr
    go_wp2
    go_ret
    exact ⟨v', rfl, O1.out, E1.out⟩

set_option maxRecDepth 100000 in
set_option maxHeartbeats 1600000 in
theorem copied_any (W H : Int) (v : Value) (l : List Px) (w : World) (hl : Pix .u8 w v l) (hn : l.length ≤ 1000000) :
    Calls Try.prog 41 #[.agg #[.int .i64 W, .int .i64 H, v]] w fun e w' => ∃ v', e = .returned (.agg #[.int .i64 W, .int .i64 H, v']) ∧ OwnP .u8 40 w.heap.size w' v' l ∧ Ext w w' := by
  have P := Lib.hid hl
  obtain ⟨X, c, rfl, _⟩ := hl
  go_enter Try.func41, Try.ntmps41
  go_wp2_with fail
  refine (clone_any _ l _ (P.out.ext (by ((repeat (first | exact Ext.refl _ | apply Ext.alloc))))) hn).mono ?_
  rintro e w1 ⟨v', rfl, hO, g, rfl⟩
  obtain ⟨A', c', rfl⟩ := own_slice hO.1
  have O := Lib.hid hO
  clear hO
  go_wp2
  refine bodyPost_ret (v := .agg #[.int .i64 W, .int .i64 H, .slice A' l.length c']) (by simp [results, Try.results41, go_sem]) rfl ⟨_, rfl, ?_, ?_⟩
  · refine (O.out.swap (by simp) (Nat.le_refl _)).mono ?_
    simp [go_sem]
  · (repeat (first | exact Ext.refl _ | apply Ext.alloc | apply Ext.ext))

theorem refColor_any (r g u a : Nat) (w : World) (hb : r ≤ 255 ∧ g ≤ 255 ∧ u ≤ 255 ∧ a ≤ 255) :
    Calls Try.prog 22 #[.agg #[.int .u8 (r : Int), .int .u8 (g : Int), .int .u8 (u : Int), .int .u8 (a : Int)]] w fun e w' => e = .returned (.agg #[.int .i64 (r : Int), .int .i64 (g : Int), .int .i64 (u : Int), .int .i64 (a : Int)]) ∧ Ext w w' := by
  obtain ⟨h1, h2, h3, h4⟩ := hb
  go_enter Try.func22, Try.ntmps22
  go_wp2
  exact bodyPost_ret (v := .agg #[.int .i64 (r : Int), .int .i64 (g : Int), .int .i64 (u : Int), .int .i64 (a : Int)]) (by simp [results, Try.results22, go_sem]) rfl ⟨rfl, by ((repeat (first | exact Ext.refl _ | apply Ext.alloc | apply Ext.drew' | apply Ext.drewN | apply Ext.ext)))⟩

theorem refRight_any (r g u a : Nat) (w : World) (hb : r ≤ 255 ∧ g ≤ 255 ∧ u ≤ 255 ∧ a ≤ 255) :
    Calls Try.prog 33 #[.agg #[.int .i64 (r : Int), .int .i64 (g : Int), .int .i64 (u : Int), .int .i64 (a : Int)]] w fun e w' => e = .returned (.bool (rightP (r, g, u, a))) ∧ Ext w w' := by
  obtain ⟨h1, h2, h3, h4⟩ := hb
  by_cases hr : r ≤ a
  · by_cases hg : g ≤ a
    · go_enter Try.func33, Try.ntmps33
      go_wp2
      go_ret
      exact ⟨ret_bool (by simp [rightP, hr, hg]), (Ext.refl w).alloc _⟩
    · go_enter Try.func33, Try.ntmps33
      go_wp2
      go_ret
      exact ⟨ret_bool (by simp [rightP]; omega), (Ext.refl w).alloc _⟩
  · go_enter Try.func33, Try.ntmps33
    go_wp2
    go_ret
    exact ⟨ret_bool (by simp [rightP]; omega), (Ext.refl w).alloc _⟩

theorem emptyBox_any (x0 y0 x1 y1 : Int) (w : World) :
    Calls Try.prog 34 #[.agg #[.int .i64 x0, .int .i64 y0, .int .i64 x1, .int .i64 y1]] w fun e w' => e = .returned (.bool (decide (x1 ≤ x0) || decide (y1 ≤ y0))) ∧ Ext w w' := by
  by_cases h : x1 ≤ x0
  · go_enter Try.func34, Try.ntmps34
    go_wp2
    go_ret
    exact ⟨ret_bool (by simp [h]), (Ext.refl w).alloc _⟩
  · go_enter Try.func34, Try.ntmps34
    go_wp2
    go_ret
    exact ⟨ret_bool (by simp; omega), (Ext.refl w).alloc _⟩

theorem infoR : (Try.prog.info? 50).map (fun i => (i.zero, i.size, i.bytes)) = some (some (.agg #[.int .i64 0, .int .i64 0, .int .i64 0, .int .i64 0]), 4, 32) := by kernel_rfl
theorem pxR : PxT .i64 32 50 := by
  obtain ⟨i0, hi, hz0, hz1, hz2⟩ := info_parts infoR
  exact ⟨Try.underlying32, i0, hi, ⟨_, hz0, rfl⟩, hz1, by omega⟩

theorem OwnP.set {κ : IntKind} {T : TypeId} {base : Nat} {w : World} {v u : Value} {l : List Px} {g i : Nat} (h : OwnP κ T base w v l) (hg : g < base) : OwnP κ T base (w.setCell ⟨g, i, none⟩ u) v l := by
  obtain ⟨h, hb⟩ := h
  refine ⟨⟨h.1, ?_⟩, hb⟩
  rcases h.2 with h | ⟨g', c, cur, e, hb', hh, rest⟩
  · exact .inl h
  · exact .inr ⟨g', c, cur, e, hb', by rw [setCell_heap (by omega)]; exact hh, rest⟩

/-- ref, between two pixels: what it makes lies in block g -/
def RefSt (w wr : World) (g : Nat) (W H : Int) (v : Value) (l : List Px) : Prop :=
  Ext w wr ∧ g < wr.heap.size ∧ OwnP .i64 50 (g + 1) wr v l ∧ wr.cell? ⟨g, 0, none⟩ = some (.int .i64 W) ∧ wr.cell? ⟨g, 1, none⟩ = some (.int .i64 H) ∧ wr.cell? ⟨g, 2, none⟩ = some v ∧ wr.frozen? ⟨g, 2, none⟩ = false

theorem take_succ_getD {α : Type} (l : List α) (i : Nat) (d : α) (hi : i < l.length) : l.take (i + 1) = l.take i ++ [l.getD i d] := by
  rw [List.take_succ_eq_append_getElem hi, List.getD_eq_getElem?_getD, List.getElem?_eq_getElem hi]; rfl

set_option maxRecDepth 100000 in
set_option maxHeartbeats 3200000 in
theorem ref_any (W H : Int) (v : Value) (l : List Px) (w : World) (hl : Pix .u8 w v l) (hn : l.length ≤ 400) :
    Calls Try.prog 12 #[.agg #[.int .i64 W, .int .i64 H, v]] w fun e w' => ∃ v', e = .returned (.agg #[.int .i64 W, .int .i64 H, v']) ∧ OwnP .i64 50 w.heap.size w' v' l ∧ Ext w w' := by
  have P := Lib.hid hl
  obtain ⟨X, c, rfl, hc1, hc2, _⟩ := hl
  obtain ⟨N, hN⟩ : ∃ N, l.length = N := ⟨_, rfl⟩
  rw [hN] at P hn hc1
  rw [hN]
  have HN := Lib.hid hN
  clear hN
  have F1 : Hid (∀ wr, Ext ((w.alloc (.cells #[.int .i64 W, .int .i64 H, .slice X N c] 24)).alloc (.cells #[.int .i64 0, .int .i64 0, .slice none 0 0] 34)) wr → wr.cell? ⟨w.heap.size + 1, 0, none⟩ = some (.int .i64 0) ∧ wr.cell? ⟨w.heap.size + 1, 1, none⟩ = some (.int .i64 0) ∧ wr.cell? ⟨w.heap.size + 1, 2, none⟩ = some (.slice none 0 0) ∧
      wr.frozen? ⟨w.heap.size + 1, 0, none⟩ = false ∧ wr.frozen? ⟨w.heap.size + 1, 1, none⟩ = false ∧ wr.frozen? ⟨w.heap.size + 1, 2, none⟩ = false ∧ Ext w wr) := Lib.hid (fun wr hx => by
    have hb : w.heap.size + 1 < ((w.alloc (.cells #[.int .i64 W, .int .i64 H, .slice X N c] 24)).alloc (.cells #[.int .i64 0, .int .i64 0, .slice none 0 0] 34)).heap.size := by simp
    refine ⟨(hx.cell hb).trans ?_, (hx.cell hb).trans ?_, (hx.cell hb).trans ?_, (hx.frozen hb).trans ?_, (hx.frozen hb).trans ?_, (hx.frozen hb).trans ?_, (((Ext.refl w).alloc _).alloc _).trans hx⟩
    all_goals simp [go_sem])
  go_enter Try.func12, Try.ntmps12
  go_wp2
  go_loopw [14] (fun t14 wr => ∃ (i : Nat) (A : Option Addr) (n cc : Nat), i ≤ N ∧ t14 = .int .i64 (i : Int) ∧ Hid (RefSt ((w.alloc (.cells #[.int .i64 W, .int .i64 H, .slice X N c] 24)).alloc (.cells #[.int .i64 0, .int .i64 0, .slice none 0 0] 34)) wr (w.heap.size + 2) W H (.slice A n cc) (l.take i))) (fun t14 _ => N - (intOf t14).toNat)
  case atStart =>
    refine ⟨0, none, 0, 0, by omega, rfl, Lib.hid ⟨?_, by simp, OwnP.nil _ _ _ _, by simp [go_sem], by simp [go_sem], by simp [go_sem], by simp [go_sem]⟩⟩
    (repeat (first | exact Ext.refl _ | apply Ext.alloc | apply Ext.ext))
  case round =>
    obtain ⟨i, A, n, c', hi, rfl, ST⟩ := hrel
    by_cases hlt : i < N
    · have hlt' : (i : Int) < (N : Int) := by omega
      obtain ⟨b, off, r, g, u, a, rfl, hbs, hp, hpb, c0, c1, c2, c3⟩ := P.out.at hlt
      have hE := (F1.out _ ST.out.1).2.2.2.2.2.2
      have hbw : b < wr.heap.size := Nat.lt_of_lt_of_le hbs hE.size
      rw [← hE.cell hbs] at c0 c1 c2 c3
      have HP := Lib.hid (And.intro hp hpb)
      have RC := Lib.hid (fun wx => refColor_any r g u a wx hpb)
      obtain ⟨s1, s2, s3, s4, s5, s6, s7⟩ := ST.out
      have HS : Hid (w.heap.size + 2 < wr.heap.size) := Lib.hid s2
      clear hE hp hpb s1 s3
      go_wp2
      have HX := Lib.hid (show Ext wr (wr.alloc (.cells #[.int .u8 (r : Int), .int .u8 (g : Int), .int .u8 (u : Int), .int .u8 (a : Int)] 40)) from (Ext.refl wr).alloc _)
      obtain ⟨wq, hwq⟩ : ∃ wq, wr.alloc (.cells #[.int .u8 (r : Int), .int .u8 (g : Int), .int .u8 (u : Int), .int .u8 (a : Int)] 40) = wq := ⟨_, rfl⟩
      have k0 : wq.cell? ⟨wr.heap.size, 0, none⟩ = some (.int .u8 (r : Int)) := by rw [← hwq]; simp [go_sem]
      have k1 : wq.cell? ⟨wr.heap.size, 1, none⟩ = some (.int .u8 (g : Int)) := by rw [← hwq]; simp [go_sem]
      have k2 : wq.cell? ⟨wr.heap.size, 2, none⟩ = some (.int .u8 (u : Int)) := by rw [← hwq]; simp [go_sem]
      have k3 : wq.cell? ⟨wr.heap.size, 3, none⟩ = some (.int .u8 (a : Int)) := by rw [← hwq]; simp [go_sem]
      rw [hwq] at HX ⊢
      have hz : wr.heap.size < wq.heap.size := by rw [← hwq]; simp
      have k6 : wq.cell? ⟨w.heap.size + 2, 2, none⟩ = some (.slice A n c') := (HX.out.cell s2).trans s6
      have hx : ∀ g, Ext wq (wq.ext g) := fun g => ⟨g, rfl⟩
      have u0 : ∀ g', (wq.ext g').cell? ⟨wr.heap.size, 0, none⟩ = some (.int .u8 (r : Int)) := fun g' => ((hx g').cell hz).trans k0
      have u1 : ∀ g', (wq.ext g').cell? ⟨wr.heap.size, 1, none⟩ = some (.int .u8 (g : Int)) := fun g' => ((hx g').cell hz).trans k1
      have u2 : ∀ g', (wq.ext g').cell? ⟨wr.heap.size, 2, none⟩ = some (.int .u8 (u : Int)) := fun g' => ((hx g').cell hz).trans k2
      have u3 : ∀ g', (wq.ext g').cell? ⟨wr.heap.size, 3, none⟩ = some (.int .u8 (a : Int)) := fun g' => ((hx g').cell hz).trans k3
      have u6 : ∀ g', (wq.ext g').cell? ⟨w.heap.size + 2, 2, none⟩ = some (.slice A n c') := fun g' => ((hx g').cell (by omega)).trans k6
      clear hwq k0 k1 k2 k3 k6 hx c0 c1 c2 c3 s4 s5 s6
      obtain ⟨gb, hgb⟩ : ∃ gb, wr.heap.size = gb := ⟨_, rfl⟩
      rw [hgb] at u0 u1 u2 u3 hz
      rw [hgb]
      clear hgb
      refine region_flow 5 [21, 22] (fun t v => match t with | 21 => v = .agg #[.int .i64 (r : Int), .int .i64 (g : Int), .int .i64 (u : Int), .int .i64 (a : Int)] | 22 => ∃ g, v = .slice (some ⟨g, 0, none⟩) 1 1 | _ => False) (fun t v w' => match t with | 22 => Pix .i64 w' v [(r, g, u, a)] | _ => True) (by kernel_rfl) (by kernel_rfl) ?hq ?hu ?hR ?h
      case hq => intro t v h; split at h <;> simp_all
      case hu => intro t h; split at h <;> simp_all [undef]
      case hR => intro t v w w' h1 h2 h3; split at h1 <;> first | exact Pix.ext h2 h3 | trivial
      case h =>
        dsimp only [List.take, List.drop]
        repeat (refine Flow.plain rfl rfl ?_; go_big_quiet_step (fail); refine wpQuiet_nil ?_)
        refine Flow.call Try.call22 [.agg #[.int .u8 (r : Int), .int .u8 (g : Int), .int .u8 (u : Int), .int .u8 (a : Int)]] rfl rfl rfl ?_ (fun wx hx hf => (RC.out wx).mono ?_) ?_
        · exact ⟨_, rfl⟩
        · exact fun e w' ⟨h1, h2⟩ => ⟨_, h1, h2, rfl, trivial⟩
        rintro v rfl
        simp only [Act.put, List.setIfInBounds_toArray, List.set_cons_zero, List.set_cons_succ]
        refine Flow.make 22 rfl rfl rfl ⟨.slice (some ⟨0, 0, none⟩) 1 1, 0, rfl⟩ (fun wx hx hf => ⟨.slice (some ⟨wx.heap.size, 0, none⟩) 1 1, wx.alloc (.cells #[.int .i64 (r : Int), .int .i64 (g : Int), .int .i64 (u : Int), .int .i64 (a : Int)] 50), by kernel_rfl, (Ext.refl wx).alloc _, ⟨_, rfl⟩, ?_⟩) ?_
        · refine pix_one (by simp) HP.out.2 (fun j hj => ?_)
          rw [cell_marked _ _ _ _ _ _ rfl]
          simp [cellsP]
        rintro _ ⟨g5, rfl⟩
        simp only [Act.put, List.setIfInBounds_toArray, List.set_cons_zero, List.set_cons_succ]
        refine Flow.nil fun w5 hx5 hf => ?_
        have h22 := hf 22 (by simp) ⟨g5, rfl⟩
        have Y := Lib.hid (show Pix .i64 w5 (.slice (some ⟨g5, 0, none⟩) 1 1) [(r, g, u, a)] from h22)
        clear hf h22
        have E5 := Lib.hid (HX.out.trans hx5)
        have O5 := Lib.hid (ST.out.2.2.1.ext E5.out)
        have Z5 : Hid ((l.take i).length + [(r, g, u, a)].length ≤ 1000000) := Lib.hid (by rw [List.length_take]; have := HN.out; simp; omega)
        have B5 : Hid (w.heap.size + 2 + 1 ≤ w5.heap.size) := Lib.hid (by have := E5.out.size; have := HS.out; omega)
        clear hx5
        refine wpList_pxs pxR rfl (.tmp 19) (.tmp 22) rfl rfl rfl O5.out Y.out Z5.out B5.out ?_
        intro v6 w6 hO6 hgr6 hA6
        have hn6 : (l.take i ++ [(r, g, u, a)]) = l.take (i + 1) := by rw [take_succ_getD l i noP (by have := HN.out; omega), HP.out.1]
        rw [hn6] at hO6
        obtain ⟨A6, c6, rfl⟩ := own_slice hO6.1
        obtain ⟨L6, hL6⟩ : ∃ L, (l.take (i + 1)).length = L := ⟨_, rfl⟩
        rw [hL6] at hO6
        rw [hL6]
        clear hL6
        have hrow : ∀ k, Value.ownBlock (.slice A n c') = some k → w.heap.size + 2 + 1 ≤ k := O5.out.row
        have E6 := Lib.hid ((ST.out.1.trans E5.out).grown hgr6 (fun k hk => by have := hrow k hk; simp; omega))
        have hne : Value.ownBlock (.slice A n c') ≠ some (w.heap.size + 2) := fun e => by have := hrow _ e; omega
        obtain ⟨s1, s2, s3, s4, s5, s6, s7⟩ := ST.out
        have hb2 : w.heap.size + 2 < w5.heap.size := by have := B5.out; omega
        have d2 : ∀ j, w6.cell? ⟨w.heap.size + 2, j, none⟩ = wr.cell? ⟨w.heap.size + 2, j, none⟩ := fun j => (cell_grown hgr6 hb2 hne).trans (E5.out.cell s2)
        have f2 : w6.frozen? ⟨w.heap.size + 2, 2, none⟩ = false := ((frozen_grown hgr6 hb2 hne).trans (E5.out.frozen s2)).trans s7
        have g2 : w6.cell? ⟨w.heap.size + 2, 2, none⟩ = some (.slice A n c') := (d2 2).trans s6
        have ST6 : Hid (RefSt ((w.alloc (.cells #[.int .i64 W, .int .i64 H, .slice (some ⟨b, off, none⟩) N c] 24)).alloc (.cells #[.int .i64 0, .int .i64 0, .slice none 0 0] 34)) (w6.setCell ⟨w.heap.size + 2, 2, none⟩ (.slice A6 L6 c6)) (w.heap.size + 2) W H (.slice A6 L6 c6) (l.take (i + 1))) := Lib.hid (by
          refine ⟨E6.out.setCell (by simp) _, by simp [World.setCell]; have := hgr6.size; omega, hO6.set (by simp), ?_, ?_, ?_, ?_⟩
          · have := d2 0; simp [go_sem, this, s4]
          · have := d2 1; simp [go_sem, this, s5]
          · simp [go_sem, g2]
          · simp [go_sem, f2])
        clear hO6 hgr6 hA6 hrow hne s1 s2 s3 s4 s5 s6 s7 hb2 d2 E6 O5 Y
        go_wp2
        go_roundw
        case rel => exact ⟨i + 1, A6, _, c6, by omega, by go_num, ST6⟩
        case measure => simp [intOf]; omega
    · have hlt' : ¬ (i : Int) < (N : Int) := by omega
      obtain ⟨s1, s2, s3, s4, s5, s6, s7⟩ := ST.out
      have hfull : l.take i = l := by rw [List.take_of_length_le (by have := HN.out; omega)]
      have S1 := Lib.hid s1
      have S3 := Lib.hid (hfull ▸ s3)
      clear s1 s3 hfull
      obtain ⟨y0, y1, y2, y3, y4, y5, y6⟩ := F1.out _ S1.out
      have S6 := Lib.hid y6
      clear y6
      go_wp2
      exact bodyPost_ret (v := .agg #[.int .i64 W, .int .i64 H, .slice A n c']) (by simp [results, Try.results12, go_sem, y0, y1, y2]) rfl ⟨_, rfl, (((S3.out.set (by omega)).set (by omega)).set (by omega)).mono (by omega), ((S6.out.setCell (by simp) _).setCell (by simp) _).setCell (by simp) _⟩

end Go.Proofs.Ytncphiphgkjflaa
