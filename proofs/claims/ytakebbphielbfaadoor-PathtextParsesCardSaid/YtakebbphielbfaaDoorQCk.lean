import Derived.Test.YtakebbphielbfaaDoorQRe
import Derived.Laws.StructEq
namespace Go.Proofs.YtakebbphielbfaaDoor
open Go.RowKit
set_option linter.unusedVariables false
set_option linter.unusedSimpArgs false
set_option maxRecDepth 100000
set_option maxHeartbeats 6400000

/-- points in memory -/
def ptR : Rp Pt where
  n := 2
  cells := fun p => [.int .i64 p.1, .int .i64 p.2]
  no := (0, 0)
  ok := fun p => i64 p.1 ∧ i64 p.2
  len := fun _ => rfl
  nok := by unfold i64; decide
  pos := by decide
  one := fun x u hu => by simp at hu; rcases hu with h | h <;> subst h <;> rfl

theorem fin_any (a : Int) (w : World) : Calls Tryd.prog 31 #[.int .i64 a] w fun e w' => e = .returned (.bool (decide (inR a))) ∧ Ext w w' := by
  by_cases h : inR a
  · rw [decide_eq_true h]; exact in_yes a w h
  · rw [decide_eq_false h]; exact in_no a w h

theorem pin_any (x y : Int) (w : World) : Calls Tryd.prog 30 #[.agg #[.int .i64 x, .int .i64 y]] w fun e w' => e = .returned (.bool (decide (inP (x, y)))) ∧ Ext w w' := by
  have F1 := Lib.hid (fun wx => fin_any x wx)
  have F2 := Lib.hid (fun wx => fin_any y wx)
  by_cases h1 : inR x
  · rw [decide_eq_true h1] at F1
    by_cases h2 : inR y
    · rw [decide_eq_true h2] at F2
      have HP : Hid (decide (inP (x, y)) = true) := Lib.hid (decide_eq_true ⟨h1, h2⟩)
      rw [HP.out]
      clear h1 h2
      go_enter Tryd.func30, Tryd.ntmps30
      go_wp2_with fail
      refine (F1.out _).mono ?_
      rintro e w1 ⟨rfl, hE1⟩
      have m1 : w1.cell? ⟨w.heap.size, 1, none⟩ = some (.int .i64 y) := by rw [hE1.cell (by simp [go_sem])]; simp [go_sem]
      have E1 := Lib.hid (((Ext.refl w).alloc _).trans hE1)
      clear hE1
      go_wp2_with fail
      refine (F2.out _).mono ?_
      rintro e w2 ⟨rfl, hE2⟩
      have E2 := Lib.hid (E1.out.trans hE2)
      clear hE2
      go_wp2
      go_ret
      exact ⟨rfl, E2.out⟩
    · rw [decide_eq_false h2] at F2
      have HP : Hid (decide (inP (x, y)) = false) := Lib.hid (decide_eq_false (fun h => h2 h.2))
      rw [HP.out]
      clear h1 h2
      go_enter Tryd.func30, Tryd.ntmps30
      go_wp2_with fail
      refine (F1.out _).mono ?_
      rintro e w1 ⟨rfl, hE1⟩
      have m1 : w1.cell? ⟨w.heap.size, 1, none⟩ = some (.int .i64 y) := by rw [hE1.cell (by simp [go_sem])]; simp [go_sem]
      have E1 := Lib.hid (((Ext.refl w).alloc _).trans hE1)
      clear hE1
      go_wp2_with fail
      refine (F2.out _).mono ?_
      rintro e w2 ⟨rfl, hE2⟩
      have E2 := Lib.hid (E1.out.trans hE2)
      clear hE2
      go_wp2
      go_ret
      exact ⟨rfl, E2.out⟩
  · rw [decide_eq_false h1] at F1
    have HP : Hid (decide (inP (x, y)) = false) := Lib.hid (decide_eq_false (fun h => h1 h.1))
    rw [HP.out]
    clear h1
    go_enter Tryd.func30, Tryd.ntmps30
    go_wp2_with fail
    refine (F1.out _).mono ?_
    rintro e w1 ⟨rfl, hE1⟩
    have E1 := Lib.hid (((Ext.refl w).alloc _).trans hE1)
    clear hE1
    go_wp2
    go_ret
    exact ⟨rfl, E1.out⟩

theorem out_any (x y : Int) (w : World) : Calls Tryd.prog 29 #[.agg #[.int .i64 x, .int .i64 y]] w fun e w' => e = .returned (.bool (!decide (inP (x, y)))) ∧ Ext w w' := by
  have F1 := Lib.hid (fun wx => pin_any x y wx)
  cases hb : decide (inP (x, y)) with
  | true =>
    rw [hb] at F1
    clear hb
    go_enter Tryd.func29, Tryd.ntmps29
    go_wp2_with fail
    refine (F1.out _).mono ?_
    rintro e w1 ⟨rfl, hE1⟩
    have E1 := Lib.hid (((Ext.refl w).alloc _).trans hE1)
    clear hE1
    go_wp2
    go_ret
    exact ⟨rfl, E1.out⟩
  | false =>
    rw [hb] at F1
    clear hb
    go_enter Tryd.func29, Tryd.ntmps29
    go_wp2_with fail
    refine (F1.out _).mono ?_
    rintro e w1 ⟨rfl, hE1⟩
    have E1 := Lib.hid (((Ext.refl w).alloc _).trans hE1)
    clear hE1
    go_wp2
    go_ret
    exact ⟨rfl, E1.out⟩

/-- is a point out of room among these? -/
def anyOut (l : List Pt) : Bool := l.any (fun p => !decide (inP p))
theorem anyOut_at {l : List Pt} {i : Nat} (h : i < l.length) (h2 : decide (inP (l.getD i (0, 0))) = false) : anyOut l = true := by
  rw [List.getD_eq_getElem?_getD, List.getElem?_eq_getElem h] at h2
  exact List.any_eq_true.2 ⟨l[i], List.getElem_mem h, by simpa using h2⟩
theorem anyOut_no {l : List Pt} (h : ∀ i, i < l.length → decide (inP (l.getD i (0, 0))) = true) : anyOut l = false := by
  unfold anyOut
  rw [List.any_eq_false]
  intro x hx
  obtain ⟨i, hi, rfl⟩ := List.getElem_of_mem hx
  have := h i hi
  rw [List.getD_eq_getElem?_getD, List.getElem?_eq_getElem hi] at this
  simpa using this

theorem index_any (A : Option Addr) (n c : Nat) (l : List Pt) (w : World) (hS : Sl ptR w (.slice A n c) l) (hn : n ≤ 100) :
    Calls Tryd.prog 41 #[.slice A n c, .func (.func 29) #[] #[]] w fun e w' => (∃ i : Int, e = .returned (.int .i64 i) ∧ (0 ≤ i ↔ anyOut l = true)) ∧ Ext w w' := by
  have HN := Lib.hid hS.len
  have S := Lib.hid hS
  have OU := Lib.hid (fun x y wx => out_any x y wx)
  clear hS
  go_enter Tryd.func41, Tryd.ntmps41
  go_wp2
  go_loopw [8] (fun t8 wr => ∃ i : Nat, i ≤ n ∧ t8 = .int .i64 (i : Int) ∧ Hid ((∀ j, j < i → decide (inP (l.getD j (0, 0))) = true) ∧ Ext w wr)) (fun t8 _ => n - (intOf t8).toNat)
  case atStart => exact ⟨0, by omega, rfl, Lib.hid ⟨fun j hj => by omega, Ext.refl _⟩⟩
  case round =>
    obtain ⟨i, hi, rfl, ST⟩ := hrel
    by_cases hlt : i < n
    · have hlt' : (i : Int) < (n : Int) := by omega
      obtain ⟨b, off, rfl, hb, hok, hc⟩ := (S.out.ext ST.out.2).at hlt
      obtain ⟨⟨x, y⟩, hp⟩ : ∃ p, l.getD i (0, 0) = p := ⟨_, rfl⟩
      have h0 : wr.cell? ⟨b, off + i * 2, none⟩ = some (.int .i64 x) := by
        have := hc 0 (by decide); rw [show ptR.no = (0, 0) from rfl, hp] at this; exact this
      have h1 : wr.cell? ⟨b, off + (i * 2 + 1), none⟩ = some (.int .i64 y) := by
        have := hc 1 (by decide); rw [show ptR.no = (0, 0) from rfl, hp] at this; exact this
      have O1 := Lib.hid (OU.out x y wr)
      have HP := Lib.hid hp
      clear hc hok hp
      cases hin : decide (inP (x, y)) with
      | true =>
        rw [hin] at O1
        have NX : Hid (∀ j, j < i + 1 → decide (inP (l.getD j (0, 0))) = true) := Lib.hid (fun j hj => by
          by_cases e : j = i
          · rw [e, HP.out]; exact hin
          · exact ST.out.1 j (by omega))
        clear hin
        go_wp2_with fail
        refine O1.out.mono ?_
        rintro e w1 ⟨rfl, hE1⟩
        have E1 : Hid ((∀ j, j < i + 1 → decide (inP (l.getD j (0, 0))) = true) ∧ Ext w w1) := Lib.hid ⟨NX.out, ST.out.2.trans hE1⟩
        clear hE1 O1 ST NX
        go_wp2
        go_roundw
        case rel => exact ⟨i + 1, by omega, by go_num, E1⟩
        case measure => simp [intOf]; omega
      | false =>
        rw [hin] at O1
        have AO : Hid (anyOut l = true) := Lib.hid (anyOut_at (i := i) (by rw [← HN.out]; exact hlt) (by rw [HP.out]; exact hin))
        clear hin
        go_wp2_with fail
        refine O1.out.mono ?_
        rintro e w1 ⟨rfl, hE1⟩
        have E1 := Lib.hid (ST.out.2.trans hE1)
        clear hE1 O1 ST
        go_wp2
        go_ret
        exact ⟨⟨_, rfl, ⟨fun _ => AO.out, fun _ => by omega⟩⟩, E1.out⟩
    · have hlt' : ¬ (i : Int) < (n : Int) := by omega
      have AO : Hid (anyOut l = false) := Lib.hid (anyOut_no (fun j hj => ST.out.1 j (by have := HN.out; omega)))
      have E1 := Lib.hid ST.out.2
      clear ST
      go_wp2
      go_ret
      exact ⟨⟨_, rfl, ⟨fun h => absurd h (by decide), fun h => by rw [AO.out] at h; cases h⟩⟩, E1.out⟩

theorem contains_any (A : Option Addr) (n c : Nat) (l : List Pt) (w : World) (hS : Sl ptR w (.slice A n c) l) (hn : n ≤ 100) :
    Calls Tryd.prog 27 #[.slice A n c, .func (.func 29) #[] #[]] w fun e w' => e = .returned (.bool (anyOut l)) ∧ Ext w w' := by
  have IX := Lib.hid (index_any A n c l w hS hn)
  clear hS
  go_enter Tryd.func27, Tryd.ntmps27
  go_wp2_with fail
  refine IX.out.mono ?_
  rintro e w1 ⟨⟨i, rfl, hiff⟩, hE⟩
  have HF := Lib.hid hiff
  have E1 := Lib.hid hE
  clear hE hiff IX
  by_cases hi : 0 ≤ i
  · have AO := Lib.hid (HF.out.1 hi)
    go_wp2
    go_ret
    exact ⟨by rw [AO.out]; simp [hi], E1.out⟩
  · have AO : Hid (anyOut l = false) := Lib.hid (by
      cases h : anyOut l with
      | false => rfl
      | true => exact absurd (HF.out.2 h) hi)
    go_wp2
    go_ret
    exact ⟨by rw [AO.out]; simp [hi], E1.out⟩
end Go.Proofs.YtakebbphielbfaaDoor
