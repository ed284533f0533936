import Derived.Test.YtblfplkocljlgaaRows
import Derived.Test.YtblfplkocljlgaaTByt
namespace Go.Proofs.Ytblfplkocljlgaa
open Go.RowKit
set_option linter.unusedVariables false
set_option linter.unusedSimpArgs false

/-- a pixel: red, green, blue, alpha -/
abbrev Px := Nat × Nat × Nat × Nat
def okP (p : Px) : Prop := p.1 ≤ 255 ∧ p.2.1 ≤ 255 ∧ p.2.2.1 ≤ 255 ∧ p.2.2.2 ≤ 255
def cellsP (κ : IntKind) (p : Px) : List Value := [.int κ (p.1 : Int), .int κ (p.2.1 : Int), .int κ (p.2.2.1 : Int), .int κ (p.2.2.2 : Int)]
def valP (κ : IntKind) (p : Px) : Value := .agg #[.int κ (p.1 : Int), .int κ (p.2.1 : Int), .int κ (p.2.2.1 : Int), .int κ (p.2.2.2 : Int)]
/-- is it right? -/
def rightP (p : Px) : Bool := decide (p.1 ≤ p.2.2.2) && decide (p.2.1 ≤ p.2.2.2) && decide (p.2.2.1 ≤ p.2.2.2)
def noP : Px := (0, 0, 0, 0)

/-- a slice of pixels, in memory -/
def Pix (κ : IntKind) (w : World) (v : Value) (l : List Px) : Prop :=
  ∃ (A : Option Addr) (cap : Nat), v = .slice A l.length cap ∧ l.length ≤ cap ∧ cap ≤ 9223372036854775807 ∧ (A = none → cap = 0) ∧ (∀ i, okP (l.getD i noP)) ∧
    (0 < l.length → ∃ b off, A = some ⟨b, off, none⟩ ∧ b < w.heap.size ∧ ∀ i, i < l.length → ∀ j, j < 4 → w.cell? ⟨b, off + (i * 4 + j), none⟩ = (cellsP κ (l.getD i noP))[j]?)

theorem Pix.ext {κ : IntKind} {w w' : World} {v : Value} {l : List Px} (h : Pix κ w v l) (he : Ext w w') : Pix κ w' v l := by
  obtain ⟨A, cap, h1, h2, h3, h4, h5, h6⟩ := h
  refine ⟨A, cap, h1, h2, h3, h4, h5, fun hn => ?_⟩
  obtain ⟨b, off, e1, e2, e3⟩ := h6 hn
  exact ⟨b, off, e1, Nat.lt_of_lt_of_le e2 he.size, fun i hi j hj => by rw [he.cell e2]; exact e3 i hi j hj⟩

theorem Pix.len {κ : IntKind} {w : World} {A : Option Addr} {n c : Nat} {l : List Px} (h : Pix κ w (.slice A n c) l) : n = l.length := by
  obtain ⟨_, _, e, _⟩ := h
  simp only [Value.slice.injEq] at e
  exact e.2.1

/-- one pixel, cell by cell -/
theorem Pix.at {κ : IntKind} {w : World} {A : Option Addr} {n c : Nat} {l : List Px} (h : Pix κ w (.slice A n c) l) {i : Nat} (hi : i < n) :
    ∃ b off r g u a, A = some ⟨b, off, none⟩ ∧ b < w.heap.size ∧ l.getD i noP = (r, g, u, a) ∧ (r ≤ 255 ∧ g ≤ 255 ∧ u ≤ 255 ∧ a ≤ 255) ∧
      w.cell? ⟨b, off + i * 4, none⟩ = some (.int κ (r : Int)) ∧ w.cell? ⟨b, off + (i * 4 + 1), none⟩ = some (.int κ (g : Int)) ∧ w.cell? ⟨b, off + (i * 4 + 2), none⟩ = some (.int κ (u : Int)) ∧ w.cell? ⟨b, off + (i * 4 + 3), none⟩ = some (.int κ (a : Int)) := by
  have hn := h.len
  obtain ⟨A', cap, e, _, _, _, hb, hc⟩ := h
  simp only [Value.slice.injEq] at e
  obtain ⟨rfl, _, _⟩ := e
  obtain ⟨b, off, e1, e2, e3⟩ := hc (by omega)
  have hi' : i < l.length := by omega
  have e4 := e3 i hi'
  have e5 := hb i
  obtain ⟨⟨r, g, u, a⟩, hp⟩ : ∃ p, l.getD i noP = p := ⟨_, rfl⟩
  rw [hp] at e4 e5
  exact ⟨b, off, r, g, u, a, e1, e2, hp, e5, by simpa [cellsP] using e4 0 (by omega), by simpa [cellsP] using e4 1 (by omega), by simpa [cellsP] using e4 2 (by omega), by simpa [cellsP] using e4 3 (by omega)⟩

theorem colorRight_any (r g u a : Nat) (w : World) (hb : r ≤ 255 ∧ g ≤ 255 ∧ u ≤ 255 ∧ a ≤ 255) :
    Calls Try.prog 37 #[.agg #[.int .u8 (r : Int), .int .u8 (g : Int), .int .u8 (u : Int), .int .u8 (a : Int)]] w fun e w' => e = .returned (.bool (rightP (r, g, u, a))) ∧ Ext w w' := by
  obtain ⟨h1, h2, h3, h4⟩ := hb
  go_enter Try.func37, Try.ntmps37
  go_wp2
  go_ret
  refine ⟨ret_bool ?_, (Ext.refl w).alloc _⟩
  unfold rightP
  rw [← Bool.decide_and, ← Bool.decide_and, decide_eq_decide]
  dsimp only
  omega

theorem wrong_any (r g u a : Nat) (w : World) (hb : r ≤ 255 ∧ g ≤ 255 ∧ u ≤ 255 ∧ a ≤ 255) :
    Calls Try.prog 36 #[.agg #[.int .u8 (r : Int), .int .u8 (g : Int), .int .u8 (u : Int), .int .u8 (a : Int)]] w fun e w' => e = .returned (.bool (!rightP (r, g, u, a))) ∧ Ext w w' := by
  have C := Lib.hid (fun wx => colorRight_any r g u a wx hb)
  go_enter Try.func36, Try.ntmps36
  go_wp2_with fail
  refine (C.out _).mono ?_
  rintro e w1 ⟨rfl, g1, rfl⟩
  go_wp2
  go_ret
  exact ⟨rfl, ((Ext.refl w).alloc _).ext g1⟩

def sideB (n : Int) : Bool := decide (1 ≤ n ∧ n ≤ 256)

theorem side_any (n : Int) (w : World) (h1 : -9223372036854775808 ≤ n) (h2 : n ≤ 9223372036854775807) :
    Calls Try.prog 38 #[.int .i64 n] w fun e w' => e = .returned (.bool (sideB n)) ∧ w' = w := by
  by_cases h : 1 ≤ n
  · go_enter Try.func38, Try.ntmps38
    go_wp2
    go_ret
    exact ⟨ret_bool (by unfold sideB; rw [decide_eq_decide]; omega), rfl⟩
  · go_enter Try.func38, Try.ntmps38
    go_wp2
    go_ret
    exact ⟨ret_bool (by unfold sideB; simp; omega), rfl⟩

/-- where the first pixel stands that is not right -/
def firstBad : Nat → List Px → Int
  | _, [] => -1
  | i, p :: l => if rightP p then firstBad (i + 1) l else (i : Int)

theorem firstBad_all (l : List Px) : ∀ i, firstBad i l = -1 ↔ ∀ p ∈ l, rightP p = true := by
  induction l with
  | nil => intro i; simp [firstBad]
  | cons p l ih =>
    intro i
    simp only [firstBad]
    cases hp : rightP p with
    | true => rw [if_pos rfl, ih]; simp [hp]
    | false =>
      simp only [Bool.false_eq_true, if_false]
      constructor
      · intro h; omega
      · intro h; have := h p (by simp); rw [hp] at this; cases this

theorem firstBad_ge (l : List Px) : ∀ i, firstBad i l = -1 ∨ 0 ≤ firstBad i l := by
  induction l with
  | nil => intro i; simp [firstBad]
  | cons p l ih =>
    intro i
    simp only [firstBad]
    split
    · exact ih _
    · exact .inr (Int.natCast_nonneg _)

def allRight (l : List Px) : Bool := l.all rightP

theorem drop_cons {α : Type} (l : List α) (i : Nat) (d : α) (hi : i < l.length) : l.drop i = l.getD i d :: l.drop (i + 1) := by
  rw [List.getD_eq_getElem?_getD, List.getElem?_eq_getElem hi]
  exact List.drop_eq_getElem_cons hi

set_option maxRecDepth 100000 in
set_option maxHeartbeats 1600000 in
theorem indexFunc_any (v : Value) (l : List Px) (w : World) (hl : Pix .u8 w v l) :
    Calls Try.prog 49 #[v, .func (.func 36) #[] #[]] w fun e w' => e = .returned (.int .i64 (firstBad 0 l)) ∧ Ext w w' := by
  have P := Lib.hid hl
  obtain ⟨A, cap, rfl, hn, hcap, _⟩ := hl
  obtain ⟨N, hN⟩ : ∃ N, l.length = N := ⟨_, rfl⟩
  rw [hN] at P hn
  rw [hN]
  have HN := Lib.hid hN
  clear hN
  have hN2 : N ≤ 9223372036854775807 := by omega
  go_enter Try.func49, Try.ntmps49
  go_wp2
  go_loopw [8] (fun t8 wr => ∃ i : Nat, i ≤ N ∧ t8 = .int .i64 (i : Int) ∧ Hid (firstBad 0 l = firstBad i (l.drop i) ∧ Ext w wr)) (fun t8 _ => N - (intOf t8).toNat)
  case atStart => exact ⟨0, by omega, rfl, Lib.hid ⟨by simp, Ext.refl w⟩⟩
  case round =>
    obtain ⟨i, hi, rfl, HI⟩ := hrel
    by_cases hlt : i < N
    · have hlt' : (i : Int) < (N : Int) := by omega
      obtain ⟨b, off, r, g, u, a, rfl, hbs, hp, hpb, c0, c1, c2, c3⟩ := (P.out.ext HI.out.2).at hlt
      have HP := Lib.hid (And.intro hp hpb)
      have HD := Lib.hid (drop_cons l i noP (by have := HN.out; omega))
      clear hp hpb
      by_cases hr : rightP (r, g, u, a) = true
      · have HS : Hid (firstBad 0 l = firstBad (i + 1) (l.drop (i + 1))) := Lib.hid (by
          rw [HI.out.1, HD.out, HP.out.1, firstBad, if_pos hr])
        have hr' : (!rightP (r, g, u, a)) = false := by rw [hr]; rfl
        have HW := Lib.hid (fun wx => wrong_any r g u a wx HP.out.2)
        rw [hr'] at HW
        clear hr hr'
        go_wp2_with fail
        refine (HW.out _).mono ?_
        rintro e w1 ⟨rfl, g1, rfl⟩
        go_wp2
        go_roundw
        case rel => exact ⟨i + 1, by omega, by go_num, Lib.hid ⟨HS.out, HI.out.2.ext g1⟩⟩
        case measure => simp [intOf]; omega
      · have HS : Hid (firstBad 0 l = (i : Int)) := Lib.hid (by
          rw [HI.out.1, HD.out, HP.out.1, firstBad, if_neg hr])
        have hr' : (!rightP (r, g, u, a)) = true := by simpa using hr
        have HW := Lib.hid (fun wx => wrong_any r g u a wx HP.out.2)
        rw [hr'] at HW
        clear hr hr'
        go_wp2_with fail
        refine (HW.out _).mono ?_
        rintro e w1 ⟨rfl, g1, rfl⟩
        go_wp2
        go_ret
        exact ⟨ret_int HS.out.symm, HI.out.2.ext g1⟩
    · have hlt' : ¬ (i : Int) < (N : Int) := by omega
      have HS : Hid (firstBad 0 l = -1) := Lib.hid (by
        rw [HI.out.1, List.drop_eq_nil_of_le (by have := HN.out; omega)]; rfl)
      go_wp2
      go_ret
      exact ⟨ret_int HS.out.symm, HI.out.2⟩

theorem containsFunc_any (v : Value) (l : List Px) (w : World) (hl : Pix .u8 w v l) :
    Calls Try.prog 39 #[v, .func (.func 36) #[] #[]] w fun e w' => e = .returned (.bool (!allRight l)) ∧ Ext w w' := by
  have C := Lib.hid (indexFunc_any v l w hl)
  have HA : Hid (decide (0 ≤ firstBad 0 l) = !allRight l) := Lib.hid (by
    have h1 := firstBad_all l 0
    have h2 := firstBad_ge l 0
    have h3 : allRight l = true ↔ ∀ p ∈ l, rightP p = true := by unfold allRight; simp
    cases ha : allRight l with
    | true => have := h1.2 (h3.1 ha); simp; omega
    | false =>
      have : ¬ firstBad 0 l = -1 := fun e => by have := h3.2 (h1.1 e); rw [ha] at this; cases this
      simp; omega)
  generalize firstBad 0 l = x at *
  go_enter Try.func39, Try.ntmps39
  go_wp2_with fail
  refine C.out.mono ?_
  rintro e w1 ⟨rfl, hE⟩
  have E := Lib.hid hE
  clear hE
  go_wp2
  go_ret
  exact ⟨ret_bool HA.out, E.out⟩

end Go.Proofs.Ytblfplkocljlgaa
