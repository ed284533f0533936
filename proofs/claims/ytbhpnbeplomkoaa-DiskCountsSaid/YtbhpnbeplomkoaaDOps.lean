import Derived.Test.YtbhpnbeplomkoaaDAwake
namespace Go.Proofs.Ytbhpnbeplomkoaa
open Go.RowKit
set_option linter.unusedVariables false
set_option linter.unusedSimpArgs false

/-- one call of a script -/
structure OpV where
  kind : Int
  nn : Int
  fill : Nat
  short : Int
  KA : Option Addr
  kn : Nat
  kc : Nat
  torn : Int
  cut : Int
def opCells (o : OpV) : List Value := [.int .i64 o.kind, .int .i64 o.nn, .int .u8 (o.fill : Int), .int .i64 o.short, .slice o.KA o.kn o.kc, .int .i64 o.torn, .int .i64 o.cut]
def okO (o : OpV) : Prop := (-9223372036854775808 ≤ o.kind ∧ o.kind ≤ 9223372036854775807) ∧ (-9223372036854775808 ≤ o.nn ∧ o.nn ≤ 9223372036854775807) ∧ o.fill < 256 ∧ o.kn ≤ 9223372036854775807
/-- a script in memory -/
def OpsAt (w : World) (v : Value) (n : Nat) : Prop :=
  ∃ A c, v = .slice A n c ∧ n ≤ c ∧ c ≤ 9223372036854775807 ∧ (0 < n → ∃ b off, A = some ⟨b, off, none⟩ ∧ b < w.heap.size ∧ ∀ i, i < n → ∃ o, okO o ∧ ∀ j, j < 7 → w.cell? ⟨b, off + (i * 7 + j), none⟩ = (opCells o)[j]?)

theorem OpsAt.ext {w w' : World} {v : Value} {n : Nat} (h : OpsAt w v n) (he : Ext w w') : OpsAt w' v n := by
  obtain ⟨A, c, e, h1, h2, h3⟩ := h
  refine ⟨A, c, e, h1, h2, fun h0 => ?_⟩
  obtain ⟨b, off, e1, e2, h4⟩ := h3 h0
  refine ⟨b, off, e1, Nat.lt_of_lt_of_le e2 he.size, fun i hi => ?_⟩
  obtain ⟨o, ho, hc⟩ := h4 i hi
  exact ⟨o, ho, fun j hj => (he.cell e2).trans (hc j hj)⟩

theorem OpsAt.at {w : World} {A : Option Addr} {n c : Nat} (h : OpsAt w (.slice A n c) n) {i : Nat} (hi : i < n) :
    ∃ b off o, A = some ⟨b, off, none⟩ ∧ b < w.heap.size ∧ okO o ∧ w.cell? ⟨b, off + i * 7, none⟩ = some (.int .i64 o.kind) ∧ w.cell? ⟨b, off + (i * 7 + 1), none⟩ = some (.int .i64 o.nn) ∧ w.cell? ⟨b, off + (i * 7 + 2), none⟩ = some (.int .u8 (o.fill : Int)) ∧
      w.cell? ⟨b, off + (i * 7 + 3), none⟩ = some (.int .i64 o.short) ∧ w.cell? ⟨b, off + (i * 7 + 4), none⟩ = some (.slice o.KA o.kn o.kc) ∧ w.cell? ⟨b, off + (i * 7 + 5), none⟩ = some (.int .i64 o.torn) ∧ w.cell? ⟨b, off + (i * 7 + 6), none⟩ = some (.int .i64 o.cut) := by
  obtain ⟨A', c', e, _, _, h3⟩ := h
  simp only [Value.slice.injEq, true_and] at e
  obtain ⟨rfl, rfl⟩ := e
  obtain ⟨b, off, e1, e2, h4⟩ := h3 (by omega)
  obtain ⟨o, ho, hc⟩ := h4 i hi
  exact ⟨b, off, o, e1, e2, ho, hc 0 (by omega), hc 1 (by omega), hc 2 (by omega), hc 3 (by omega), hc 4 (by omega), hc 5 (by omega), hc 6 (by omega)⟩

set_option maxRecDepth 100000 in
set_option maxHeartbeats 6400000 in
theorem small_any (v : Value) (N : Nat) (w : World) (h : OpsAt w v N) :
    Calls Try.prog 12 #[v, .int .i64 60] w fun e w' => (e = .returned (.bool true) ∧ N ≤ 60 ∨ e = .returned (.bool false)) ∧ Ext w w' := by
  have P := Lib.hid h
  obtain ⟨X, c, rfl, hc1, hc2, _⟩ := h
  go_enter Try.func12, Try.ntmps12
  go_wp2
  go_loopw [9] (fun t9 wr => ∃ i : Nat, i ≤ N ∧ t9 = .int .i64 (i : Int) ∧ Hid (Ext w wr)) (fun t9 _ => N - (intOf t9).toNat)
  case atStart => exact ⟨0, by omega, rfl, Lib.hid (Ext.refl _)⟩
  case round =>
    obtain ⟨i, hi, rfl, ST⟩ := hrel
    by_cases hlt : i < N
    · have hlt' : (i : Int) < (N : Int) := by omega
      obtain ⟨b, off, o, rfl, hbs, ho, c0, c1, c2, c3, c4, c5, c6⟩ := (P.out.ext ST.out).at hlt
      obtain ⟨_, _, _, ho4⟩ := ho
      by_cases hk : (100 : Int) < (o.kn : Int)
      · go_wp2
        go_ret
        exact ⟨.inr rfl, ST.out.alloc _⟩
      · have hk' : decide ((100 : Int) < (o.kn : Int)) = false := by simpa using hk
        go_wp2
        go_roundw
        case rel => exact ⟨i + 1, by omega, by go_num, Lib.hid (ST.out.alloc _)⟩
        case measure => simp [intOf]; omega
    · have hlt' : ¬ (i : Int) < (N : Int) := by omega
      by_cases h60 : N ≤ 60
      · have h60' : (N : Int) ≤ 60 := by omega
        go_wp2
        go_ret
        exact ⟨.inl rfl, ST.out⟩
      · have h60' : decide ((N : Int) ≤ 60) = false := by simp; omega
        go_wp2
        go_ret
        exact ⟨rfl, ST.out⟩

end Go.Proofs.Ytbhpnbeplomkoaa
