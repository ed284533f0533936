import Derived.Test.YtbpdjekibcbaaaaSTearL
namespace Go.Proofs.Ytbpdjekibcbaaaa
open Go.RowKit
set_option linter.unusedVariables false
set_option linter.unusedSimpArgs false

/-- one call of a script -/
structure OpV where
  kind : Int
  nn : Int
  dA : Option Addr
  dn : Nat
  dc : Nat
  dl : List Nat
  KA : Option Addr
  kn : Nat
  kc : Nat
  torn : Int
  cut : Int
def op0 : OpV := ⟨0, 0, none, 0, 0, [], none, 0, 0, 0, 0⟩
def opCells (o : OpV) : List Value := [.int .i64 o.kind, .int .i64 o.nn, .slice o.dA o.dn o.dc, .slice o.KA o.kn o.kc, .int .i64 o.torn, .int .i64 o.cut]
def okO (w : World) (o : OpV) : Prop := Bytes w (.slice o.dA o.dn o.dc) o.dl ∧ o.kn ≤ 9223372036854775807
/-- a script in memory -/
def OpsAt (w : World) (v : Value) (os : List OpV) : Prop :=
  ∃ A c, v = .slice A os.length c ∧ os.length ≤ c ∧ c ≤ 9223372036854775807 ∧ (0 < os.length → ∃ b off, A = some ⟨b, off, none⟩ ∧ b < w.heap.size ∧ ∀ i, i < os.length → okO w (os.getD i op0) ∧ ∀ j, j < 6 → w.cell? ⟨b, off + (i * 6 + j), none⟩ = (opCells (os.getD i op0))[j]?)

theorem OpsAt.ext {w w' : World} {v : Value} {os : List OpV} (h : OpsAt w v os) (he : Ext w w') : OpsAt w' v os := by
  obtain ⟨A, c, e, h1, h2, h3⟩ := h
  refine ⟨A, c, e, h1, h2, fun h0 => ?_⟩
  obtain ⟨b, off, e1, e2, h4⟩ := h3 h0
  refine ⟨b, off, e1, Nat.lt_of_lt_of_le e2 he.size, fun i hi => ?_⟩
  obtain ⟨ho, hc⟩ := h4 i hi
  exact ⟨⟨ho.1.ext he, ho.2⟩, fun j hj => (he.cell e2).trans (hc j hj)⟩

theorem OpsAt.at {w : World} {A : Option Addr} {n c : Nat} {os : List OpV} (h : OpsAt w (.slice A n c) os) {i : Nat} (hi : i < os.length) :
    ∃ b off, A = some ⟨b, off, none⟩ ∧ b < w.heap.size ∧ okO w (os.getD i op0) ∧ w.cell? ⟨b, off + i * 6, none⟩ = some (.int .i64 (os.getD i op0).kind) ∧ w.cell? ⟨b, off + (i * 6 + 1), none⟩ = some (.int .i64 (os.getD i op0).nn) ∧ w.cell? ⟨b, off + (i * 6 + 2), none⟩ = some (.slice (os.getD i op0).dA (os.getD i op0).dn (os.getD i op0).dc) ∧
      w.cell? ⟨b, off + (i * 6 + 3), none⟩ = some (.slice (os.getD i op0).KA (os.getD i op0).kn (os.getD i op0).kc) ∧ w.cell? ⟨b, off + (i * 6 + 4), none⟩ = some (.int .i64 (os.getD i op0).torn) ∧ w.cell? ⟨b, off + (i * 6 + 5), none⟩ = some (.int .i64 (os.getD i op0).cut) := by
  obtain ⟨A', c', e, _, _, h3⟩ := h
  simp only [Value.slice.injEq] at e
  obtain ⟨rfl, rfl, rfl⟩ := e
  obtain ⟨b, off, e1, e2, h4⟩ := h3 (by omega)
  obtain ⟨ho, hc⟩ := h4 i hi
  exact ⟨b, off, e1, e2, ho, hc 0 (by omega), hc 1 (by omega), hc 2 (by omega), hc 3 (by omega), hc 4 (by omega), hc 5 (by omega)⟩

set_option maxRecDepth 100000 in
set_option maxHeartbeats 6400000 in
theorem small_any (v : Value) (os : List OpV) (w : World) (h : OpsAt w v os) :
    Calls Try.prog 16 #[v, .int .i64 30] w fun e w' => (e = .returned (.bool true) ∧ os.length ≤ 30 ∧ (∀ k, k < os.length → (os.getD k op0).dn ≤ 400) ∨ e = .returned (.bool false)) ∧ Ext w w' := by
  have P := Lib.hid h
  obtain ⟨X, c, rfl, hc1, hc2, _⟩ := h
  obtain ⟨N, hN⟩ : ∃ N, os.length = N := ⟨_, rfl⟩
  have HN := Lib.hid hN
  rw [hN] at hc1 P ⊢
  clear hN
  go_enter Try.func16, Try.ntmps16
  go_wp2
  go_loopw [9] (fun t9 wr => ∃ i : Nat, i ≤ N ∧ t9 = .int .i64 (i : Int) ∧ Hid (Ext w wr ∧ ∀ k, k < i → (os.getD k op0).dn ≤ 400)) (fun t9 _ => N - (intOf t9).toNat)
  case atStart => exact ⟨0, by omega, rfl, Lib.hid ⟨Ext.refl _, fun k hk => by omega⟩⟩
  case round =>
    obtain ⟨i, hi, rfl, ST⟩ := hrel
    by_cases hlt : i < N
    · have hlt' : (i : Int) < (N : Int) := by omega
      obtain ⟨b, off, rfl, hbs, ho, c0, c1, c2, c3, c4, c5⟩ := (P.out.ext ST.out.1).at (by rw [HN.out]; exact hlt)
      obtain ⟨_, ho4⟩ := ho
      obtain ⟨o, hoo⟩ : ∃ o, os.getD i op0 = o := ⟨_, rfl⟩
      rw [hoo] at c0 c1 c2 c3 c4 c5 ho4
      have HOO := Lib.hid hoo
      clear hoo
      by_cases hd : (400 : Int) < (o.dn : Int)
      · have hd' : decide ((400 : Int) < (o.dn : Int)) = true := by simpa using hd
        go_wp2
        go_ret
        exact ⟨.inr rfl, ST.out.1.alloc _⟩
      · by_cases hk : (60 : Int) < (o.kn : Int)
        · go_wp2
          go_ret
          exact ⟨.inr rfl, ST.out.1.alloc _⟩
        · have hk' : decide ((60 : Int) < (o.kn : Int)) = false := by simpa using hk
          have hd' : decide ((400 : Int) < (o.dn : Int)) = false := by simpa using hd
          have ST2 : Hid (∀ k, k < i + 1 → (os.getD k op0).dn ≤ 400) := Lib.hid fun k hk2 => by
            by_cases e : k = i
            · subst e; rw [HOO.out]; omega
            · exact ST.out.2 k (by omega)
          go_wp2
          go_roundw
          case rel => exact ⟨i + 1, by omega, by go_num, Lib.hid ⟨ST.out.1.alloc _, ST2.out⟩⟩
          case measure => simp [intOf]; omega
    · have hlt' : ¬ (i : Int) < (N : Int) := by omega
      by_cases h60 : N ≤ 30
      · have h60' : (N : Int) ≤ 30 := by omega
        have hall : Hid (∀ k, k < N → (os.getD k op0).dn ≤ 400) := Lib.hid fun k hk => ST.out.2 k (by omega)
        go_wp2
        go_ret
        exact ⟨.inl ⟨rfl, hall.out⟩, ST.out.1⟩
      · have h60' : decide ((N : Int) ≤ 30) = false := by simp; omega
        go_wp2
        go_ret
        exact ⟨rfl, ST.out.1⟩

set_option maxRecDepth 100000 in
set_option maxHeartbeats 6400000 in
theorem new_none (n size : Int) (w : World) (h : ¬ (1 ≤ n ∧ n ≤ 4096 ∧ 16 ≤ size ∧ size ≤ 512)) :
    Calls Try.prog 11 #[.int .i64 n, .int .i64 size] w fun e w' => e = .returned (.pointer none) ∧ Ext w w' := by
  have H := Lib.hid h
  clear h
  go_enter Try.func11, Try.ntmps11
  by_cases c1 : n < 1
  · go_wp2; go_ret; exact ⟨rfl, Ext.refl w⟩
  · by_cases c2 : 4096 < n
    · go_wp2; go_ret; exact ⟨rfl, Ext.refl w⟩
    · by_cases c3 : size < 16
      · go_wp2; go_ret; exact ⟨rfl, Ext.refl w⟩
      · by_cases c4 : 512 < size
        · go_wp2; go_ret; exact ⟨rfl, Ext.refl w⟩
        · exact absurd ⟨by omega, by omega, by omega, by omega⟩ H.out

end Go.Proofs.Ytbpdjekibcbaaaa
