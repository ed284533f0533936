import Derived.Test.YtbpdjekibcbaaaaSPIs
namespace Go.Proofs.Ytbpdjekibcbaaaa
open Go.RowKit
set_option linter.unusedVariables false
set_option linter.unusedSimpArgs false
set_option maxRecDepth 100000
set_option maxHeartbeats 12800000

theorem ptr_nil (w : World) : (binOp .eql 39 (.pointer none) (.pointer none)).run Try.prog w = .ok (.bool true) w := by kernel_rfl
theorem ptr_eql (c : Nat) (w : World) : (binOp .eql 39 (.pointer (some ⟨c, 0, none⟩)) (.pointer none)).run Try.prog w = .ok (.bool false) w := by kernel_rfl
theorem op_keep {base : Nat} {w w' : World} {g : Nat} {cs : Array Value} (h : w.heap[g]? = some (Obj.cells cs 53 (0, 0))) (hk : Keep w w' (TchS base w)) : w'.heap[g]? = some (Obj.cells cs 53 (0, 0)) := by
  rw [hk.block g (Array.getElem?_eq_some_iff.1 h).1 ?_]
  · exact h
  · rintro (⟨_, c2, t, f2, hh, ht⟩ | ⟨_, c2, f2, hh⟩)
    · have := type_ne h hh
      subst this
      exact absurd ht (by decide)
    · exact absurd (type_ne h hh) (by decide)
theorem byt8_nil {w : World} {nl cl : Nat} {l : List Nat} (h : Byt8 w none nl cl l) : nl = 0 ∧ cl = 0 ∧ l = [] := by
  obtain ⟨X, c, e, h2, h3, h4, _⟩ := h.1
  simp only [Value.slice.injEq] at e
  obtain ⟨rfl, rfl, rfl⟩ := e
  have := h4 rfl
  have h0 : l.length = 0 := by omega
  exact ⟨h0, this, List.eq_nil_of_length_eq_zero h0⟩
theorem byt8_len {w : World} {A : Option Addr} {n c : Nat} {l : List Nat} (h : Byt8 w A n c l) : n = l.length ∧ n ≤ c ∧ c ≤ 9223372036854775807 := by
  obtain ⟨X, c', e, h2, h3, _⟩ := h.1
  simp only [Value.slice.injEq] at e
  obtain ⟨rfl, rfl, rfl⟩ := e
  exact ⟨rfl, h2, h3⟩
theorem byt8_full {w : World} {A : Option Addr} {n c : Nat} {l : List Nat} (h : Byt8 w A n c l) : Byt8 w A n n l := by
  refine ⟨?_, fun k hk => h.2 k (by cases A with
    | none => exact hk
    | some a => exact hk)⟩
  obtain ⟨X, c', e, h2, h3, h4, h5, h6⟩ := h.1
  simp only [Value.slice.injEq] at e
  obtain ⟨rfl, rfl, rfl⟩ := e
  exact ⟨A, l.length, rfl, Nat.le_refl _, by omega, fun e => by have := h4 e; omega, h5, h6⟩

/-- sizes out of bounds, and small disks -/
theorem plays_few (n z : Int) (v : Value) (w : World) (hz : I64 n ∧ I64 z) (h : 60 < n ∨ ¬ (1 ≤ n ∧ n ≤ 4096 ∧ 16 ≤ z ∧ z ≤ 512) ∨ n < 4 ∨ z < 32) :
    Calls Try.prog 5 #[.int .i64 n, .int .i64 z, v] w fun e w' => e = .returned (.bool true) ∧ Ext w w' := by
  have AW := Lib.hid (fun wx => awake_any wx)
  by_cases c1 : 60 < n
  · clear h
    go_enter Try.func5, Try.ntmps5
    go_wp2_with fail
    refine (AW.out _).mono ?_
    rintro e w9 ⟨rfl, hE⟩
    have E9 := Lib.hid ((Ext.refl w).trans hE)
    clear hE
    go_wp2
    go_ret
    exact ⟨rfl, E9.out⟩
  · by_cases c2 : 1 ≤ n ∧ n ≤ 4096 ∧ 16 ≤ z ∧ z ≤ 512
    · have h9 : n < 4 ∨ z < 32 := by omega
      clear h
      obtain ⟨n, rfl⟩ := Int.eq_ofNat_of_zero_le (show 0 ≤ n by omega)
      obtain ⟨z, rfl⟩ := Int.eq_ofNat_of_zero_le (show 0 ≤ z by omega)
      have NW := Lib.hid (new_d n z w (by omega) (by omega))
      have hB : (DM.new n z).B.length = n := by simp [DM.new]
      have hcap : (DM.new n z).cap = 0 := by unfold DM.cap; rw [hB, if_pos (by show n < 4 ∨ z < 32; omega)]
      have HB : Hid ((DM.new n z).B.length ≤ 4096 ∧ (DM.new n z).sz ≤ 512) := Lib.hid ⟨by rw [hB]; omega, by show z ≤ 512; omega⟩
      have HC := Lib.hid hcap
      have pe := ptr_eql
      clear c2 hB hcap
      go_enter Try.func5, Try.ntmps5
      go_wp2_with fail
      refine NW.out.mono ?_
      rintro e w1 ⟨D, rfl, hD, hE⟩
      have D1 := Lib.hid hD
      have E1 := Lib.hid hE
      clear hD hE NW
      go_wp2_with fail
      refine (open_no D1.out HB.out.1 HB.out.2 HC.out).mono ?_
      rintro e w2 ⟨rfl, hE⟩
      have D2 := Lib.hid (D1.out.ext hE)
      have E2 := Lib.hid (E1.out.trans hE)
      clear hE D1 E1
      have CP := Lib.hid (cap0_any D2.out HB.out.1 HB.out.2)
      rw [HC.out] at CP
      by_cases c4 : (n : Int) < 4
      · clear h9
        go_wp2_with fail
        refine CP.out.mono ?_
        rintro e w3 ⟨rfl, hE⟩
        have D3 := Lib.hid (D2.out.ext hE)
        have E3 := Lib.hid (E2.out.trans hE)
        clear hE D2 E2 CP
        go_wp2_with fail
        refine (format_no D3.out HB.out.1 HB.out.2 HC.out).mono ?_
        rintro e w4 ⟨rfl, hE⟩
        have E4 := Lib.hid (E3.out.trans hE)
        clear hE E3 D3
        go_wp2_with fail
        refine (AW.out _).mono ?_
        rintro e w9 ⟨rfl, hE⟩
        have E9 := Lib.hid (E4.out.trans hE)
        clear hE
        go_wp2
        go_ret
        exact ⟨rfl, E9.out⟩
      · have c5 : (z : Int) < 32 := by omega
        clear h9
        go_wp2_with fail
        refine CP.out.mono ?_
        rintro e w3 ⟨rfl, hE⟩
        have D3 := Lib.hid (D2.out.ext hE)
        have E3 := Lib.hid (E2.out.trans hE)
        clear hE D2 E2 CP
        go_wp2_with fail
        refine (format_no D3.out HB.out.1 HB.out.2 HC.out).mono ?_
        rintro e w4 ⟨rfl, hE⟩
        have E4 := Lib.hid (E3.out.trans hE)
        clear hE E3 D3
        go_wp2_with fail
        refine (AW.out _).mono ?_
        rintro e w9 ⟨rfl, hE⟩
        have E9 := Lib.hid (E4.out.trans hE)
        clear hE
        go_wp2
        go_ret
        exact ⟨rfl, E9.out⟩
    · have NN := Lib.hid (new_none n z w c2)
      have pn := ptr_nil
      clear c2 h
      go_enter Try.func5, Try.ntmps5
      go_wp2_with fail
      refine NN.out.mono ?_
      rintro e w1 ⟨rfl, hE⟩
      have E1 := Lib.hid hE
      clear hE NN
      go_wp2_with fail
      refine (cap0_nil w1).mono ?_
      rintro e w2 ⟨rfl, hE⟩
      have E2 := Lib.hid (E1.out.trans hE)
      clear hE E1
      go_wp2_with fail
      refine (format_nil w2).mono ?_
      rintro e w3 ⟨rfl, hE⟩
      have E3 := Lib.hid (E2.out.trans hE)
      clear hE E2
      go_wp2_with fail
      refine (AW.out _).mono ?_
      rintro e w9 ⟨rfl, hE⟩
      have E9 := Lib.hid (E3.out.trans hE)
      clear hE
      go_wp2
      go_ret
      exact ⟨rfl, E9.out⟩

end Go.Proofs.Ytbpdjekibcbaaaa
