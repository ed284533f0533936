import Derived.Test.YtbhpnbeplomkoaaDRead
namespace Go.Proofs.Ytbhpnbeplomkoaa
open Go.RowKit
set_option linter.unusedVariables false
set_option linter.unusedSimpArgs false

section
variable {base : Nat} {D : Nat} {SA : Option Addr} {sc : Nat} {WA : Option Addr} {wc : Nat} {RA : Option Addr} {rc : Nat} {S : DS}

set_option maxRecDepth 100000
set_option maxHeartbeats 3200000

theorem read_err (i : Int) (w : World) (h : DiskAt base w D SA sc WA wc RA rc S) (hc : S.checkI i ≠ 0) :
    Calls Try.prog 10 #[.pointer (some ⟨D, 0, none⟩), .int .i64 i] w fun e w' => e = .returned (.tuple #[.slice none 0 0, .int .i64 (S.checkI i)]) ∧ w' = w := by
  have CK := Lib.hid (check_any i w h)
  have hc' : (S.checkI i == 0) = false := by simpa using hc
  obtain ⟨c, hcc⟩ : ∃ c, S.checkI i = c := ⟨_, rfl⟩
  rw [hcc] at CK hc' ⊢
  clear h hc hcc
  go_enter Try.func10, Try.ntmps10
  go_wp2_with fail
  refine CK.out.mono ?_
  rintro e w1 ⟨rfl, rfl⟩
  go_wp2
  exact bodyPost_ret (v := .tuple #[.slice none 0 0, .int .i64 c]) (by simp [results, Try.results10, go_sem]) rfl ⟨rfl, rfl⟩

theorem write_err (i : Int) (v : Value) (w : World) (h : DiskAt base w D SA sc WA wc RA rc S) (hc : S.checkI i ≠ 0) :
    Calls Try.prog 6 #[.pointer (some ⟨D, 0, none⟩), .int .i64 i, v] w fun e w' => e = .returned (.int .i64 (S.checkI i)) ∧ w' = w := by
  have CK := Lib.hid (check_any i w h)
  have hc' : (S.checkI i == 0) = false := by simpa using hc
  obtain ⟨c, hcc⟩ : ∃ c, S.checkI i = c := ⟨_, rfl⟩
  rw [hcc] at CK hc' ⊢
  clear h hc hcc
  go_enter Try.func6, Try.ntmps6
  go_wp2_with fail
  refine CK.out.mono ?_
  rintro e w1 ⟨rfl, rfl⟩
  go_wp2
  go_ret
  exact ⟨rfl, rfl⟩

theorem done_any (w : World) (h : DiskAt base w D SA sc WA wc RA rc S) :
    Calls Try.prog 15 #[.pointer (some ⟨D, 0, none⟩)] w fun e w' => e = .returned (.int .i64 (S.done : Int)) ∧ w' = w := by
  have c5 := h.cell 5
  simp only [fields, List.getElem?_toArray, List.getElem?_cons_zero, List.getElem?_cons_succ] at c5
  clear h
  go_enter Try.func15, Try.ntmps15
  go_wp2
  go_ret
  exact ⟨rfl, rfl⟩

theorem down_any (w : World) (h : DiskAt base w D SA sc WA wc RA rc S) :
    Calls Try.prog 16 #[.pointer (some ⟨D, 0, none⟩)] w fun e w' => e = .returned (.bool S.down) ∧ w' = w := by
  have c5 := h.cell 6
  simp only [fields, List.getElem?_toArray, List.getElem?_cons_zero, List.getElem?_cons_succ] at c5
  clear h
  go_enter Try.func16, Try.ntmps16
  go_wp2
  go_ret
  exact ⟨rfl, rfl⟩

theorem arm_any (n : Int) (w : World) (h : DiskAt base w D SA sc WA wc RA rc S) :
    Calls Try.prog 13 #[.pointer (some ⟨D, 0, none⟩), .int .i64 n] w fun e w' => (∃ v, e = .returned v) ∧ DiskAt base w' D SA sc WA wc RA rc { S with left := max n (-1) } ∧ Keep w w' (Tch base w) := by
  obtain ⟨h1, h2⟩ := h.put 4 (.int .i64 (max n (-1))) { S with left := max n (-1) } SA sc WA wc RA rc (by simp [fields]) h.rows h.waits h.rds h.oks h.okw
  have HX := Lib.hid (And.intro h1 h2)
  have cf := h.frozen 4
  have c4 := h.cell 4
  simp only [fields, List.getElem?_toArray, List.getElem?_cons_zero, List.getElem?_cons_succ] at c4
  clear h h1 h2
  go_enter Try.func13, Try.ntmps13
  go_wp2
  go_end0
  exact ⟨⟨_, rfl⟩, HX.out.1, HX.out.2⟩

theorem reads_yes (i : Nat) (w : World) (h : DiskAt base w D SA sc WA wc RA rc S) (hi : i < S.reads.length) (hr : S.reads.length ≤ 10000) :
    Calls Try.prog 14 #[.pointer (some ⟨D, 0, none⟩), .int .i64 (i : Int)] w fun e w' => e = .returned (.int .i64 ((S.reads.getD i 0 : Nat) : Int)) ∧ w' = w := by
  obtain ⟨g, rfl, b0, b1, b2, -⟩ := bump_mem (i := i) (n := 0) h hi
  have c3 := h.cell 3
  simp only [fields, List.getElem?_toArray, List.getElem?_cons_zero, List.getElem?_cons_succ] at c3
  obtain ⟨R, hR⟩ : ∃ R, S.reads.length = R := ⟨_, rfl⟩
  rw [hR] at c3 hi hr
  obtain ⟨m, hm⟩ : ∃ m, S.reads.getD i 0 = m := ⟨_, rfl⟩
  rw [hm] at b0 ⊢
  have hi' : (i : Int) < (R : Int) := by omega
  have hi2 : decide ((R : Int) ≤ (i : Int)) = false := by simp; omega
  unfold natV at b0
  clear h hm hR
  go_enter Try.func14, Try.ntmps14
  go_wp2
  go_ret
  exact ⟨rfl, rfl⟩

theorem reads_no (i : Nat) (w : World) (h : DiskAt base w D SA sc WA wc RA rc S) (hi : S.reads.length ≤ i) (hr : i ≤ 10000) :
    Calls Try.prog 14 #[.pointer (some ⟨D, 0, none⟩), .int .i64 (i : Int)] w fun e w' => e = .returned (.int .i64 0) ∧ w' = w := by
  have c3 := h.cell 3
  simp only [fields, List.getElem?_toArray, List.getElem?_cons_zero, List.getElem?_cons_succ] at c3
  obtain ⟨R, hR⟩ : ∃ R, S.reads.length = R := ⟨_, rfl⟩
  rw [hR] at c3 hi
  have hi' : (R : Int) ≤ (i : Int) := by omega
  clear h hR
  go_enter Try.func14, Try.ntmps14
  go_wp2
  go_ret
  exact ⟨rfl, rfl⟩

end

end Go.Proofs.Ytbhpnbeplomkoaa
