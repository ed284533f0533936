import Derived.Test.YtbpdjekibcbaaaaSRead
namespace Go.Proofs.Ytbpdjekibcbaaaa
open Go.RowKit
set_option linter.unusedVariables false
set_option linter.unusedSimpArgs false

section
variable {base : Nat} {D : Nat} {SA : Option Addr} {sc : Nat} {WA : Option Addr} {wc : Nat} {RA : Option Addr} {rc : Nat} {S : DS}

set_option maxRecDepth 100000
set_option maxHeartbeats 3200000

theorem read_err (i : Int) (w : World) (h : DiskAt base w D SA sc WA wc RA rc S) (hc : S.checkI i ≠ 0) :
    Calls Try.prog 35 #[.pointer (some ⟨D, 0, none⟩), .int .i64 i] w fun e w' => e = .returned (.tuple #[.slice none 0 0, .int .i64 (S.checkI i)]) ∧ w' = w := by
  have CK := Lib.hid (check_any i w h)
  have hc' : (S.checkI i == 0) = false := by simpa using hc
  obtain ⟨c, hcc⟩ : ∃ c, S.checkI i = c := ⟨_, rfl⟩
  rw [hcc] at CK hc' ⊢
  clear h hc hcc
  go_enter Try.func35, Try.ntmps35
  go_wp2_with fail
  refine CK.out.mono ?_
  rintro e w1 ⟨rfl, rfl⟩
  go_wp2
  exact bodyPost_ret (v := .tuple #[.slice none 0 0, .int .i64 c]) (by simp [results, Try.results35, go_sem]) rfl ⟨rfl, rfl⟩

theorem write_err (i : Int) (v : Value) (w : World) (h : DiskAt base w D SA sc WA wc RA rc S) (hc : S.checkI i ≠ 0) :
    Calls Try.prog 32 #[.pointer (some ⟨D, 0, none⟩), .int .i64 i, v] w fun e w' => e = .returned (.int .i64 (S.checkI i)) ∧ w' = w := by
  have CK := Lib.hid (check_any i w h)
  have hc' : (S.checkI i == 0) = false := by simpa using hc
  obtain ⟨c, hcc⟩ : ∃ c, S.checkI i = c := ⟨_, rfl⟩
  rw [hcc] at CK hc' ⊢
  clear h hc hcc
  go_enter Try.func32, Try.ntmps32
  go_wp2_with fail
  refine CK.out.mono ?_
  rintro e w1 ⟨rfl, rfl⟩
  go_wp2
  go_ret
  exact ⟨rfl, rfl⟩

end

end Go.Proofs.Ytbpdjekibcbaaaa
