import Derived.Test.YtncphiphgkjflaaIBytes
namespace Go.Proofs.Ytncphiphgkjflaa
open Go.RowKit Go.Shelf
set_option linter.unusedVariables false
set_option linter.unusedSimpArgs false

theorem zeros_at {w : World} {k : Nat} (hk : k = w.heap.size) : Pix .u8 (w.alloc (.cells #[.int .u8 0, .int .u8 0, .int .u8 0, .int .u8 0, .int .u8 0, .int .u8 0, .int .u8 0, .int .u8 0, .int .u8 0, .int .u8 0, .int .u8 0, .int .u8 0, .int .u8 0, .int .u8 0, .int .u8 0, .int .u8 0, .int .u8 0, .int .u8 0, .int .u8 0, .int .u8 0, .int .u8 0, .int .u8 0, .int .u8 0, .int .u8 0] 40)) (.slice (some ⟨k, 0, none⟩) 6 6) [noP, noP, noP, noP, noP, noP] := by
  refine ⟨_, 6, rfl, by simp, by omega, (fun h => by cases h), fun i => ?_, fun _ => ⟨k, 0, rfl, by simp [hk], fun i hi j hj => ?_⟩⟩
  · rw [List.getD_eq_getElem?_getD]
    by_cases h : i < 6
    · match i, h with
      | 0, _ | 1, _ | 2, _ | 3, _ | 4, _ | 5, _ => simp [okP, noP]
    · rw [List.getElem?_eq_none (by simp; omega)]; simp [okP, noP]
  · rw [cell_marked _ _ _ _ _ _ hk]
    have hi' : i < 6 := by simpa using hi
    match i, hi' with
    | 0, _ | 1, _ | 2, _ | 3, _ | 4, _ | 5, _ =>
      match j, hj with
      | 0, _ | 1, _ | 2, _ | 3, _ => simp [cellsP, noP]

set_option maxRecDepth 100000 in
set_option maxHeartbeats 3200000 in
theorem new_32 (w : World) : Calls Try.prog 32 #[.int .i64 3, .int .i64 2] w fun e w' => ∃ k, e = .returned (.tuple #[.agg #[.int .i64 3, .int .i64 2, .slice (some ⟨k, 0, none⟩) 6 6], .int .i64 0]) ∧ Ext w w' ∧ Pix .u8 w' (.slice (some ⟨k, 0, none⟩) 6 6) [noP, noP, noP, noP, noP, noP] := by
  have hmk : ∀ w, (Instr.makeSlice 22 (.int .i64 6) (.int .i64 6)).run Try.prog w = .ok (.slice (some ⟨w.heap.size, 0, none⟩) 6 6) (w.alloc (.cells #[.int .u8 0, .int .u8 0, .int .u8 0, .int .u8 0, .int .u8 0, .int .u8 0, .int .u8 0, .int .u8 0, .int .u8 0, .int .u8 0, .int .u8 0, .int .u8 0, .int .u8 0, .int .u8 0, .int .u8 0, .int .u8 0, .int .u8 0, .int .u8 0, .int .u8 0, .int .u8 0, .int .u8 0, .int .u8 0, .int .u8 0, .int .u8 0] 40)) := fun w => by kernel_rfl
  have S3 : Hid (∀ wx, Calls Try.prog 39 #[.int .i64 3] wx fun e w' => e = .returned (.bool true) ∧ w' = wx) := Lib.hid (fun wx => side_any 3 wx (by omega) (by omega))
  have S2 : Hid (∀ wx, Calls Try.prog 39 #[.int .i64 2] wx fun e w' => e = .returned (.bool true) ∧ w' = wx) := Lib.hid (fun wx => side_any 2 wx (by omega) (by omega))
  go_enter Try.func32, Try.ntmps32
  go_wp2_with fail
  refine (S3.out _).mono ?_
  rintro e w1 ⟨rfl, rfl⟩
  go_wp2_with fail
  refine (S2.out _).mono ?_
  rintro e w1 ⟨rfl, rfl⟩
  go_wp2
  refine bodyPost_ret (v := .tuple #[.agg #[.int .i64 3, .int .i64 2, .slice (some ⟨w.heap.size + 1, 0, none⟩) 6 6], .int .i64 0]) (by simp [results, Try.results32, go_sem]) rfl ⟨_, rfl, by ((repeat (first | exact Ext.refl _ | apply Ext.alloc | apply Ext.ext))), zeros_at (by simp)⟩

set_option maxRecDepth 100000 in
set_option maxHeartbeats 3200000 in
theorem awake_any (w : World) : Calls Try.prog 10 #[] w fun e w' => e = .returned (.bool true) ∧ Ext w w' := by
  go_enter Try.func10, Try.ntmps10
  go_wp2_with fail
  refine (new_32 _).mono ?_
  rintro e w1 ⟨k, rfl, hE, hP⟩
  have E1 := Lib.hid hE
  have P1 := Lib.hid hP
  clear hE hP
  have BY := Lib.hid (fun wx (hx : Ext w1 wx) => bytes_yes 3 2 _ _ wx (P1.out.ext hx) (by decide) (by decide +kernel))
  rw [show bytesL 3 2 [noP, noP, noP, noP, noP, noP] = [2, 1, 5, 0, 0, 0, 0] by decide +kernel] at BY
  have CT := Lib.hid (fun wx (hx : Ext w1 wx) => count_any 3 2 _ _ 0 0 0 0 wx (P1.out.ext hx) (by decide))
  rw [show countP (0, 0, 0, 0) [noP, noP, noP, noP, noP, noP] = 6 by decide +kernel] at CT
  go_wp2_with fail
  refine (BY.out _ ((Ext.refl w1).alloc _)).mono ?_
  rintro e w2 ⟨A, n, c, rfl, hO, g2, rfl⟩
  have hcv := conv_bytes hO.bytes
  rw [show strOf [2, 1, 5, 0, 0, 0, 0] = ⟨#[2, 1, 5, 0, 0, 0, 0]⟩ by decide +kernel] at hcv
  clear hO
  go_wp2_with fail
  refine (CT.out _ (((Ext.refl w1).alloc _).ext g2)).mono ?_
  rintro e w3 ⟨rfl, hE3⟩
  have E3 := Lib.hid hE3
  clear hE3 hcv
  go_wp2
  go_ret
  exact ⟨rfl, ((E1.out.alloc _).ext g2).trans E3.out⟩

end Go.Proofs.Ytncphiphgkjflaa
