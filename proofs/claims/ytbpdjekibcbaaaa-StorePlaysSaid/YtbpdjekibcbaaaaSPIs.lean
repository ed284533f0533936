import Derived.Test.YtbpdjekibcbaaaaSPAux
namespace Go.Proofs.Ytbpdjekibcbaaaa
open Go.RowKit
set_option linter.unusedVariables false
set_option linter.unusedSimpArgs false

set_option maxRecDepth 100000 in
set_option maxHeartbeats 12800000 in
theorem is_any {base : Nat} {w : World} {s D : Nat} {m : DM} {h : Hd} {b : List Nat} {n : Nat} (H : StOk base w s D m h b n) (As Al : Option Addr) (ns nl cs cl : Nat) (hs : Bytes w (.slice As ns cs) (b.take h.snap)) (hl : Bytes w (.slice Al nl cl) (b.drop h.snap)) :
    Calls Try.prog 20 #[.pointer (some ⟨s, 0, none⟩), .slice As ns cs, .slice Al nl cl] w fun e w' => e = .returned (.bool true) ∧ Ext w w' := by
  obtain ⟨A, k, cap, ST⟩ := H.st
  have hb := H.r.bounds
  have hfit := H.fit
  have hlen := H.len
  have hns := hs.len
  have hnl := hl.len
  rw [List.length_take] at hns
  rw [List.length_drop] at hnl
  obtain ⟨U, hU⟩ : ∃ x, h.snap + h.log = x := ⟨_, rfl⟩
  obtain ⟨C, hC⟩ : ∃ x, m.cap = x := ⟨_, rfl⟩
  obtain ⟨R, hR⟩ : ∃ x : Int, (C : Int) - (U : Int) = x := ⟨_, rfl⟩
  have hUU : (ns : Int) + (nl : Int) = (U : Int) := by omega
  have hCb : C ≤ 14848 := by rw [← hC, hb.2.2.2.2.2.1]; omega
  have hUb : U ≤ 14848 := by omega
  have F1 : Hid (∀ wx, Ext w wx → Calls Try.prog 41 #[.pointer (some ⟨s, 0, none⟩)] wx fun e w' => ∃ A' n' cap', e = .returned (.slice A' n' cap') ∧ Own wx.heap.size w' A' n' cap' (b.take h.snap) ∧ Ext wx w') := Lib.hid fun wx he => snapshot_any (ST.ext he) (by omega) (by omega)
  have F2 : Hid (∀ wx, Ext w wx → Calls Try.prog 23 #[.pointer (some ⟨s, 0, none⟩)] wx fun e w' => ∃ A' n' cap', e = .returned (.slice A' n' cap') ∧ Own wx.heap.size w' A' n' cap' (b.drop h.snap) ∧ Ext wx w') := Lib.hid fun wx he => log_any (ST.ext he) (by omega) (by omega)
  have F3 : Hid (∀ wx, Ext w wx → Calls Try.prog 36 #[.pointer (some ⟨s, 0, none⟩)] wx fun e w' => e = .returned (.int .i64 (U : Int)) ∧ Ext wx w') := Lib.hid fun wx he => by rw [← hU]; exact used_any (ST.ext he) (by omega)
  have F4 : Hid (∀ wx, Ext w wx → Calls Try.prog 38 #[.pointer (some ⟨s, 0, none⟩)] wx fun e w' => e = .returned (.int .i64 R) ∧ Ext wx w') := Lib.hid fun wx he => by
    rw [← hR, ← hC, ← hU]; exact room_any (ST.ext he) (H.dk.ext he) (by omega) (by omega) (by omega) (by rw [hb.2.2.2.2.2.1]; omega)
  have F5 : Hid (∀ wx, Ext w wx → Calls Try.prog 17 #[.pointer (some ⟨s, 0, none⟩)] wx fun e w' => e = .returned (.int .i64 (C : Int)) ∧ Ext wx w') := Lib.hid fun wx he => by rw [← hC]; exact scap_any (ST.ext he) (H.dk.ext he) (by omega) (by omega)
  obtain ⟨t1, ht1⟩ : ∃ x, b.take h.snap = x := ⟨_, rfl⟩
  obtain ⟨t2, ht2⟩ : ∃ x, b.drop h.snap = x := ⟨_, rfl⟩
  rw [ht1] at F1 hs
  rw [ht2] at F2 hl
  obtain ⟨s1, hs1⟩ : ∃ x, strOf t1 = x := ⟨_, rfl⟩
  obtain ⟨s2, hs2⟩ : ∃ x, strOf t2 = x := ⟨_, rfl⟩
  have v1 : ∀ g', (convert 24 9 (.slice As ns cs)).run Try.prog (w.ext g') = .ok (.string s1) (w.ext g') := fun g' => by rw [← hs1]; exact conv_bytes (hs.ext ⟨g', rfl⟩)
  have v2 : ∀ g', (convert 24 9 (.slice Al nl cl)).run Try.prog (w.ext g') = .ok (.string s2) (w.ext g') := fun g' => by rw [← hs2]; exact conv_bytes (hl.ext ⟨g', rfl⟩)
  have HS := Lib.hid (And.intro hs1 hs2)
  clear H ST hb hfit hlen hns hnl hU hC ht1 ht2 hs1 hs2 hs hl
  go_enter Try.func20, Try.ntmps20
  go_wp2_with fail
  refine region_flow 34 [8, 15, 23, 33, 35, 37] (fun t v => match t with | 8 => ∃ A k c, v = .slice A k c | 15 => ∃ A k c, v = .slice A k c | 23 => v = .int .i64 (U : Int) | 33 => v = .int .i64 R | 35 => v = .int .i64 (C : Int) | 37 => v = .int .i64 (U : Int) | _ => False)
    (fun t v w' => match t with | 8 => ∃ A k c, v = .slice A k c ∧ Bytes w' (.slice A k c) t1 | 15 => ∃ A k c, v = .slice A k c ∧ Bytes w' (.slice A k c) t2 | _ => True) (by kernel_rfl) (by kernel_rfl) ?hq ?hu ?hR ?h
  case hq => intro t v h; split at h <;> simp_all
  case hu => intro t h; split at h <;> simp_all [undef]
  case hR =>
    intro t v wx wy _ hR he
    split at hR
    · obtain ⟨A, k, c, e, h1⟩ := hR; exact ⟨A, k, c, e, h1.ext he⟩
    · obtain ⟨A, k, c, e, h1⟩ := hR; exact ⟨A, k, c, e, h1.ext he⟩
    · trivial
  case h =>
    dsimp only [List.take, List.drop]
    iterate 1 (refine Flow.plain rfl rfl ?_; go_big_quiet_step (fail); refine wpQuiet_nil ?_)
    refine Flow.call Try.call41 [.pointer (some ⟨s, 0, none⟩)] rfl rfl rfl ?_ (fun wx hx hf => (F1.out wx hx).mono ?_) ?_
    · exact ⟨.slice none 0 0, _, _, _, rfl⟩
    · rintro e w' ⟨A, k, c, rfl, hO, hE⟩
      exact ⟨_, rfl, hE, ⟨_, _, _, rfl⟩, ⟨_, _, _, rfl, hO.bytes⟩⟩
    rintro v ⟨A9, k9, c9, rfl⟩
    simp only [Act.put, List.setIfInBounds_toArray, List.set_cons_zero, List.set_cons_succ]
    refine Flow.use (.string s1) rfl rfl (fun wx hx hf => ?_) ?_
    · obtain ⟨A2, k2, c2, e, hB⟩ := hf.at 8 (by kernel_rfl) ⟨A9, k9, c9, rfl⟩
      refine run_conv 24 9 (.tmp 8) rfl ?_
      rw [e, ← HS.out.1]
      exact conv_bytes hB
    simp only [Act.put, List.setIfInBounds_toArray, List.set_cons_zero, List.set_cons_succ]
    iterate 4 (refine Flow.plain rfl rfl ?_; go_big_quiet_step (fail); refine wpQuiet_nil ?_)
    iterate 1 (refine Flow.plain rfl rfl ?_; go_big_quiet_step (fail); refine wpQuiet_nil ?_)
    refine Flow.call Try.call23 [.pointer (some ⟨s, 0, none⟩)] rfl rfl rfl ?_ (fun wx hx hf => (F2.out wx hx).mono ?_) ?_
    · exact ⟨.slice none 0 0, _, _, _, rfl⟩
    · rintro e w' ⟨A, k, c, rfl, hO, hE⟩
      exact ⟨_, rfl, hE, ⟨_, _, _, rfl⟩, ⟨_, _, _, rfl, hO.bytes⟩⟩
    rintro v ⟨A9, k9, c9, rfl⟩
    simp only [Act.put, List.setIfInBounds_toArray, List.set_cons_zero, List.set_cons_succ]
    refine Flow.use (.string s2) rfl rfl (fun wx hx hf => ?_) ?_
    · obtain ⟨A2, k2, c2, e, hB⟩ := hf.at 15 (by kernel_rfl) ⟨A9, k9, c9, rfl⟩
      refine run_conv 24 9 (.tmp 15) rfl ?_
      rw [e, ← HS.out.2]
      exact conv_bytes hB
    simp only [Act.put, List.setIfInBounds_toArray, List.set_cons_zero, List.set_cons_succ]
    iterate 5 (refine Flow.plain rfl rfl ?_; go_big_quiet_step (fail); refine wpQuiet_nil ?_)
    iterate 1 (refine Flow.plain rfl rfl ?_; go_big_quiet_step (fail); refine wpQuiet_nil ?_)
    refine Flow.call Try.call36 [.pointer (some ⟨s, 0, none⟩)] rfl rfl rfl ⟨_, rfl⟩ (fun wx hx hf => (F3.out wx hx).mono ?_) ?_
    · rintro e w' ⟨rfl, hE⟩; exact ⟨_, rfl, hE, rfl, trivial⟩
    rintro v rfl
    simp only [Act.put, List.setIfInBounds_toArray, List.set_cons_zero, List.set_cons_succ]
    iterate 8 (refine Flow.plain rfl rfl ?_; go_big_quiet_step (fail); refine wpQuiet_nil ?_)
    iterate 1 (refine Flow.plain rfl rfl ?_; go_big_quiet_step (fail); refine wpQuiet_nil ?_)
    refine Flow.call Try.call38 [.pointer (some ⟨s, 0, none⟩)] rfl rfl rfl ⟨_, rfl⟩ (fun wx hx hf => (F4.out wx hx).mono ?_) ?_
    · rintro e w' ⟨rfl, hE⟩; exact ⟨_, rfl, hE, rfl, trivial⟩
    rintro v rfl
    simp only [Act.put, List.setIfInBounds_toArray, List.set_cons_zero, List.set_cons_succ]
    iterate 1 (refine Flow.plain rfl rfl ?_; go_big_quiet_step (fail); refine wpQuiet_nil ?_)
    refine Flow.call Try.call17 [.pointer (some ⟨s, 0, none⟩)] rfl rfl rfl ⟨_, rfl⟩ (fun wx hx hf => (F5.out wx hx).mono ?_) ?_
    · rintro e w' ⟨rfl, hE⟩; exact ⟨_, rfl, hE, rfl, trivial⟩
    rintro v rfl
    simp only [Act.put, List.setIfInBounds_toArray, List.set_cons_zero, List.set_cons_succ]
    iterate 1 (refine Flow.plain rfl rfl ?_; go_big_quiet_step (fail); refine wpQuiet_nil ?_)
    refine Flow.call Try.call36 [.pointer (some ⟨s, 0, none⟩)] rfl rfl rfl ⟨_, rfl⟩ (fun wx hx hf => (F3.out wx hx).mono ?_) ?_
    · rintro e w' ⟨rfl, hE⟩; exact ⟨_, rfl, hE, rfl, trivial⟩
    rintro v rfl
    simp only [Act.put, List.setIfInBounds_toArray, List.set_cons_zero, List.set_cons_succ]
    iterate 3 (refine Flow.plain rfl rfl ?_; go_big_quiet_step (fail); refine wpQuiet_nil ?_)
    refine Flow.nil fun w5 hx5 hf => ?_
    have E5 := Lib.hid hx5
    clear hf hx5 v1 v2 F1 F2 F3 F4 F5

    go_wp2
    go_ret
    exact ⟨rfl, E5.out⟩

end Go.Proofs.Ytbpdjekibcbaaaa
