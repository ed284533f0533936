import Derived.Test.YtobnbdoehobigaaDoorRefFrame
import Derived.Test.YtobnbdoehobigaaDoorFlow
namespace Go.Proofs.YtobnbdoehobigaaDoor
open Go.RowKit
set_option linter.unusedVariables false
set_option linter.unusedSimpArgs false

set_option maxRecDepth 100000 in
set_option maxHeartbeats 3200000 in
theorem frame_bad (seq kind : Int) (v : Value) (l : List Nat) (w : World) (hb : Bytes w v l) (h : seq < 0 ∨ kind < 0 ∨ 255 < kind) :
    Calls Tryd.prog 23 #[.agg #[.int .i64 seq, .int .i64 kind, v]] w fun e w' => e = .returned (.tuple #[.slice none 0 0, .int .i64 30]) ∧ Ext w w' := by
  obtain ⟨X, c, rfl, _⟩ := hb
  by_cases h1 : seq < 0
  · clear h
    go_enter Tryd.func23, Tryd.ntmps23
    go_wp2
    exact bodyPost_ret (v := .tuple #[.slice none 0 0, .int .i64 30]) (by simp [results, Tryd.results23, go_sem]) rfl ⟨rfl, (Ext.refl w).alloc _⟩
  · by_cases h2 : kind < 0
    · clear h
      go_enter Tryd.func23, Tryd.ntmps23
      go_wp2
      exact bodyPost_ret (v := .tuple #[.slice none 0 0, .int .i64 30]) (by simp [results, Tryd.results23, go_sem]) rfl ⟨rfl, (Ext.refl w).alloc _⟩
    · have h3 : 255 < kind := by omega
      clear h
      go_enter Tryd.func23, Tryd.ntmps23
      go_wp2
      exact bodyPost_ret (v := .tuple #[.slice none 0 0, .int .i64 30]) (by simp [results, Tryd.results23, go_sem]) rfl ⟨rfl, (Ext.refl w).alloc _⟩

theorem recs_one {B : Nat} {W : World} {v : Value} {rs : List Rec} {s : Int} {k : Nat} {d : List Nat} (h : Recs B W v rs) (e : rs.map recPure = [(s, k, d)]) :
    ∃ g cap A n c, v = .slice (some ⟨g, 0, none⟩) 1 cap ∧ W.cell? ⟨g, 0, none⟩ = some (.int .i64 s) ∧ W.cell? ⟨g, 1, none⟩ = some (.int .i64 (k : Int)) ∧ W.cell? ⟨g, 2, none⟩ = some (.slice A n c) ∧ Bytes W (.slice A n c) d := by
  match rs, e with
  | [r], e =>
    obtain ⟨s', k', u, d'⟩ := r
    simp [recPure] at e
    obtain ⟨rfl, rfl, rfl⟩ := e
    obtain ⟨hrow, hdata⟩ := h
    obtain ⟨A, n, c, e, hB, _⟩ := hdata (s', k', u, d') (by simp)
    obtain rfl : u = .slice A n c := e
    have hrow' : W.ownsRow B 46 3 v 1 [.int .i64 s', .int .i64 (k' : Int), .slice A n c] := by simpa [recCells] using hrow
    obtain ⟨g, cap, rfl⟩ := ownsRow_succ (k := 0) hrow'
    refine ⟨g, cap, A, n, c, rfl, ?_, ?_, ?_, hB⟩
    · simpa using hrow'.cellAt 0 (by omega)
    · simpa using hrow'.cellAt 1 (by omega)
    · simpa using hrow'.cellAt 2 (by omega)

set_option maxRecDepth 100000 in
set_option maxHeartbeats 6400000 in
theorem FrameFrames_walk (seq kind : Int) (v : Value) (l : List Nat) (w : World) (hs1 : -9223372036854775808 ≤ seq) (hs2 : seq ≤ 9223372036854775807) (hk1 : -9223372036854775808 ≤ kind) (hk2 : kind ≤ 9223372036854775807) (hb : Bytes w v l) (hT : Tab w) :
    Calls Tryd.prog 6 #[.agg #[.int .i64 seq, .int .i64 kind, v]] w fun e w' => e = .returned (.bool true) ∧ Ext w w' := by
  have T := Lib.hid hT
  have B := Lib.hid hb
  clear hT
  obtain ⟨X, c, rfl, c2, c3, _, c5, _⟩ := hb
  have H5 := Lib.hid c5
  clear c5
  by_cases hlen : 3000 < l.length
  · have hl : (3000 : Int) < (l.length : Int) := by omega
    go_enter Tryd.func6, Tryd.ntmps6
    go_wp2_with fail
    refine (awake_any _ (T.out.ext ((Ext.refl w).alloc _))).mono ?_
    rintro e w' ⟨rfl, g, rfl⟩
    go_wp2
    go_ret
    exact ⟨rfl, ((Ext.refl w).alloc _).ext g⟩
  · have hl : ¬ (3000 : Int) < (l.length : Int) := by omega
    have E0 := Lib.hid ((Ext.refl w).alloc (.cells #[.int .i64 seq, .int .i64 kind, .slice X l.length c] 46))
    by_cases hbad : seq < 0 ∨ kind < 0 ∨ 255 < kind
    · have C := Lib.hid (frame_bad seq kind (.slice X l.length c) l (w.alloc (.cells #[.int .i64 seq, .int .i64 kind, .slice X l.length c] 46)) (B.out.ext E0.out) hbad)
      have fin : True := trivial
      by_cases h1 : seq < 0
      · clear hbad
        go_enter Tryd.func6, Tryd.ntmps6
        go_wp2_with fail
        refine C.out.mono ?_
        rintro e w1 ⟨rfl, g, rfl⟩
        go_wp2_with fail
        refine (awake_any _ (T.out.ext (E0.out.ext g))).mono ?_
        rintro e w' ⟨rfl, g1, rfl⟩
        go_wp2
        go_ret
        exact ⟨rfl, (E0.out.ext g).ext g1⟩
      · by_cases h2 : kind < 0
        · clear hbad
          go_enter Tryd.func6, Tryd.ntmps6
          go_wp2_with fail
          refine C.out.mono ?_
          rintro e w1 ⟨rfl, g, rfl⟩
          go_wp2_with fail
          refine (awake_any _ (T.out.ext (E0.out.ext g))).mono ?_
          rintro e w' ⟨rfl, g1, rfl⟩
          go_wp2
          go_ret
          exact ⟨rfl, (E0.out.ext g).ext g1⟩
        · have h3 : 255 < kind := by omega
          clear hbad
          go_enter Tryd.func6, Tryd.ntmps6
          go_wp2_with fail
          refine C.out.mono ?_
          rintro e w1 ⟨rfl, g, rfl⟩
          go_wp2_with fail
          refine (awake_any _ (T.out.ext (E0.out.ext g))).mono ?_
          rintro e w' ⟨rfl, g1, rfl⟩
          go_wp2
          go_ret
          exact ⟨rfl, (E0.out.ext g).ext g1⟩
    · obtain ⟨s, rfl⟩ : ∃ s : Nat, seq = s := ⟨seq.toNat, by omega⟩
      obtain ⟨k, rfl⟩ : ∃ k : Nat, kind = k := ⟨kind.toNat, by omega⟩
      have hl3 : l.length ≤ 3000 := by omega
      have HB := Lib.hid (show s ≤ 9223372036854775807 ∧ k ≤ 255 ∧ l.length ≤ 3000 by omega)
      have g1 : ¬ (s : Int) < 0 := by omega
      have g2 : ¬ (k : Int) < 0 := by omega
      have g3 : ¬ (255 : Int) < (k : Int) := by omega
      have CF := Lib.hid (fun (wx : World) (hx : Ext w wx) => frame_any s k (.slice X l.length c) l wx (T.out.ext hx) (B.out.ext hx) HB.out.1 HB.out.2.1 (by have := HB.out.2.2; omega))
      have CR := Lib.hid (fun (wx : World) (hx : Ext w wx) => refFrame_any s k (.slice X l.length c) l wx (B.out.ext hx) HB.out.1 HB.out.2.1 (by have := HB.out.2.2; omega))
      have HFL := Lib.hid (frame_len s k l)
      have HSC := Lib.hid (scan_frame s k l (by have := HB.out.2.2; omega) HB.out.1 (by have := HB.out.2.1; omega) H5.out)
      obtain ⟨F, hF⟩ : ∃ F, frameL s k l = F := ⟨_, rfl⟩
      rw [hF] at CF CR HFL HSC
      clear hbad hF
      go_enter Tryd.func6, Tryd.ntmps6
      go_wp2_with fail
      refine (CF.out _ E0.out).mono ?_
      rintro e w1 ⟨A1, n1, c1, rfl, hO, g, rfl⟩
      have O1 := Lib.hid hO
      have hn1 := hO.1
      rw [HFL.out] at hn1
      subst hn1
      have E1 := Lib.hid (E0.out.ext g)
      clear hO
      go_wp2_with fail
      refine (scan_any _ F (s : Int) _ O1.out.bytes (T.out.ext E1.out) (by rw [HFL.out]; omega) (by omega) (by have := HB.out.1; omega)).mono ?_
      rintro e w2 ⟨v', rs, e', rfl, hR, hE, hsc⟩
      rw [HSC.out] at hsc
      simp only [Prod.mk.injEq] at hsc
      obtain ⟨hsc1, rfl⟩ := hsc
      obtain ⟨g0, cap0, A5, n5, c5, rfl, x0, x1, x2, hB5⟩ := recs_one hR hsc1.symm
      have E2 := Lib.hid (E1.out.trans hE)
      have hbx : w.heap.size < ((w.alloc (.cells #[.int .i64 s, .int .i64 k, .slice X l.length c] 46)).ext g).heap.size := by simp; omega
      have y0 : w2.cell? ⟨w.heap.size, 0, none⟩ = some (.int .i64 (s : Int)) := by rw [hE.cell hbx]; simp [go_sem]
      have y1 : w2.cell? ⟨w.heap.size, 1, none⟩ = some (.int .i64 (k : Int)) := by rw [hE.cell hbx]; simp [go_sem]
      have y2 : w2.cell? ⟨w.heap.size, 2, none⟩ = some (.slice X l.length c) := by rw [hE.cell hbx]; simp [go_sem]
      have b1 := World.block_lt_of_cell? _ _ y0
      have b2 := World.block_lt_of_cell? _ _ x0
      have hx : ∀ g, Ext w2 (w2.ext g) := fun g => ⟨g, rfl⟩
      have v0 : ∀ g, (w2.ext g).cell? ⟨w.heap.size, 0, none⟩ = some (.int .i64 (s : Int)) := fun g => ((hx g).cell b1).trans y0
      have v1 : ∀ g, (w2.ext g).cell? ⟨w.heap.size, 1, none⟩ = some (.int .i64 (k : Int)) := fun g => ((hx g).cell b1).trans y1
      have v2 : ∀ g, (w2.ext g).cell? ⟨w.heap.size, 2, none⟩ = some (.slice X l.length c) := fun g => ((hx g).cell b1).trans y2
      have v3 : ∀ g, (w2.ext g).cell? ⟨g0, 0, none⟩ = some (.int .i64 (s : Int)) := fun g => ((hx g).cell b2).trans x0
      have v4 : ∀ g, (w2.ext g).cell? ⟨g0, 1, none⟩ = some (.int .i64 (k : Int)) := fun g => ((hx g).cell b2).trans x1
      have v5 : ∀ g, (w2.ext g).cell? ⟨g0, 2, none⟩ = some (.slice A5 n5 c5) := fun g => ((hx g).cell b2).trans x2
      have v6 : ∀ g, (convert 22 9 (.slice A1 (l.length + 17) c1)).run Tryd.prog (w2.ext g) = .ok (.string (strOf F)) (w2.ext g) := fun g => conv_bytes ((O1.out.bytes.ext hE).ext (hx g))
      have v7 : ∀ g, (convert 22 9 (.slice A5 n5 c5)).run Tryd.prog (w2.ext g) = .ok (.string (strOf l)) (w2.ext g) := fun g => conv_bytes (hB5.ext (hx g))
      have v8 : ∀ g, (convert 22 9 (.slice X l.length c)).run Tryd.prog (w2.ext g) = .ok (.string (strOf l)) (w2.ext g) := fun g => conv_bytes (B.out.ext (E2.out.trans (hx g)))
      clear hR hE hsc1 hbx y0 y1 y2 x0 x1 x2 hB5 hx
      obtain ⟨SF, hSF⟩ : ∃ SF, strOf F = SF := ⟨_, rfl⟩
      rw [hSF] at v6
      have HSF := Lib.hid hSF
      clear hSF
      generalize strOf l = SL at v7 v8
      go_wp2_with fail
      dsimp only [List.append, List.append_eq, List.cons_append, List.nil_append]
      refine region_flow 71 [58, 66, 72, 116] (fun t v => match t with | 58 => ∃ A n c, v = .slice A n c | 66 => v = .int .i64 ((l.length : Int) + 17) | 72 => v = .int .i64 0 | 116 => v = .bool true | _ => False)
        (fun t v w' => match t with | 58 => Bytes w' v F | _ => True) (by kernel_rfl) (by kernel_rfl) ?hq ?hu ?hR ?h
      case hq => intro t v h; split at h <;> simp_all
      case hu => intro t h; split at h <;> simp_all [undef]
      case hR => intro t v w w' h1 h2 h3; split at h1 <;> first | exact h2.ext h3 | trivial
      case h =>
        dsimp only [List.take, List.drop]
        repeat (refine Flow.plain rfl rfl ?_; go_big_quiet_step (fail); refine wpQuiet_nil ?_)
        refine Flow.call Tryd.call25 [.int .i64 s, .int .i64 k, .slice X l.length c] rfl rfl rfl ⟨.slice none 0 0, none, 0, 0, rfl⟩ (fun wx hx hf => (CR.out wx (E2.out.trans hx)).mono ?_) ?_
        · rintro e w3 ⟨A3, n3, c3, rfl, hO3, hE3⟩; exact ⟨_, rfl, hE3, ⟨A3, n3, c3, rfl⟩, hO3.bytes⟩
        rintro v ⟨A3, n3, c3, rfl⟩
        simp only [Act.put, List.setIfInBounds_toArray, List.set_cons_zero, List.set_cons_succ]
        refine Flow.use (.string SF) rfl rfl (fun wx hx hf => run_conv 22 9 (.tmp 58) rfl ?_) ?_
        · have h58 := hf.at 58 (by kernel_rfl) ⟨_, _, _, rfl⟩
          rw [← HSF.out]; exact conv_bytes h58
        simp only [Act.put, List.setIfInBounds_toArray, List.set_cons_zero, List.set_cons_succ]
        repeat (refine Flow.plain rfl rfl ?_; go_big_quiet_step (fail); refine wpQuiet_nil ?_)
        refine Flow.call Tryd.call26 [.int .i64 l.length] rfl rfl rfl ?_ (fun wx hx hf => (size_ext (l.length : Int) wx (by omega) (by omega)).mono ?_) ?_
        · exact ⟨_, rfl⟩
        · exact fun e w' ⟨h1, h2⟩ => ⟨_, h1, h2, rfl, trivial⟩
        rintro v rfl
        simp only [Act.put, List.setIfInBounds_toArray, List.set_cons_zero, List.set_cons_succ]
        repeat (refine Flow.plain rfl rfl ?_; go_big_quiet_step (fail); refine wpQuiet_nil ?_)
        refine Flow.call Tryd.call26 [.int .i64 (-1)] rfl rfl rfl ?_ (fun wx hx hf => (size_neg wx).mono ?_) ?_
        · exact ⟨_, rfl⟩
        · exact fun e w' ⟨h1, h2⟩ => ⟨_, h1, h2 ▸ Ext.refl _, rfl, trivial⟩
        rintro v rfl
        simp only [Act.put, List.setIfInBounds_toArray, List.set_cons_zero, List.set_cons_succ]
        repeat (refine Flow.plain rfl rfl ?_; go_big_quiet_step (fail); refine wpQuiet_nil ?_)
        refine Flow.call Tryd.call9 [] rfl rfl rfl ?_ (fun wx hx hf => (awake_any wx (T.out.ext (E2.out.trans hx))).mono ?_) ?_
        · exact ⟨_, rfl⟩
        · exact fun e w' ⟨h1, h2⟩ => ⟨_, h1, h2, rfl, trivial⟩
        rintro v rfl
        simp only [Act.put, List.setIfInBounds_toArray, List.set_cons_zero, List.set_cons_succ]
        repeat (refine Flow.plain rfl rfl ?_; go_big_quiet_step (fail); refine wpQuiet_nil ?_)
        refine Flow.nil fun w' hx hf => ?_
        clear hf
        go_wp2
        go_ret
        exact ⟨rfl, E2.out.trans hx⟩

end Go.Proofs.YtobnbdoehobigaaDoor
