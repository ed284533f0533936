import Derived.Test.YtbpdjekibcbaaaaSApp
namespace Go.Proofs.Ytbpdjekibcbaaaa
open Go.RowKit
set_option linter.unusedVariables false
set_option linter.unusedSimpArgs false

set_option maxRecDepth 100000 in
set_option maxHeartbeats 6400000 in
theorem compact_no {base : Nat} {w : World} {s D : Nat} {m : DM} {h : Hd} {b : List Nat} {n : Nat} (v : Value) (l : List Nat) (H : StOk base w s D m h b n) (hv : Bytes w v l) (hl : l.length ≤ 100000) (hno : m.hs * m.sz < l.length) :
    Calls Try.prog 19 #[.pointer (some ⟨s, 0, none⟩), v] w fun e w' => e = .returned (.int .i64 42) ∧ Ext w w' := by
  obtain ⟨A, k, cap, hs⟩ := H.st
  have hb := H.r.bounds
  have RO := scap_any hs H.dk (by omega) (by omega)
  rw [hb.2.2.2.2.2.1] at RO
  obtain ⟨R, hR⟩ : ∃ R, m.hs * m.sz = R := ⟨_, rfl⟩
  rw [hR] at RO hno
  have hRl : (R : Int) < (l.length : Int) := by omega
  have ROH := Lib.hid RO
  obtain ⟨Av, cv, rfl, _⟩ := hv
  obtain ⟨N, hN⟩ : ∃ N, l.length = N := ⟨_, rfl⟩
  rw [hN] at hRl ⊢
  clear RO hR hN hl hno hs H hb
  go_enter Try.func19, Try.ntmps19
  go_wp2_with fail
  refine ROH.out.mono ?_
  rintro e w1 ⟨rfl, hE⟩
  have E1 := Lib.hid hE
  clear hE
  go_wp2
  go_ret
  exact ⟨rfl, E1.out⟩

set_option maxRecDepth 100000 in
set_option maxHeartbeats 6400000 in
theorem compact_yes {base : Nat} {w : World} {s D : Nat} {m : DM} {h : Hd} {b : List Nat} {n : Nat} (v : Value) (l : List Nat) (H : StOk base w s D m h b n) (hn : n ≤ 700000) (hv : Bytes w v l) (hyes : l.length ≤ m.hs * m.sz) :
    Calls Try.prog 19 #[.pointer (some ⟨s, 0, none⟩), v] w fun e w' => e = .returned (.int .i64 0) ∧ StOk base w' s D (m.com h l) (h.com l.length) l (n + 100) ∧ Keep w w' (TchS base w) := by
  obtain ⟨A, k, cap, hs⟩ := H.st
  have hb := H.r.bounds
  have hgen := H.gen
  have hhalf := H.half
  have RO := scap_any hs H.dk (by omega) (by omega)
  rw [hb.2.2.2.2.2.1] at RO
  obtain ⟨R, hR⟩ : ∃ R, m.hs * m.sz = R := ⟨_, rfl⟩
  rw [hR] at RO
  have hRl : ¬ (R : Int) < (l.length : Int) := by omega
  have ROH := Lib.hid RO
  have VB := Lib.hid hv
  obtain ⟨Av, cv, rfl, _⟩ := hv
  obtain ⟨N, hN⟩ : ∃ N, l.length = N := ⟨_, rfl⟩
  have hNb : N ≤ 14848 := by omega
  have CO := H.r.cnt_ok (half := 1 - h.half) (len := l.length) (fr := 0) (by omega) hyes (by omega)
  have POST : Hid (∀ w', DK base w' D (m.com h l) → (∃ A k cap, StAt base w' s D (h.com l.length) A k cap l false) → base ≤ w'.heap.size → StOk base w' s D (m.com h l) (h.com l.length) l (n + 100)) := Lib.hid fun w' h1 h2 h3 =>
    ⟨h1, h2, H.r.saved (h.com l.length) l _ _ CO.1 CO.2, by simp [Hd.com], by
      have e1 : (m.com h l).hs = m.hs := by unfold DM.com DM.saved DM.hs; simp only [List.length_set, layB_len]
      have e2 : (m.com h l).sz = m.sz := rfl
      rw [e1, e2]; exact hyes, by show 1 - h.half ≤ 1; omega, by show h.gen + 1 ≤ n + 100; omega, h3⟩
  have SAV : Hid (∀ wx, Ext w wx → ∀ Ab nb cb, Own base wx Ab nb cb l → Calls Try.prog 34 #[.pointer (some ⟨s, 0, none⟩), .agg #[.int .i64 ((h.gen + 1 : Nat) : Int), .int .i64 ((1 - h.half : Nat) : Int), .int .i64 (l.length : Int), .int .i64 ((0 : Nat) : Int)], .slice Ab nb cb, .int .i64 ((0 : Nat) : Int)] wx fun e w' =>
      e = .returned (.int .i64 0) ∧ StAt base w' s D (h.com l.length) Ab nb cb l false ∧ DK base w' D (m.com h l) ∧ Keep wx w' (TchS base wx)) := Lib.hid fun wx he Ab nb cb O =>
    save_any s D m h (h.com l.length) A k cap b Ab nb cb l 0 n wx (hs.ext he) (H.dk.ext he) H.r (by omega) O (Nat.le_trans H.lo he.size) (by show h.gen + 1 ≤ _; omega) (by show 1 - h.half ≤ 1; omega) (by show l.length ≤ _; omega) (by show 0 ≤ _; omega) hyes (by omega)
  have HLO := Lib.hid H.lo
  obtain ⟨c0, c1, c2, c3, c4, c5, c6, cf, cl⟩ := hs.cells
  obtain ⟨HF, hHF⟩ : ∃ x, 1 - h.half = x := ⟨_, rfl⟩
  have hhf : 1 - (h.half : Int) = (HF : Int) := by omega
  rw [hHF] at SAV
  rw [hN] at hRl SAV ⊢
  rw [hN] at VB
  have HNN := Lib.hid hN
  clear RO hR hN hyes hs H hb CO hHF
  go_enter Try.func19, Try.ntmps19
  go_wp2_with fail
  refine ROH.out.mono ?_
  rintro e w1 ⟨rfl, hE⟩
  have E1 := Lib.hid hE
  have hs1 : s < w1.heap.size := Nat.lt_of_lt_of_le cl hE.size
  clear hE
  go_wp2_with fail
  have e1 : ∀ g', (w1.ext g').cell? ⟨s, 1, none⟩ = some (.int .i64 (h.gen : Int)) := fun g' => ((E1.out.trans ⟨g', rfl⟩).cell cl).trans c1
  have e2 : ∀ g', (w1.ext g').cell? ⟨s, 2, none⟩ = some (.int .i64 (h.half : Int)) := fun g' => ((E1.out.trans ⟨g', rfl⟩).cell cl).trans c2
  clear c0 c1 c2 c3 c4 c5 c6 cf hs1
  refine region_flow 18 [27] (fun t v => match t with | 27 => ∃ A9 k9 c9, v = .slice A9 k9 c9 | _ => False)
    (fun t v w' => match t with | 27 => ∃ A9 k9 c9, v = .slice A9 k9 c9 ∧ Own base w' A9 k9 c9 l | _ => True) (by kernel_rfl) (by kernel_rfl) ?hq ?hu ?hR ?h
  case hq => intro t v h; split at h <;> simp_all
  case hu => intro t h; split at h <;> simp_all [undef]
  case hR =>
    intro t v wx wy _ hR he
    split at hR
    · obtain ⟨A9, k9, c9, e, h1⟩ := hR; exact ⟨A9, k9, c9, e, h1.ext he⟩
    · trivial
  case h =>
    dsimp only [List.take, List.drop]
    iterate 17 (refine Flow.plain rfl rfl ?_; go_big_quiet_step (fail); refine wpQuiet_nil ?_)
    refine Flow.call Try.call40 [.slice Av N cv] rfl rfl rfl ?_ (fun wx hx hf => ?_) ?_
    · exact ⟨.slice none 0 0, none, 0, 0, rfl⟩
    · have hE0 : Ext w wx := E1.out.trans hx
      refine (clone_any _ l wx (VB.out.ext hE0) (by rw [HNN.out]; omega)).mono ?_
      rintro e w' ⟨A9, n9, c9, he, hO, hE⟩
      exact ⟨_, he, hE, ⟨_, _, _, rfl⟩, ⟨_, _, _, rfl, hO.mono (Nat.le_trans HLO.out hE0.size)⟩⟩
    rintro v ⟨A9, k9, c9, rfl⟩
    simp only [Act.put, List.setIfInBounds_toArray, List.set_cons_zero, List.set_cons_succ]
    refine Flow.nil fun w5 hx5 hf => ?_
    obtain ⟨A8, k8, c8, e9, hO9⟩ := hf 27 (by simp) ⟨A9, k9, c9, rfl⟩
    have e10 : (Value.slice A9 k9 c9) = .slice A8 k8 c8 := e9
    simp only [Value.slice.injEq] at e10
    obtain ⟨rfl, rfl, rfl⟩ := e10
    have E5 := Lib.hid (E1.out.trans hx5)
    have SV := SAV.out w5 E5.out A9 k9 c9 hO9
    have SVH := Lib.hid SV
    clear hf hO9 e9 SV SAV e1 e2 hx5 E1
    go_wp2_with fail
    refine SVH.out.mono ?_
    rintro e w6 ⟨rfl, h1, h2, h3⟩
    have P := Lib.hid (POST.out w6 h2 ⟨_, _, _, by rw [HNN.out]; exact h1⟩ (Nat.le_trans HLO.out (Nat.le_trans E5.out.size h3.size)))
    have K := Lib.hid ((Keep.ofExt E5.out (TchS base w)).tchS h3)
    clear h1 h2 h3
    go_wp2
    go_ret
    rw [HNN.out] at P
    exact ⟨rfl, P.out, K.out⟩

end Go.Proofs.Ytbpdjekibcbaaaa
