import Derived.Test.YtbpdjekibcbaaaaSTearL
namespace Go.Proofs.Ytbpdjekibcbaaaa
open Go.RowKit
set_option linter.unusedVariables false
set_option linter.unusedSimpArgs false

theorem header_off {base : Nat} {w w' : World} {A : Option Addr} {n cap : Nat} {l : List Nat} (O : Own base w A n cap l) (hg : w.grownBy w' (Value.ownBlock (.slice A n cap))) {k : Nat} {cs : Array Value} (h : w.heap[k]? = some (Obj.cells cs 23 (0, 0))) : w'.heap[k]? = some (Obj.cells cs 23 (0, 0)) := by
  rw [hg.block k (Array.getElem?_eq_some_iff.1 h).1 ?_]
  · exact h
  · intro e
    obtain ⟨cur, hc⟩ := row_type O.2.1 e.symm
    exact absurd (type_ne hc h) (by decide)

/-- what comes of encoding any header in 32 bytes -/
def encL (g h s l : Int) : List Nat := if EncB g h s l 32 then hdrL g.toNat h.toNat s.toNat l.toNat 32 else []
theorem encL_len (g h s l : Int) : (encL g h s l).length = if EncB g h s l 32 then 32 else 0 := by
  unfold encL
  split
  · rw [hdr_len _ _ _ _ _ (by omega)]
  · rfl
theorem encode_32 (g h s l : Int) (w : World) (hg : g ≤ 9223372036854775807) :
    Calls Try.prog 7 #[.agg #[.int .i64 g, .int .i64 h, .int .i64 s, .int .i64 l], .int .i64 32] w fun e w' => ∃ A c, e = .returned (.slice A (encL g h s l).length c) ∧ Bytes w' (.slice A (encL g h s l).length c) (encL g h s l) ∧ Ext w w' := by
  refine (encode_any g h s l 32 w (by omega) hg).mono ?_
  rintro e w' ⟨v, l', rfl, hB, hE, hl⟩
  have e1 : l' = encL g h s l := hl
  subst e1
  obtain ⟨A, c, rfl, hrest⟩ := hB
  exact ⟨A, c, rfl, ⟨A, c, rfl, hrest⟩, hE⟩

set_option maxRecDepth 100000 in
set_option maxHeartbeats 12800000 in
theorem StoreTears_walk (a0 a1 a2 a3 b0 b1 b2 b3 cut : Int) (w : World) (ha0 : I64 a0) (ha1 : I64 a1) (ha2 : I64 a2) (ha3 : I64 a3) (hb0 : I64 b0) (hb1 : I64 b1) (hb2 : I64 b2) (hb3 : I64 b3) (hcut : I64 cut) :
    Calls Try.prog 4 #[.agg #[.int .i64 a0, .int .i64 a1, .int .i64 a2, .int .i64 a3], .agg #[.int .i64 b0, .int .i64 b1, .int .i64 b2, .int .i64 b3], .int .i64 cut] w fun e w' => e = .returned (.bool true) ∧ Ext w w' := by
  have hg1 : a0 ≤ 9223372036854775807 := ha0.2
  have hg2 : b0 ≤ 9223372036854775807 := hb0.2
  have hc1 : -9223372036854775808 ≤ cut ∧ cut ≤ 9223372036854775807 := hcut
  clear ha0 ha1 ha2 ha3 hb0 hb1 hb2 hb3 hcut
  have AW := Lib.hid (fun wx => awake_any wx)
  have E2 : Hid (Ext w ((w.alloc (.cells #[.int .i64 a0, .int .i64 a1, .int .i64 a2, .int .i64 a3] 23)).alloc (.cells #[.int .i64 b0, .int .i64 b1, .int .i64 b2, .int .i64 b3] 23))) := Lib.hid (((Ext.refl w).alloc _).alloc _)
  go_enter Try.func4, Try.ntmps4
  by_cases c0 : a0 < 1
  · have cc : decide (a0 < 1) = true := decide_eq_true c0
    go_wp2_with fail
    refine (AW.out _).mono ?_
    rintro e w9 ⟨rfl, hE⟩
    have E9 := Lib.hid (E2.out.trans hE)
    clear hE
    go_wp2
    go_ret
    exact ⟨rfl, E9.out⟩
  · skip
    by_cases c1 : b0 < 1
    · have cc : decide (b0 < 1) = true := decide_eq_true c1
      go_wp2_with fail
      refine (AW.out _).mono ?_
      rintro e w9 ⟨rfl, hE⟩
      have E9 := Lib.hid (E2.out.trans hE)
      clear hE
      go_wp2
      go_ret
      exact ⟨rfl, E9.out⟩
    · skip
      by_cases c2 : a0 = b0
      · subst c2
        go_wp2_with fail
        refine (AW.out _).mono ?_
        rintro e w9 ⟨rfl, hE⟩
        have E9 := Lib.hid (E2.out.trans hE)
        clear hE
        go_wp2
        go_ret
        exact ⟨rfl, E9.out⟩
      · have cc2 : (a0 == b0) = false := by simpa using c2
        by_cases c3 : 100 < a2
        · have cc : decide (100 < a2) = true := decide_eq_true c3
          go_wp2_with fail
          refine (AW.out _).mono ?_
          rintro e w9 ⟨rfl, hE⟩
          have E9 := Lib.hid (E2.out.trans hE)
          clear hE
          go_wp2
          go_ret
          exact ⟨rfl, E9.out⟩
        · skip
          by_cases c4 : 100 < a3
          · have cc : decide (100 < a3) = true := decide_eq_true c4
            go_wp2_with fail
            refine (AW.out _).mono ?_
            rintro e w9 ⟨rfl, hE⟩
            have E9 := Lib.hid (E2.out.trans hE)
            clear hE
            go_wp2
            go_ret
            exact ⟨rfl, E9.out⟩
          · skip
            by_cases c5 : 100 < b2
            · have cc : decide (100 < b2) = true := decide_eq_true c5
              go_wp2_with fail
              refine (AW.out _).mono ?_
              rintro e w9 ⟨rfl, hE⟩
              have E9 := Lib.hid (E2.out.trans hE)
              clear hE
              go_wp2
              go_ret
              exact ⟨rfl, E9.out⟩
            · skip
              by_cases c6 : 100 < b3
              · have cc : decide (100 < b3) = true := decide_eq_true c6
                go_wp2_with fail
                refine (AW.out _).mono ?_
                rintro e w9 ⟨rfl, hE⟩
                have E9 := Lib.hid (E2.out.trans hE)
                clear hE
                go_wp2
                go_ret
                exact ⟨rfl, E9.out⟩
              · skip
                go_wp2_with fail
                obtain ⟨q, hq⟩ : ∃ q, w.heap.size = q := ⟨_, rfl⟩
                obtain ⟨w2, hw2⟩ : ∃ w2, (w.alloc (.cells #[.int .i64 a0, .int .i64 a1, .int .i64 a2, .int .i64 a3] 23)).alloc (.cells #[.int .i64 b0, .int .i64 b1, .int .i64 b2, .int .i64 b3] 23) = w2 := ⟨_, rfl⟩
                have hqa : w2.heap[q]? = some (.cells #[.int .i64 a0, .int .i64 a1, .int .i64 a2, .int .i64 a3] 23 (0, 0)) := by
                  rw [← hw2, ← hq]; simp only [World.alloc]; rw [Array.getElem?_push_lt (by simp), Array.getElem_push_eq]
                have hqb : w2.heap[q + 1]? = some (.cells #[.int .i64 b0, .int .i64 b1, .int .i64 b2, .int .i64 b3] 23 (0, 0)) := by
                  rw [← hw2, ← hq]
                  have : w.heap.size + 1 = (w.alloc (.cells #[.int .i64 a0, .int .i64 a1, .int .i64 a2, .int .i64 a3] 23)).heap.size := by simp
                  rw [this]
                  exact heap_alloc_new _ _
                rw [hw2] at E2 ⊢
                rw [hq]
                have BL := Lib.hid (And.intro hqa hqb)
                have e0 : ∀ g', (w2.ext g').cell? ⟨q, 0, none⟩ = some (.int .i64 a0) := fun g' => cell_of_row _ q 0 _ _ (0, 0) (Ext.heapAt (⟨g', rfl⟩ : Ext w2 (w2.ext g')) hqa)
                have e1 : ∀ g', (w2.ext g').cell? ⟨q, 1, none⟩ = some (.int .i64 a1) := fun g' => cell_of_row _ q 1 _ _ (0, 0) (Ext.heapAt (⟨g', rfl⟩ : Ext w2 (w2.ext g')) hqa)
                have e2 : ∀ g', (w2.ext g').cell? ⟨q, 2, none⟩ = some (.int .i64 a2) := fun g' => cell_of_row _ q 2 _ _ (0, 0) (Ext.heapAt (⟨g', rfl⟩ : Ext w2 (w2.ext g')) hqa)
                have e3 : ∀ g', (w2.ext g').cell? ⟨q, 3, none⟩ = some (.int .i64 a3) := fun g' => cell_of_row _ q 3 _ _ (0, 0) (Ext.heapAt (⟨g', rfl⟩ : Ext w2 (w2.ext g')) hqa)
                have e4 : ∀ g', (w2.ext g').cell? ⟨q + 1, 0, none⟩ = some (.int .i64 b0) := fun g' => cell_of_row _ (q + 1) 0 _ _ (0, 0) (Ext.heapAt (⟨g', rfl⟩ : Ext w2 (w2.ext g')) hqb)
                have e5 : ∀ g', (w2.ext g').cell? ⟨q + 1, 1, none⟩ = some (.int .i64 b1) := fun g' => cell_of_row _ (q + 1) 1 _ _ (0, 0) (Ext.heapAt (⟨g', rfl⟩ : Ext w2 (w2.ext g')) hqb)
                have e6 : ∀ g', (w2.ext g').cell? ⟨q + 1, 2, none⟩ = some (.int .i64 b2) := fun g' => cell_of_row _ (q + 1) 2 _ _ (0, 0) (Ext.heapAt (⟨g', rfl⟩ : Ext w2 (w2.ext g')) hqb)
                have e7 : ∀ g', (w2.ext g').cell? ⟨q + 1, 3, none⟩ = some (.int .i64 b3) := fun g' => cell_of_row _ (q + 1) 3 _ _ (0, 0) (Ext.heapAt (⟨g', rfl⟩ : Ext w2 (w2.ext g')) hqb)
                clear hw2 hq hqa hqb
                obtain ⟨la, hla⟩ : ∃ x, encL a0 a1 a2 a3 = x := ⟨_, rfl⟩
                obtain ⟨lb, hlb⟩ : ∃ x, encL b0 b1 b2 b3 = x := ⟨_, rfl⟩
                obtain ⟨na, hna⟩ : ∃ x, la.length = x := ⟨_, rfl⟩
                obtain ⟨nb, hnb⟩ : ∃ x, lb.length = x := ⟨_, rfl⟩
                have EA : Hid (∀ wx, Calls Try.prog 7 #[.agg #[.int .i64 a0, .int .i64 a1, .int .i64 a2, .int .i64 a3], .int .i64 32] wx fun e w' => ∃ A c, e = .returned (.slice A na c) ∧ Bytes w' (.slice A na c) la ∧ Ext wx w') := Lib.hid fun wx => by
                  have := encode_32 a0 a1 a2 a3 wx hg1
                  rwa [hla, hna] at this
                have EB : Hid (∀ wx, Calls Try.prog 7 #[.agg #[.int .i64 b0, .int .i64 b1, .int .i64 b2, .int .i64 b3], .int .i64 32] wx fun e w' => ∃ A c, e = .returned (.slice A nb c) ∧ Bytes w' (.slice A nb c) lb ∧ Ext wx w') := Lib.hid fun wx => by
                  have := encode_32 b0 b1 b2 b3 wx hg2
                  rwa [hlb, hnb] at this
                have HL := Lib.hid (And.intro hla (And.intro hlb (And.intro hna hnb)))
                clear hla hlb hna hnb
                refine region_flow 4 [50, 52] (fun t v => match t with | 50 => ∃ A c, v = .slice A na c | 52 => ∃ A c, v = .slice A nb c | _ => False) (fun t v w' => match t with | 50 => ∃ A c, v = .slice A na c ∧ Bytes w' (.slice A na c) la | 52 => ∃ A c, v = .slice A nb c ∧ Bytes w' (.slice A nb c) lb | _ => True) (by kernel_rfl) (by kernel_rfl) ?hq ?hu ?hR ?h
                case hq => intro t v h; split at h <;> simp_all
                case hu => intro t h; split at h <;> simp_all [undef]
                case hR =>
                  intro t v wx wy _ hR he
                  split at hR
                  · obtain ⟨A, c, e, h1⟩ := hR; exact ⟨A, c, e, h1.ext he⟩
                  · obtain ⟨A, c, e, h1⟩ := hR; exact ⟨A, c, e, h1.ext he⟩
                  · trivial
                case h =>
                  dsimp only [List.take, List.drop]
                  iterate 1 (refine Flow.plain rfl rfl ?_; go_big_quiet_step (fail); refine wpQuiet_nil ?_)
                  refine Flow.call Try.call7 [.agg #[.int .i64 a0, .int .i64 a1, .int .i64 a2, .int .i64 a3], .int .i64 32] rfl rfl rfl ?_ (fun wx hx hf => (EA.out wx).mono ?_) ?_
                  · exact ⟨.slice none na 0, _, _, rfl⟩
                  · rintro e w' ⟨A, c, rfl, hB, hE⟩
                    exact ⟨_, rfl, hE, ⟨A, c, rfl⟩, A, c, rfl, hB⟩
                  rintro v ⟨A, c, rfl⟩
                  simp only [Act.put, List.setIfInBounds_toArray, List.set_cons_zero, List.set_cons_succ]
                  iterate 1 (refine Flow.plain rfl rfl ?_; go_big_quiet_step (fail); refine wpQuiet_nil ?_)
                  refine Flow.call Try.call7 [.agg #[.int .i64 b0, .int .i64 b1, .int .i64 b2, .int .i64 b3], .int .i64 32] rfl rfl rfl ?_ (fun wx hx hf => (EB.out wx).mono ?_) ?_
                  · exact ⟨.slice none nb 0, _, _, rfl⟩
                  · rintro e w' ⟨A, c, rfl, hB, hE⟩
                    exact ⟨_, rfl, hE, ⟨A, c, rfl⟩, A, c, rfl, hB⟩
                  rintro v ⟨B, d, rfl⟩
                  simp only [Act.put, List.setIfInBounds_toArray, List.set_cons_zero, List.set_cons_succ]
                  refine Flow.nil fun w3 hx3 hf => ?_
                  obtain ⟨A2, c2, e9, hBa⟩ := hf 50 (by simp) ⟨A, c, rfl⟩
                  have e9' : (Value.slice A na c) = .slice A2 na c2 := e9
                  simp only [Value.slice.injEq, true_and] at e9'
                  obtain ⟨rfl, rfl⟩ := e9'
                  obtain ⟨B2, d2, e8, hBb⟩ := hf 52 (by simp) ⟨B, d, rfl⟩
                  have e8' : (Value.slice B nb d) = .slice B2 nb d2 := e8
                  simp only [Value.slice.injEq, true_and] at e8'
                  obtain ⟨rfl, rfl⟩ := e8'
                  have E3 := Lib.hid (E2.out.trans hx3)
                  have BA := Lib.hid hBa
                  have BB := Lib.hid hBb
                  have BL3 : Hid (w3.heap[q]? = some (.cells #[.int .i64 a0, .int .i64 a1, .int .i64 a2, .int .i64 a3] 23 (0, 0)) ∧ w3.heap[q + 1]? = some (.cells #[.int .i64 b0, .int .i64 b1, .int .i64 b2, .int .i64 b3] 23 (0, 0))) := Lib.hid ⟨hx3.heapAt BL.out.1, hx3.heapAt BL.out.2⟩
                  clear hf hx3 e9 e8 hBa hBb e0 e1 e2 e3 e4 e5 e6 e7 EA EB E2 BL
                  have E2 := E3
                  by_cases hz : na = 0
                  · have hz' : ((na : Int) == 0) = true := by simp [hz]
                    have HZ := Lib.hid hz
                    clear hz
                    go_wp2_with fail
                    refine (AW.out _).mono ?_
                    rintro e w9 ⟨rfl, hE⟩
                    have E9 := Lib.hid (E2.out.trans hE)
                    clear hE
                    go_wp2
                    go_ret
                    exact ⟨rfl, E9.out⟩
                  · have hz' : ((na : Int) == 0) = false := by simp; omega
                    by_cases hy : nb = 0
                    · have hy' : ((nb : Int) == 0) = true := by simp [hy]
                      have HY := Lib.hid hy
                      clear hy
                      go_wp2_with fail
                      refine (AW.out _).mono ?_
                      rintro e w9 ⟨rfl, hE⟩
                      have E9 := Lib.hid (E2.out.trans hE)
                      clear hE
                      go_wp2
                      go_ret
                      exact ⟨rfl, E9.out⟩
                    · have hy' : ((nb : Int) == 0) = false := by simp; omega
                      have hEa : EncB a0 a1 a2 a3 32 := by
                        by_cases h : EncB a0 a1 a2 a3 32
                        · exact h
                        · exfalso
                          have := encL_len a0 a1 a2 a3
                          rw [if_neg h, HL.out.1, HL.out.2.2.1] at this
                          exact hz this
                      have hEb : EncB b0 b1 b2 b3 32 := by
                        by_cases h : EncB b0 b1 b2 b3 32
                        · exact h
                        · exfalso
                          have := encL_len b0 b1 b2 b3
                          rw [if_neg h, HL.out.2.1, HL.out.2.2.2] at this
                          exact hy this
                      have hna : 32 = na := by
                        have := encL_len a0 a1 a2 a3
                        rw [if_pos hEa, HL.out.1, HL.out.2.2.1] at this
                        exact this.symm
                      have hnb : 32 = nb := by
                        have := encL_len b0 b1 b2 b3
                        rw [if_pos hEb, HL.out.2.1, HL.out.2.2.2] at this
                        exact this.symm
                      subst hna
                      subst hnb
                      have HEA := Lib.hid hEa
                      have HEB := Lib.hid hEb
                      clear hEa hEb hz hy hz' hy'
                      obtain ⟨ga, oa, rfl, hal, hac⟩ : ∃ g o, A = some ⟨g, o, none⟩ ∧ 32 ≤ c ∧ c ≤ 9223372036854775807 := by
                        obtain ⟨X, cc, e, h2, h3, h4, h5, h6⟩ := BA.out
                        have hl32 := HL.out.2.2.1
                        simp only [Value.slice.injEq] at e
                        obtain ⟨rfl, -, rfl⟩ := e
                        obtain ⟨g, o, rfl, -⟩ := h6 (by omega)
                        exact ⟨g, o, rfl, by omega, by omega⟩
                      obtain ⟨gb, ob, rfl, hbl, hbc⟩ : ∃ g o, B = some ⟨g, o, none⟩ ∧ 32 ≤ d ∧ d ≤ 9223372036854775807 := by
                        obtain ⟨X, cc, e, h2, h3, h4, h5, h6⟩ := BB.out
                        have hl32 := HL.out.2.2.2
                        simp only [Value.slice.injEq] at e
                        obtain ⟨rfl, -, rfl⟩ := e
                        obtain ⟨g, o, rfl, -⟩ := h6 (by omega)
                        exact ⟨g, o, rfl, by omega, by omega⟩
                      obtain ⟨nn, hnn⟩ : ∃ nn : Nat, min (max cut 0) 32 = (nn : Int) := ⟨(min (max cut 0) 32).toNat, by omega⟩
                      have hn32 : nn ≤ 32 := by omega
                      have hnd : nn ≤ d := by omega
                      have hnc : nn ≤ c := by omega
                      have YB : Hid (Bytes w3 (.slice (some ⟨gb, ob, none⟩) nn d) (lb.take nn)) := Lib.hid ((BB.out.take nn (by rw [HL.out.2.2.2]; exact hn32)).cap d (by simp; omega) hbc (by simp))
                      have XB := BA.out.drop nn (by rw [HL.out.2.2.1]; exact hn32)
                      have HXB := Lib.hid XB
                      clear XB
                      by_cases hcn : c = nn
                      · have XV : Hid (Bytes w3 (.slice (some ⟨ga, oa, none⟩) (32 - nn) 0) (la.drop nn)) := Lib.hid (HXB.out.2 hcn)
                        clear HXB
                        have hcc3 : (b0 == a0) = false := by rw [Bool.eq_false_iff]; intro h; exact absurd (by simpa using h : b0 = a0).symm (by simpa using cc2)
                        go_wp2_with fail
                        refine region_flow 8 [65, 69] (fun t v => match t with | 65 => ∃ g, v = .slice (some ⟨g, 0, none⟩) 0 0 | 69 => ∃ A k c, v = .slice A k c | _ => False) (fun t v w' => match t with | 65 => ∃ g, v = .slice (some ⟨g, 0, none⟩) 0 0 ∧ Own w.heap.size w' (some ⟨g, 0, none⟩) 0 0 [] | 69 => ∃ A k c, v = .slice A k c ∧ Own w.heap.size w' A k c (lb.take nn) | _ => True) (by kernel_rfl) (by kernel_rfl) ?hq ?hu ?hR ?h
                        case hq => intro t v h; split at h <;> simp_all
                        case hu => intro t h; split at h <;> simp_all [undef]
                        case hR =>
                          intro t v wx wy _ hR he
                          split at hR
                          · obtain ⟨g, e, h1⟩ := hR; exact ⟨g, e, h1.ext he⟩
                          · obtain ⟨A, k, c, e, h1⟩ := hR; exact ⟨A, k, c, e, h1.ext he⟩
                          · trivial
                        case h =>
                          dsimp only [List.take, List.drop]
                          refine Flow.make 65 rfl rfl rfl ⟨_, 0, rfl⟩ (fun wx hx hf => ⟨.slice (some ⟨wx.heap.size, 0, none⟩) 0 0, wx.alloc (.cells #[] 5), by kernel_rfl, (Ext.refl wx).alloc _, ⟨_, rfl⟩, ⟨_, rfl, Own.fresh (E2.out.trans hx) [] (fun i => by simp) (by simp)⟩⟩) ?_
                          rintro _ ⟨g5, rfl⟩
                          simp only [Act.put, List.setIfInBounds_toArray, List.set_cons_zero, List.set_cons_succ]
                          iterate 3 (refine Flow.plain rfl rfl ?_; go_big_quiet_step (fail); refine wpQuiet_nil ?_)
                          refine Flow.make 69 rfl rfl rfl ⟨.slice none 0 0, _, _, _, rfl⟩ (fun wx hx hf => ?_) ?_
                          · obtain ⟨g6, e6, hO⟩ := hf.at 65 (by kernel_rfl) ⟨g5, rfl⟩
                            have e7 : (Value.slice (some ⟨g5, 0, none⟩) 0 0) = .slice (some ⟨g6, 0, none⟩) 0 0 := e6
                            simp only [Value.slice.injEq, Option.some.injEq, Addr.mk.injEq, and_true] at e7
                            subst e7
                            obtain ⟨A', n', c', w', hr, hO2, hE⟩ := run_app_e 24 hO (YB.out.ext hx) (by simp; omega) (E2.out.trans hx).size
                            exact ⟨_, w', run_append (.tmp 65) (.tmp 68) _ rfl hr, hE, ⟨_, _, _, rfl⟩, ⟨_, _, _, rfl, hO2⟩⟩
                          rintro v ⟨A5, k5, c5, rfl⟩
                          simp only [Act.put, List.setIfInBounds_toArray, List.set_cons_zero, List.set_cons_succ]
                          iterate 3 (refine Flow.plain rfl rfl ?_; go_big_quiet_step (fail); refine wpQuiet_nil ?_)
                          refine Flow.nil fun w5 hx5 hf => ?_
                          obtain ⟨A8, k8, c8, e9, hO9⟩ := hf 69 (by simp) ⟨A5, k5, c5, rfl⟩
                          have e10 : (Value.slice A5 k5 c5) = .slice A8 k8 c8 := e9
                          simp only [Value.slice.injEq] at e10
                          obtain ⟨rfl, rfl, rfl⟩ := e10
                          have E5 := Lib.hid (E2.out.trans hx5)
                          have O5 := Lib.hid hO9
                          have Y5 := Lib.hid (XV.out.ext hx5)
                          have Z5 : Hid ((lb.take nn).length + (la.drop nn).length ≤ 70368744177664) := Lib.hid (by have := HL.out.2.2.1; have := HL.out.2.2.2; simp; omega)
                          have S5 := Lib.hid E5.out.size
                          have BL5 : Hid (w5.heap[q]? = some (.cells #[.int .i64 a0, .int .i64 a1, .int .i64 a2, .int .i64 a3] 23 (0, 0)) ∧ w5.heap[q + 1]? = some (.cells #[.int .i64 b0, .int .i64 b1, .int .i64 b2, .int .i64 b3] 23 (0, 0))) := Lib.hid ⟨hx5.heapAt BL3.out.1, hx5.heapAt BL3.out.2⟩
                          clear hf hO9 e9 hx5 YB XV BL3 BA BB E2 E3
                          go_wp2_with (at_builtin; refine wpList_app rfl (.tmp 69) (.tmp 72) rfl rfl rfl O5.out Y5.out Z5.out S5.out ?_)
                          intro A7 k7 c7 w7 hO7 hgr
                          have E7' := E5.out.grown hgr O5.out.row
                          have BL7 : w7.heap[q]? = some (.cells #[.int .i64 a0, .int .i64 a1, .int .i64 a2, .int .i64 a3] 23 (0, 0)) ∧ w7.heap[q + 1]? = some (.cells #[.int .i64 b0, .int .i64 b1, .int .i64 b2, .int .i64 b3] 23 (0, 0)) := by
                            have hk := fun k cs h => header_off (k := k) (cs := cs) O5.out hgr h
                            exact ⟨hk _ _ BL5.out.1, hk _ _ BL5.out.2⟩
                          have B7 := Lib.hid hO7.bytes
                          have E7 := Lib.hid E7'
                          have BL7H := Lib.hid BL7
                          clear hO7 hgr E7' BL7 O5 Y5 Z5 S5 BL5 E5
                          obtain ⟨M, hM⟩ : ∃ M, lb.take nn ++ la.drop nn = M := ⟨_, rfl⟩
                          rw [hM] at B7
                          have hMl : M.length ≤ 600 := by rw [← hM]; have := HL.out.2.2.1; have := HL.out.2.2.2; simp; omega
                          have LAW : Hid (HdrOk M 200 → (((fGen M : Int) = a0 ∧ (fHalf M : Int) = a1 ∧ (fSnap M : Int) = a2 ∧ (fLog M : Int) = a3) ∨ ((fGen M : Int) = b0 ∧ (fHalf M : Int) = b1 ∧ (fSnap M : Int) = b2 ∧ (fLog M : Int) = b3))) := Lib.hid (by
                            have h1 := HEA.out
                            have h2 := HEB.out
                            unfold EncB at h1 h2
                            have la' : la = hdrL a0.toNat a1.toNat a2.toNat a3.toNat 32 := by rw [← HL.out.1]; unfold encL; rw [if_pos HEA.out]
                            have lb' : lb = hdrL b0.toNat b1.toNat b2.toNat b3.toNat 32 := by rw [← HL.out.2.1]; unfold encL; rw [if_pos HEB.out]
                            intro h
                            rw [← hM, la', lb'] at h
                            have ha0 : a0 ≠ b0 := by simpa using cc2
                            have T := torn_law a0.toNat a1.toNat a2.toNat a3.toNat b0.toNat b1.toNat b2.toNat b3.toNat nn 200 (by omega) (by omega) (by omega) hn32 h
                            rw [← la', ← lb', hM] at T
                            rcases T with ⟨t0, t1, t2, t3⟩ | ⟨t0, t1, t2, t3⟩
                            · left; rw [t0, t1, t2, t3]; omega
                            · right; rw [t0, t1, t2, t3]; omega)
                          have DC := Lib.hid (decode_any (.slice A7 k7 c7) M 200 w7 B7.out hMl (by unfold I64; omega))
                          clear hM hMl HL HEA HEB
                          go_wp2_with fail
                          refine DC.out.mono ?_
                          rintro e w8 ⟨rfl, hE8⟩
                          have E8 := Lib.hid (E7.out.trans hE8)
                          have B8 := And.intro (hE8.heapAt BL7H.out.1) (hE8.heapAt BL7H.out.2)
                          have f0 := cell_of_row _ q 0 _ _ (0, 0) B8.1
                          have f1 := cell_of_row _ q 1 _ _ (0, 0) B8.1
                          have f2 := cell_of_row _ q 2 _ _ (0, 0) B8.1
                          have f3 := cell_of_row _ q 3 _ _ (0, 0) B8.1
                          have g0 := cell_of_row _ (q + 1) 0 _ _ (0, 0) B8.2
                          have g1 := cell_of_row _ (q + 1) 1 _ _ (0, 0) B8.2
                          have g2 := cell_of_row _ (q + 1) 2 _ _ (0, 0) B8.2
                          have g3 := cell_of_row _ (q + 1) 3 _ _ (0, 0) B8.2
                          simp only [List.getElem?_toArray, List.getElem?_cons_zero, List.getElem?_cons_succ] at f0 f1 f2 f3 g0 g1 g2 g3
                          have hq8 : q < w8.heap.size := (Array.getElem?_eq_some_iff.1 B8.1).1
                          have hq9 : q + 1 < w8.heap.size := (Array.getElem?_eq_some_iff.1 B8.2).1
                          clear hE8 B8 E7 B7 BL7H DC
                          by_cases hok : HdrOk M 200
                          · unfold decOut
                            rw [if_pos hok]
                            unfold hdrOut
                            rcases LAW.out hok with ⟨t0, t1, t2, t3⟩ | ⟨t0, t1, t2, t3⟩
                            · rw [t0, t1, t2, t3]
                              clear t0 t1 t2 t3 hok LAW
                              go_wp2_with fail
                              refine (AW.out _).mono ?_
                              rintro e w9 ⟨rfl, hE⟩
                              have E9 := Lib.hid ((E8.out.alloc _).trans hE)
                              clear hE
                              go_wp2
                              go_ret
                              exact ⟨rfl, E9.out⟩
                            · rw [t0, t1, t2, t3]
                              clear t0 t1 t2 t3 hok LAW
                              go_wp2_with fail
                              refine (AW.out _).mono ?_
                              rintro e w9 ⟨rfl, hE⟩
                              have E9 := Lib.hid ((E8.out.alloc _).trans hE)
                              clear hE
                              go_wp2
                              go_ret
                              exact ⟨rfl, E9.out⟩
                          · unfold decOut
                            rw [if_neg hok]
                            unfold hdrOut
                            clear hok LAW
                            go_wp2_with fail
                            refine (AW.out _).mono ?_
                            rintro e w9 ⟨rfl, hE⟩
                            have E9 := Lib.hid ((E8.out.alloc _).trans hE)
                            clear hE
                            go_wp2
                            go_ret
                            exact ⟨rfl, E9.out⟩
                      · have XV : Hid (Bytes w3 (.slice (some ⟨ga, oa + nn, none⟩) (32 - nn) (c - nn)) (la.drop nn)) := Lib.hid HXB.out.1
                        clear HXB
                        have hcc3 : (b0 == a0) = false := by rw [Bool.eq_false_iff]; intro h; exact absurd (by simpa using h : b0 = a0).symm (by simpa using cc2)
                        go_wp2_with fail
                        refine region_flow 8 [65, 69] (fun t v => match t with | 65 => ∃ g, v = .slice (some ⟨g, 0, none⟩) 0 0 | 69 => ∃ A k c, v = .slice A k c | _ => False) (fun t v w' => match t with | 65 => ∃ g, v = .slice (some ⟨g, 0, none⟩) 0 0 ∧ Own w.heap.size w' (some ⟨g, 0, none⟩) 0 0 [] | 69 => ∃ A k c, v = .slice A k c ∧ Own w.heap.size w' A k c (lb.take nn) | _ => True) (by kernel_rfl) (by kernel_rfl) ?hq ?hu ?hR ?h
                        case hq => intro t v h; split at h <;> simp_all
                        case hu => intro t h; split at h <;> simp_all [undef]
                        case hR =>
                          intro t v wx wy _ hR he
                          split at hR
                          · obtain ⟨g, e, h1⟩ := hR; exact ⟨g, e, h1.ext he⟩
                          · obtain ⟨A, k, c, e, h1⟩ := hR; exact ⟨A, k, c, e, h1.ext he⟩
                          · trivial
                        case h =>
                          dsimp only [List.take, List.drop]
                          refine Flow.make 65 rfl rfl rfl ⟨_, 0, rfl⟩ (fun wx hx hf => ⟨.slice (some ⟨wx.heap.size, 0, none⟩) 0 0, wx.alloc (.cells #[] 5), by kernel_rfl, (Ext.refl wx).alloc _, ⟨_, rfl⟩, ⟨_, rfl, Own.fresh (E2.out.trans hx) [] (fun i => by simp) (by simp)⟩⟩) ?_
                          rintro _ ⟨g5, rfl⟩
                          simp only [Act.put, List.setIfInBounds_toArray, List.set_cons_zero, List.set_cons_succ]
                          iterate 3 (refine Flow.plain rfl rfl ?_; go_big_quiet_step (fail); refine wpQuiet_nil ?_)
                          refine Flow.make 69 rfl rfl rfl ⟨.slice none 0 0, _, _, _, rfl⟩ (fun wx hx hf => ?_) ?_
                          · obtain ⟨g6, e6, hO⟩ := hf.at 65 (by kernel_rfl) ⟨g5, rfl⟩
                            have e7 : (Value.slice (some ⟨g5, 0, none⟩) 0 0) = .slice (some ⟨g6, 0, none⟩) 0 0 := e6
                            simp only [Value.slice.injEq, Option.some.injEq, Addr.mk.injEq, and_true] at e7
                            subst e7
                            obtain ⟨A', n', c', w', hr, hO2, hE⟩ := run_app_e 24 hO (YB.out.ext hx) (by simp; omega) (E2.out.trans hx).size
                            exact ⟨_, w', run_append (.tmp 65) (.tmp 68) _ rfl hr, hE, ⟨_, _, _, rfl⟩, ⟨_, _, _, rfl, hO2⟩⟩
                          rintro v ⟨A5, k5, c5, rfl⟩
                          simp only [Act.put, List.setIfInBounds_toArray, List.set_cons_zero, List.set_cons_succ]
                          iterate 3 (refine Flow.plain rfl rfl ?_; go_big_quiet_step (fail); refine wpQuiet_nil ?_)
                          refine Flow.nil fun w5 hx5 hf => ?_
                          obtain ⟨A8, k8, c8, e9, hO9⟩ := hf 69 (by simp) ⟨A5, k5, c5, rfl⟩
                          have e10 : (Value.slice A5 k5 c5) = .slice A8 k8 c8 := e9
                          simp only [Value.slice.injEq] at e10
                          obtain ⟨rfl, rfl, rfl⟩ := e10
                          have E5 := Lib.hid (E2.out.trans hx5)
                          have O5 := Lib.hid hO9
                          have Y5 := Lib.hid (XV.out.ext hx5)
                          have Z5 : Hid ((lb.take nn).length + (la.drop nn).length ≤ 70368744177664) := Lib.hid (by have := HL.out.2.2.1; have := HL.out.2.2.2; simp; omega)
                          have S5 := Lib.hid E5.out.size
                          have BL5 : Hid (w5.heap[q]? = some (.cells #[.int .i64 a0, .int .i64 a1, .int .i64 a2, .int .i64 a3] 23 (0, 0)) ∧ w5.heap[q + 1]? = some (.cells #[.int .i64 b0, .int .i64 b1, .int .i64 b2, .int .i64 b3] 23 (0, 0))) := Lib.hid ⟨hx5.heapAt BL3.out.1, hx5.heapAt BL3.out.2⟩
                          clear hf hO9 e9 hx5 YB XV BL3 BA BB E2 E3
                          go_wp2_with (at_builtin; refine wpList_app rfl (.tmp 69) (.tmp 72) rfl rfl rfl O5.out Y5.out Z5.out S5.out ?_)
                          intro A7 k7 c7 w7 hO7 hgr
                          have E7' := E5.out.grown hgr O5.out.row
                          have BL7 : w7.heap[q]? = some (.cells #[.int .i64 a0, .int .i64 a1, .int .i64 a2, .int .i64 a3] 23 (0, 0)) ∧ w7.heap[q + 1]? = some (.cells #[.int .i64 b0, .int .i64 b1, .int .i64 b2, .int .i64 b3] 23 (0, 0)) := by
                            have hk := fun k cs h => header_off (k := k) (cs := cs) O5.out hgr h
                            exact ⟨hk _ _ BL5.out.1, hk _ _ BL5.out.2⟩
                          have B7 := Lib.hid hO7.bytes
                          have E7 := Lib.hid E7'
                          have BL7H := Lib.hid BL7
                          clear hO7 hgr E7' BL7 O5 Y5 Z5 S5 BL5 E5
                          obtain ⟨M, hM⟩ : ∃ M, lb.take nn ++ la.drop nn = M := ⟨_, rfl⟩
                          rw [hM] at B7
                          have hMl : M.length ≤ 600 := by rw [← hM]; have := HL.out.2.2.1; have := HL.out.2.2.2; simp; omega
                          have LAW : Hid (HdrOk M 200 → (((fGen M : Int) = a0 ∧ (fHalf M : Int) = a1 ∧ (fSnap M : Int) = a2 ∧ (fLog M : Int) = a3) ∨ ((fGen M : Int) = b0 ∧ (fHalf M : Int) = b1 ∧ (fSnap M : Int) = b2 ∧ (fLog M : Int) = b3))) := Lib.hid (by
                            have h1 := HEA.out
                            have h2 := HEB.out
                            unfold EncB at h1 h2
                            have la' : la = hdrL a0.toNat a1.toNat a2.toNat a3.toNat 32 := by rw [← HL.out.1]; unfold encL; rw [if_pos HEA.out]
                            have lb' : lb = hdrL b0.toNat b1.toNat b2.toNat b3.toNat 32 := by rw [← HL.out.2.1]; unfold encL; rw [if_pos HEB.out]
                            intro h
                            rw [← hM, la', lb'] at h
                            have ha0 : a0 ≠ b0 := by simpa using cc2
                            have T := torn_law a0.toNat a1.toNat a2.toNat a3.toNat b0.toNat b1.toNat b2.toNat b3.toNat nn 200 (by omega) (by omega) (by omega) hn32 h
                            rw [← la', ← lb', hM] at T
                            rcases T with ⟨t0, t1, t2, t3⟩ | ⟨t0, t1, t2, t3⟩
                            · left; rw [t0, t1, t2, t3]; omega
                            · right; rw [t0, t1, t2, t3]; omega)
                          have DC := Lib.hid (decode_any (.slice A7 k7 c7) M 200 w7 B7.out hMl (by unfold I64; omega))
                          clear hM hMl HL HEA HEB
                          go_wp2_with fail
                          refine DC.out.mono ?_
                          rintro e w8 ⟨rfl, hE8⟩
                          have E8 := Lib.hid (E7.out.trans hE8)
                          have B8 := And.intro (hE8.heapAt BL7H.out.1) (hE8.heapAt BL7H.out.2)
                          have f0 := cell_of_row _ q 0 _ _ (0, 0) B8.1
                          have f1 := cell_of_row _ q 1 _ _ (0, 0) B8.1
                          have f2 := cell_of_row _ q 2 _ _ (0, 0) B8.1
                          have f3 := cell_of_row _ q 3 _ _ (0, 0) B8.1
                          have g0 := cell_of_row _ (q + 1) 0 _ _ (0, 0) B8.2
                          have g1 := cell_of_row _ (q + 1) 1 _ _ (0, 0) B8.2
                          have g2 := cell_of_row _ (q + 1) 2 _ _ (0, 0) B8.2
                          have g3 := cell_of_row _ (q + 1) 3 _ _ (0, 0) B8.2
                          simp only [List.getElem?_toArray, List.getElem?_cons_zero, List.getElem?_cons_succ] at f0 f1 f2 f3 g0 g1 g2 g3
                          have hq8 : q < w8.heap.size := (Array.getElem?_eq_some_iff.1 B8.1).1
                          have hq9 : q + 1 < w8.heap.size := (Array.getElem?_eq_some_iff.1 B8.2).1
                          clear hE8 B8 E7 B7 BL7H DC
                          by_cases hok : HdrOk M 200
                          · unfold decOut
                            rw [if_pos hok]
                            unfold hdrOut
                            rcases LAW.out hok with ⟨t0, t1, t2, t3⟩ | ⟨t0, t1, t2, t3⟩
                            · rw [t0, t1, t2, t3]
                              clear t0 t1 t2 t3 hok LAW
                              go_wp2_with fail
                              refine (AW.out _).mono ?_
                              rintro e w9 ⟨rfl, hE⟩
                              have E9 := Lib.hid ((E8.out.alloc _).trans hE)
                              clear hE
                              go_wp2
                              go_ret
                              exact ⟨rfl, E9.out⟩
                            · rw [t0, t1, t2, t3]
                              clear t0 t1 t2 t3 hok LAW
                              go_wp2_with fail
                              refine (AW.out _).mono ?_
                              rintro e w9 ⟨rfl, hE⟩
                              have E9 := Lib.hid ((E8.out.alloc _).trans hE)
                              clear hE
                              go_wp2
                              go_ret
                              exact ⟨rfl, E9.out⟩
                          · unfold decOut
                            rw [if_neg hok]
                            unfold hdrOut
                            clear hok LAW
                            go_wp2_with fail
                            refine (AW.out _).mono ?_
                            rintro e w9 ⟨rfl, hE⟩
                            have E9 := Lib.hid ((E8.out.alloc _).trans hE)
                            clear hE
                            go_wp2
                            go_ret
                            exact ⟨rfl, E9.out⟩

end Go.Proofs.Ytbpdjekibcbaaaa
