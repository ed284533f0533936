import Derived.Test.YtblfplkocljlgaaTDel
namespace Go.Proofs.Ytblfplkocljlgaa
open Go.RowKit Go.ChangeMaps
set_option linter.unusedVariables false
set_option linter.unusedSimpArgs false

def dropK (l : List KK) (k : KK) : List KK := l.filter (fun p => decide (p ≠ k))

theorem dropK_take (l : List KK) (k : KK) (j : Nat) (hj : j < l.length) : dropK (l.take (j + 1)) k = dropK (l.take j) k ++ (if l.getD j noK = k then [] else [l.getD j noK]) := by
  rw [take_succ_getD l j noK hj]
  unfold dropK
  rw [List.filter_append]
  by_cases h : l.getD j noK = k
  · rw [if_pos h]; simp only [h, List.filter_cons, List.filter_nil]; simp
  · rw [if_neg h, List.filter_cons_of_pos (by simpa using h)]; rfl

theorem inK_sub {l m : List KK} (h : ∀ i, inK (l.getD i noK)) (hm : ∀ p ∈ m, p ∈ l) (i : Nat) : inK (m.getD i noK) := by
  rw [List.getD_eq_getElem?_getD]
  cases hi : m[i]? with
  | none => simp [inK, noK]
  | some p =>
    obtain ⟨j, hj, e⟩ := List.getElem_of_mem (hm p (List.mem_of_getElem? hi))
    have := h j
    rw [List.getD_eq_getElem?_getD, List.getElem?_eq_getElem hj, e] at this
    simpa using this

set_option maxRecDepth 100000 in
set_option maxHeartbeats 3200000 in
theorem delete_any (v : Value) (l : List KK) (k : KK) (base g : Nat) (w : World) (hl : OwnK 23 base w v l) (k0 : w.cell? ⟨g, 0, none⟩ = some (.int .i64 k.1)) (k1 : w.cell? ⟨g, 1, none⟩ = some (.int .i64 k.2)) (hg : g < w.heap.size) (hgr : v.ownBlock ≠ some g) (hlen : l.length ≤ 1000000) :
    Calls Try.prog 46 #[v, .func (.func 47) #[] #[.pointer (some ⟨g, 0, none⟩)]] w fun e w' => ∃ v', e = .returned v' ∧ OwnK 23 base w' v' (dropK l k) ∧ v'.ownBlock = v.ownBlock ∧ Keep w w' (fun b => v.ownBlock = some b) := by
  have O := Lib.hid hl
  have KI := Lib.hid (kindex_any v l k g w hl.kys k0 k1 hg)
  have KC := Lib.hid (And.intro hg (And.intro k0 k1))
  obtain ⟨A, cap, rfl⟩ := own_slice hl.1
  obtain ⟨N, hN⟩ : ∃ N, l.length = N := ⟨_, rfl⟩
  rw [hN] at O KI hgr ⊢
  have HN := Lib.hid hN
  have hN2 : N ≤ 1000000 := by omega
  rcases firstK_spec k l 0 with ⟨hf, hall⟩ | ⟨i0, hf, hi0, hk0, hbef⟩
  · rw [hf] at KI
    have hd : dropK l k = l := List.filter_eq_self.2 (fun p hp => by simpa using hall p hp)
    have HD := Lib.hid hd
    clear hN k0 k1 hg hf hall hd hl hgr
    go_enter Try.func46, Try.ntmps46
    go_wp2_with fail
    refine KI.out.mono ?_
    rintro e w1 ⟨rfl, hE⟩
    have E := Lib.hid hE
    clear hE
    go_wp2
    go_ret
    exact ⟨_, rfl, by rw [HD.out]; exact O.out.ext E.out, rfl, Keep.ofExt E.out _⟩
  · rw [hf] at KI
    simp only [Nat.zero_add] at KI
    obtain ⟨q, tl, rfl, _, hq, hcap, hmx, hR, hsz⟩ := hl.rowK (by omega)
    have HR := Lib.hid hR
    have hgq : g ≠ q := fun e => hgr (by rw [e]; rfl)
    have HQ := Lib.hid (And.intro hq (And.intro hmx (And.intro hsz hgq)))
    have hq2 : q < w.heap.size := (Array.getElem?_eq_some_iff.1 hR).1
    have H0 : Hid (dropK (l.take (i0 + 1)) k = l.take i0) := Lib.hid (by
      rw [dropK_take l k i0 hi0, if_pos hk0, List.append_nil]
      exact List.filter_eq_self.2 (fun p hp => by simpa using hbef p hp))
    have hi0' : i0 < N := by omega
    clear hN k0 k1 hg hf hl hgr hbef hk0 hi0 hR hq hsz hgq
    go_enter Try.func46, Try.ntmps46
    go_wp2_with fail
    refine KI.out.mono ?_
    rintro e w1 ⟨rfl, hE⟩
    have E := Lib.hid hE
    clear hE
    have hne : ((i0 : Int) == -1) = false := by simp
    go_wp2
    go_loopw [5, 6] (fun t5 t6 wr => ∃ (i j : Nat) (mid : List KK), t5 = .int .i64 (i : Int) ∧ t6 = .int .i64 (j : Int) ∧ j ≤ N ∧ i + mid.length = j ∧ 0 < mid.length ∧ Hid (i = (dropK (l.take j) k).length ∧ RowK wr q (dropK (l.take j) k ++ mid ++ l.drop j) tl ∧ Keep w wr (fun b => b = q))) (fun _ t6 _ => N - (intOf t6).toNat)
    case atStart =>
      refine ⟨i0, i0 + 1, [l.getD i0 noK], rfl, by go_num, by omega, rfl, by simp, Lib.hid ⟨?_, ?_, Keep.ofExt E.out _⟩⟩
      · rw [H0.out, List.length_take, HN.out]; omega
      · rw [H0.out, ← take_succ_getD l i0 noK (by rw [HN.out]; omega), List.take_append_drop]
        exact E.out.heapAt HR.out
    case round =>
      obtain ⟨i, j, mid, rfl, rfl, hj, him, hmid, HI⟩ := hrel
      have hqr : q < wr.heap.size := Nat.lt_of_lt_of_le hq2 HI.out.2.2.size
      have LEN : Hid ((dropK (l.take j) k ++ mid ++ l.drop j).length = N) := Lib.hid (by
        have := HI.out.1; simp only [List.length_append, List.length_drop, HN.out]; omega)
      by_cases hlt : j < N
      · have hlt' : (j : Int) < (N : Int) := by omega
        obtain ⟨⟨x, y⟩, hp⟩ : ∃ p, l.getD j noK = p := ⟨_, rfl⟩
        have hgl : (dropK (l.take j) k ++ mid ++ l.drop j).getD j noK = (x, y) := by
          rw [List.getD_eq_getElem?_getD, List.getElem?_append_right (by have := HI.out.1; simp only [List.length_append]; omega), List.getElem?_drop, ← hp, List.getD_eq_getElem?_getD]
          congr 2
          have := HI.out.1
          simp only [List.length_append]; omega
        obtain ⟨c0, c1⟩ := HI.out.2.1.cell (i := j) (by rw [LEN.out]; omega)
        rw [hgl] at c0 c1
        simp only at c0 c1
        have f0 := HI.out.2.1.frozen (i * 2)
        have f1 := HI.out.2.1.frozen (i * 2 + 1)
        obtain ⟨d0, d1⟩ := HI.out.2.1.cell (i := i) (by rw [LEN.out]; omega)
        have HP := Lib.hid hp
        have HT := Lib.hid (dropK_take l k j (by rw [HN.out]; omega))
        rw [hp] at HT
        have HW : Hid (∀ wx, Ext wr wx → Calls Try.prog 47 #[.agg #[.int .i64 x, .int .i64 y], .pointer (some ⟨g, 0, none⟩)] wx fun e w' => e = .returned (.bool (decide ((x, y) = k))) ∧ Ext wx w') := Lib.hid
          (fun wx hx => gone1_any (x, y) k g wx (by rw [hx.cell (Nat.lt_of_lt_of_le KC.out.1 HI.out.2.2.size), HI.out.2.2.cell KC.out.1 HQ.out.2.2.2]; exact KC.out.2.1) (by rw [hx.cell (Nat.lt_of_lt_of_le KC.out.1 HI.out.2.2.size), HI.out.2.2.cell KC.out.1 HQ.out.2.2.2]; exact KC.out.2.2) (Nat.lt_of_lt_of_le (Nat.lt_of_lt_of_le KC.out.1 HI.out.2.2.size) hx.size))
        clear hp hgl
        by_cases hr : (x, y) = k
        · have hr' : decide ((x, y) = k) = true := by simpa using hr
          rw [hr'] at HW
          have HS : Hid (dropK (l.take (j + 1)) k = dropK (l.take j) k) := Lib.hid (by rw [HT.out, if_pos hr, List.append_nil])
          clear hr hr'
          go_wp2_with fail
          refine (HW.out _ ((Ext.refl wr).alloc _)).mono ?_
          rintro e w2 ⟨rfl, g1, rfl⟩
          go_wp2
          go_roundw
          case rel =>
            refine ⟨i, j + 1, mid ++ [(x, y)], rfl, by go_num, by omega, by simp; omega, by simp, Lib.hid ⟨by rw [HS.out]; exact HI.out.1, ?_, ?_⟩⟩
            · rw [HS.out]
              have hd := drop_cons l j noK (by rw [HN.out]; omega)
              rw [HP.out] at hd
              have := HI.out.2.1
              rw [hd] at this
              have e : dropK (l.take j) k ++ (mid ++ [(x, y)]) ++ l.drop (j + 1) = dropK (l.take j) k ++ mid ++ ((x, y) :: l.drop (j + 1)) := by simp
              rw [e]
              exact (((Ext.refl wr).alloc _).ext g1).heapAt this
            · exact HI.out.2.2.trans (Keep.ofExt (((Ext.refl wr).alloc _).ext g1) _) (fun _ _ h => h)
          case measure => simp [intOf]; omega
        · have hr' : decide ((x, y) = k) = false := by simpa using hr
          rw [hr'] at HW
          have HS : Hid (dropK (l.take (j + 1)) k = dropK (l.take j) k ++ [(x, y)]) := Lib.hid (by rw [HT.out, if_neg hr])
          clear hr hr'
          have g0 := HI.out.2.1.frozen (i * 2)
          have g1 := HI.out.2.1.frozen (i * 2 + 1)
          go_wp2_with fail
          refine (HW.out _ ((Ext.refl wr).alloc _)).mono ?_
          rintro e w2 ⟨rfl, g1, rfl⟩
          go_wp2
          go_roundw
          case rel =>
            obtain ⟨m0, mid', rfl⟩ : ∃ a b, mid = a :: b := by cases mid with | nil => simp at hmid | cons a b => exact ⟨a, b, rfl⟩
            simp only [List.length_cons] at him
            have hlen1 := HI.out.1
            refine ⟨i + 1, j + 1, mid' ++ [(x, y)], by go_num, by go_num, by omega, by simp; omega, by simp, Lib.hid ⟨by rw [HS.out]; simp; exact hlen1, ?_, ?_⟩⟩
            · rw [HS.out]
              have hd := drop_cons l j noK (by rw [HN.out]; omega)
              rw [HP.out] at hd
              have := HI.out.2.1.set (i := i) (by rw [LEN.out]; omega) (x, y)
              rw [hd] at this
              have e : (dropK (l.take j) k ++ m0 :: mid' ++ (x, y) :: l.drop (j + 1)).set i (x, y) = dropK (l.take j) k ++ [(x, y)] ++ (mid' ++ [(x, y)]) ++ l.drop (j + 1) := by
                rw [List.append_assoc, List.set_append_right _ _ (by omega), show i - (dropK (l.take j) k).length = 0 by omega]
                simp
              rw [e] at this
              exact (((Ext.refl _).alloc _).ext g1).heapAt this
            · exact (HI.out.2.2.trans (Keep.setCell.trans Keep.setCell (fun _ _ h => h)) (fun _ _ h => h)).trans (Keep.ofExt (((Ext.refl _).alloc _).ext g1) _) (fun _ _ h => h)
          case measure => simp [intOf]; omega
      · have hlt' : ¬ (j : Int) < (N : Int) := by omega
        obtain rfl : j = N := by omega
        have hic : i < cap := by have := HN.out; omega
        have hcap' : j ≤ cap := by have := HN.out; omega
        have hfull : dropK (l.take j) k = dropK l k := by rw [← HN.out, List.take_length]
        have hR := HI.out.2.1
        rw [List.drop_eq_nil_of_le (by have := HN.out; omega), List.append_nil, hfull] at hR
        have hi := HI.out.1
        rw [hfull] at hi
        obtain ⟨w3, hc3, hR3, hK3⟩ := hR.clear hmid (cap - i) 0
        rw [← hi, show mid.length = j - i by omega] at hc3
        have HX := Lib.hid (And.intro hR3 (HI.out.2.2.trans hK3 (fun _ _ h => h)))
        have HF := Lib.hid hi
        clear hR hR3 hK3 hfull hi
        go_wp2
        go_ret
        refine ⟨_, rfl, ?_, rfl, HX.out.2.mono (fun b e => by rw [e]; rfl)⟩
        have hll := congrArg List.length (show (dropK l k ++ List.replicate mid.length noK) = _ from rfl)
        refine HX.out.1.own HQ.out.1 HF.out ?_ HQ.out.2.1 (inK_sub O.out.2 (fun p hp => (List.mem_filter.1 hp).1))
        have := HQ.out.2.2.1
        rw [HN.out] at this
        rw [← HF.out, List.length_replicate]
        omega

end Go.Proofs.Ytblfplkocljlgaa
