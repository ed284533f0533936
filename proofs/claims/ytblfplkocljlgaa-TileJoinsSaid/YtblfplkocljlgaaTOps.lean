import Derived.Test.YtblfplkocljlgaaTCache
namespace Go.Proofs.Ytblfplkocljlgaa
open Go.RowKit Go.ChangeMaps
set_option linter.unusedVariables false
set_option linter.unusedSimpArgs false

set_option maxHeartbeats 1600000 in
theorem copied_any (W H : Int) (v : Value) (l : List Px) (w : World) (hl : Pix .u8 w v l) (hn : l.length ≤ 1000000) :
    Calls Try.prog 34 #[.agg #[.int .i64 W, .int .i64 H, v]] w fun e w' => ∃ v', e = .returned (.agg #[.int .i64 W, .int .i64 H, v']) ∧ OwnP .u8 68 w.heap.size w' v' l ∧ Ext w w' := by
  have P := Lib.hid hl
  obtain ⟨A, cap, rfl, _⟩ := hl
  obtain ⟨N, hN⟩ : ∃ N, l.length = N := ⟨_, rfl⟩
  rw [hN] at P ⊢
  have HN := Lib.hid hN
  have CL : Hid (∀ wx, Ext w wx → Calls Try.prog 48 #[.slice A N cap] wx fun e w' => ∃ v', e = .returned v' ∧ OwnP .u8 68 wx.heap.size w' v' l ∧ Ext wx w') := Lib.hid
    (fun wx hx => clone_any _ l wx (P.out.ext hx) hn)
  clear hN
  go_enter Try.func34, Try.ntmps34
  go_wp2_with fail
  refine (CL.out _ (((Ext.refl w).alloc _).alloc _)).mono ?_
  rintro e w1 ⟨v1, rfl, hO, g1, rfl⟩
  obtain ⟨A1, cap1, rfl⟩ := own_slice hO.1
  obtain ⟨n1, hn1⟩ : ∃ n1, l.length = n1 := ⟨_, rfl⟩
  rw [hn1] at hO
  have HO := Lib.hid hO
  have HN1 := Lib.hid hn1
  rw [hn1]
  clear hO hn1 CL
  go_wp2
  refine bodyPost_ret (v := .agg #[.int .i64 W, .int .i64 H, .slice A1 n1 cap1]) (by simp [results, Try.results34, go_sem]) rfl ⟨_, rfl, (OwnP.swap HO.out (by simp) (Nat.le_refl _)).mono (by simp; omega), by ((repeat (first | exact Ext.refl _ | apply Ext.alloc | apply Ext.drew' | apply Ext.drewN | apply Ext.ext)))⟩

theorem new_no (n : Int) (w : World) (h1 : -9223372036854775808 ≤ n ∧ n ≤ 9223372036854775807) (h : ¬ (1 ≤ n ∧ n ≤ 4096)) : Calls Try.prog 18 #[.int .i64 n] w fun e w' => e = .returned (.pointer none) ∧ w' = w := by
  by_cases h2 : 1 ≤ n
  · have h3 : 4096 < n := by omega
    go_enter Try.func18, Try.ntmps18
    go_wp2
    go_ret
    exact ⟨rfl, rfl⟩
  · have h3 : n < 1 := by omega
    go_enter Try.func18, Try.ntmps18
    go_wp2
    go_ret
    exact ⟨rfl, rfl⟩

theorem new_yes (n : Nat) (w : World) (h : 1 ≤ n ∧ n ≤ 4096) : Calls Try.prog 18 #[.int .i64 (n : Int)] w fun e w' => e = .returned (.pointer (some ⟨w.heap.size + 1, 0, none⟩)) ∧ TK w' (w.heap.size + 1) ⟨n, []⟩ (fun b => b = w.heap.size ∨ b = w.heap.size + 1) ∧ Ext w w' := by
  have h1 : ¬ (n : Int) < 1 := by omega
  have h2 : ¬ (4096 : Int) < n := by omega
  go_enter Try.func18, Try.ntmps18
  have hm := fun (w : World) => run_makeMap (P := Try.prog) 75 w
  go_wp2
  go_ret
  refine ⟨rfl, ⟨w.heap.size, .slice none 0 0, fun _ => .agg #[], ?_, ?_, OwnK.nil _ _ _, by simp, .inr rfl, .inl rfl, by simp [Value.ownBlock], ?_⟩, by ((repeat (first | exact Ext.refl _ | apply Ext.alloc | apply Ext.drew' | apply Ext.drewN | apply Ext.ext)))⟩
  · have := heap_alloc_new (w.alloc (.map #[] 0)) (.cells #[.int .i64 (n : Int), .map (some w.heap.size), .slice none 0 0] 77)
    simpa using this
  · exact (MapAt.made w).ext ((Ext.refl _).alloc _)
  · rintro b (rfl | rfl)
    · simp; omega
    · simp

def putOk (k : KK) (W H : Int) (l : List Px) : Bool := rightK k && decide (W = 8) && decide (H = 8) && rightI W H l
def TM.add (m : TM) (k : KK) (l : List Px) : TM := { m with l := m.l ++ [(k, l)] }
def TM.trim (m : TM) : TM := if m.most < m.l.length then m.gone (m.keys.getD 0 noK) else m
def TM.put (m : TM) (k : KK) (l : List Px) : TM := ((m.gone k).add k l).trim

theorem TM.keys_add (m : TM) (k : KK) (l : List Px) : (m.add k l).keys = m.keys ++ [k] := by unfold TM.keys TM.add; simp

section
variable {w : World} {c : Nat} {m : TM} {S : Nat → Prop} {M : Nat} {ov : Value} {f : KK → Value}

/-- a tile is put behind those that are there -/
theorem add_mem {wx w3 wy w4 : World} {k : KK} {pv v' : Value} {px : List Px} (h : TKs w c m S M ov f) (hk : ∀ t ∈ m.l, t.1 ≠ k) (he : Ext w wx) (hO : OwnP .u8 68 w.heap.size wx pv px)
    (hM : MapAt w3 M (putK (m.l.map fun t => (t.1, f t.1)) k (.agg #[.int .i64 8, .int .i64 8, pv]))) (hk3 : Keep wx w3 (fun b => b = M)) (hy : Ext w3 wy)
    (hV : OwnK 23 0 w4 v' (m.keys ++ [k])) (hg : wy.grownBy w4 ov.ownBlock) (hown : v'.ownBlock = ov.ownBlock ∨ v'.ownBlock = some wy.heap.size) :
    w4.cell? ⟨c, 2, none⟩ = some ov ∧ w4.frozen? ⟨c, 2, none⟩ = false ∧ TK (w4.setCell ⟨c, 2, none⟩ v') c (m.add k px) (fun b => S b ∨ (w.heap.size ≤ b ∧ b < w4.heap.size)) ∧ Keep w (w4.setCell ⟨c, 2, none⟩ v') S := by
  have hx := h.ext he
  have hk4 := Keep.grown hg
  have hs3 := hk3.size
  have hs4 := hk4.size
  have hsx := he.size
  have hsy := hy.size
  have same3y : ∀ b, b < w3.heap.size → wy.heap[b]? = w3.heap[b]? := fun b hb => by
    rw [hy.heapAt (Array.getElem?_eq_getElem hb), Array.getElem?_eq_getElem hb]
  have b4 : ∀ b, b < wx.heap.size → b ≠ M → ov.ownBlock ≠ some b → w4.heap[b]? = wx.heap[b]? := fun b hb h1 h2 => by
    rw [hk4.block b (by omega) h2, same3y b (by omega), hk3.block b hb h1]
  have hc4 : w4.heap[c]? = some (.cells #[.int .i64 (m.most : Int), .map (some M), ov] 77 (0, 0)) := by rw [b4 c (hx.lt c h.sc) h.cM h.co]; exact hx.blk
  have K5 : Keep w4 (w4.setCell ⟨c, 2, none⟩ v') (fun b => b = c) := Keep.setCell
  have h5 := K5.size
  refine ⟨by rw [cell_of_row w4 c _ _ _ (0, 0) hc4]; rfl, by simp [World.frozen?, hc4], ⟨M, v', fun x => if x = k then .agg #[.int .i64 8, .int .i64 8, pv] else f x, ⟨?_, ?_, ?_, ?_, .inl h.sc, .inl h.sM, ?_, ?_⟩⟩, ?_⟩
  · rw [heap_setCell_same w4 c 2 _ 77 v' hc4]; rfl
  · have hM4 : MapAt w4 M _ := hM.block (by rw [hk4.block M (by have := hM.lt; omega) h.Mo, same3y M hM.lt])
    have := hM4.block (K5.block M hM4.lt h.cM.symm)
    have e : putK (m.l.map fun t => (t.1, f t.1)) k (.agg #[.int .i64 8, .int .i64 8, pv]) = (m.l ++ [(k, px)]).map (fun t => (t.1, if t.1 = k then .agg #[.int .i64 8, .int .i64 8, pv] else f t.1)) := by
      unfold putK
      rw [if_neg, List.map_append]
      · congr 1
        · refine List.map_congr_left (fun t ht => ?_)
          rw [if_neg (hk t ht)]
        · simp
      · simp only [List.any_map, List.any_eq_true, Function.comp, decide_eq_true_eq, not_exists, not_and]
        exact fun t ht => hk t ht
    rw [e] at this
    exact this
  · rw [TM.keys_add]
    exact ⟨own_keepAll hV.1 (fun b hb => K5.block b (hV.1.lt b hb).2 (fun e => by
      rcases hown with h1 | h1
      · exact h.co (by rw [← h1, hb, e])
      · rw [h1] at hb
        simp only [Option.some.injEq] at hb
        have := hx.lt c h.sc
        omega)), hV.2⟩
  · intro t ht
    rcases List.mem_append.1 ht with ht | ht
    · rw [if_neg (hk t ht)]
      refine (hx.px t ht).stay (fun _ x => .inl x) (fun b cur hb hc => ?_)
      have h1 : b ≠ c := fun e => by
        rw [e, hx.blk] at hc
        simp only [Option.some.injEq, Obj.cells.injEq] at hc
        exact absurd hc.2.1 (by decide)
      have h2 : b ≠ M := fun e => by
        obtain ⟨es, clock, h1, _⟩ := hx.mp
        rw [e, h1] at hc
        simp at hc
      have h3 : ov.ownBlock ≠ some b := fun e => by
        obtain ⟨cur', hc'⟩ := row_typ hx.ord.1 e
        rw [hc] at hc'
        simp only [Option.some.injEq, Obj.cells.injEq] at hc'
        exact absurd hc'.2.1 (by decide)
      have hbx := hx.lt b hb
      rw [K5.block b (by omega) h1, b4 b hbx h2 h3]
    · rw [List.mem_singleton.1 ht, if_pos rfl]
      refine ⟨pv, rfl, ⟨own_keepAll (row_mono hO.1 (Nat.zero_le _)) (fun b hb => ?_), hO.2⟩, fun b hb => .inr ⟨(hO.1.lt b hb).1, by have := (hO.1.lt b hb).2; omega⟩⟩
      have hb1 := hO.1.lt b hb
      have h1 : b ≠ c := by have := h.lt c h.sc; omega
      have h2 : b ≠ M := by have := h.lt M h.sM; omega
      have h3 : ov.ownBlock ≠ some b := fun e => by have := h.lt b (h.so b e); omega
      rw [K5.block b (by omega) h1, b4 b hb1.2 h2 h3]
  · intro b hb
    rcases hown with h1 | h1
    · exact .inl (h.so b (h1 ▸ hb))
    · have := (hV.1.lt b hb).2
      rw [h1] at hb
      simp only [Option.some.injEq] at hb
      exact .inr ⟨by omega, this⟩
  · rintro b (hb | hb)
    · have := hx.lt b hb; omega
    · omega
  · refine ((((Keep.ofExt he S).trans (hk3.mono (T := S) (fun b e => by rw [e]; exact h.sM)) (fun _ _ x => x)).trans (Keep.ofExt hy S) (fun _ _ x => x)).trans (hk4.mono (T := S) (fun b e => h.so b e)) (fun _ _ x => x)).trans (K5.mono (T := S) (fun b e => by rw [e]; exact h.sc)) (fun _ _ x => x)
end

end Go.Proofs.Ytblfplkocljlgaa
