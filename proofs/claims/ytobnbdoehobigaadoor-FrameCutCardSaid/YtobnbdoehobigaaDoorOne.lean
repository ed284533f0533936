import Derived.Test.YtobnbdoehobigaaDoorLow
import Derived.Test.YtobnbdoehobigaaDoorRefRead
import Derived.Deep.RegionHeld3
namespace Go.Proofs.YtobnbdoehobigaaDoor
open Go.RowKit
set_option linter.unusedVariables false
set_option linter.unusedSimpArgs false

theorem Bytes.sub {w : World} {b off N c : Nat} {l : List Nat} (h : Bytes w (.slice (some ⟨b, off, none⟩) N c) l) (lo len : Nat) (hl : lo + len ≤ l.length) :
    Bytes w (.slice (some ⟨b, off + lo, none⟩) len (c - lo)) ((l.drop lo).take len) := by
  have hN := h.len
  have hc : l.length ≤ c ∧ c ≤ 9223372036854775807 := by
    obtain ⟨A, cap, e, h2, h3, _⟩ := h
    simp only [Value.slice.injEq] at e
    obtain ⟨_, _, rfl⟩ := e
    exact ⟨h2, h3⟩
  exact ((h.drop lo (by omega)).1.take len (by simp; omega)).cap (c - lo) (by simp; omega) (by omega) (fun h => by cases h)

/-- the record at the head of bytes: its number (as 64 bits), kind and data; none: there is none -/
def oneL (b : List Nat) : Option (Nat × Nat × List Nat) :=
  if b.length < 13 then none
  else if 1048576 < beV (b.take 4) ∨ b.length < beV (b.take 4) + 17 then none
  else if beV ((b.drop (13 + beV (b.take 4))).take 4) ≠ 4294967295 - crc 4294967295 (b.take (13 + beV (b.take 4))) then none
  else some (beV ((b.drop 4).take 8), b.getD 12 0, (b.drop 13).take (beV (b.take 4)))

def OnePost (w w' : World) (o : Option (Nat × Nat × List Nat)) (e : Ending) : Prop :=
  match o with
  | none => e = .returned (.tuple #[.agg #[.int .i64 0, .int .i64 0, .slice none 0 0], .bool false]) ∧ Ext w w'
  | some (s, k, d) => ∃ A n c, e = .returned (.tuple #[.agg #[.int .i64 (IntKind.i64.wrap s), .int .i64 k, .slice A n c], .bool true]) ∧ Own w.heap.size w' A n c d ∧ Ext w w'

theorem keep_swap (w : World) (o1 o2 : Obj) (g g5 : Junk) : Keep (((w.alloc o1).ext g).ext g5) (((w.alloc o2).ext g).ext g5) (fun k => k = w.heap.size) := by
  refine ⟨rfl, rfl, rfl, by simp [World.ext], fun k hk hn => ?_⟩
  have h0 : ∀ o : Obj, (w.alloc o).heap[k]? = w.heap[k]? := fun o => by
    show (w.heap.push o)[k]? = _
    rw [Array.getElem?_push, if_neg hn]
  simp [World.ext, Array.getElem?_append, h0]

theorem one_short {b : List Nat} (h : b.length < 13) : oneL b = none := by unfold oneL; rw [if_pos h]
theorem one_wide {b : List Nat} {n : Nat} (h : ¬ b.length < 13) (hn : beV (b.take 4) = n) (hw : 1048576 < n ∨ b.length < n + 17) : oneL b = none := by unfold oneL; rw [if_neg h, hn, if_pos hw]
theorem one_sum {b : List Nat} {n s c : Nat} (h : ¬ b.length < 13) (hn : beV (b.take 4) = n) (hw : ¬ (1048576 < n ∨ b.length < n + 17)) (hs : beV ((b.drop (13 + n)).take 4) = s) (hc : 4294967295 - crc 4294967295 (b.take (13 + n)) = c) :
    oneL b = if s ≠ c then none else some (beV ((b.drop 4).take 8), b.getD 12 0, (b.drop 13).take n) := by unfold oneL; rw [if_neg h, hn, if_neg hw, hs, hc]

set_option maxRecDepth 100000 in
set_option maxHeartbeats 6400000 in
theorem one_any (v : Value) (l : List Nat) (w : World) (hb : Bytes w v l) (hT : Tab w) (hl : l.length ≤ 4294967296) :
    Calls Tryd.prog 36 #[v] w fun e w' => OnePost w w' (oneL l) e := by
  have B := Lib.hid hb
  have T := Lib.hid hT
  obtain ⟨X, c, rfl, c2, c3, c4, c5, c6⟩ := hb
  have H5 := Lib.hid c5
  have C6 := Lib.hid c6
  clear c4 c5 c6 hT
  obtain ⟨N, hN⟩ : ∃ N, l.length = N := ⟨_, rfl⟩
  rw [hN] at hl c2 B C6
  rw [hN]
  have HN := Lib.hid hN
  clear hN
  obtain ⟨D, hD⟩ : ∃ D, oneL l = D := ⟨_, rfl⟩
  rw [hD]
  have HD := Lib.hid hD
  clear hD
  by_cases h13 : N < 13
  · have h13' : (N : Int) < 13 := by omega
    have hd : D = none := by rw [← HD.out]; exact one_short (by rw [HN.out]; exact h13)
    subst hd
    go_enter Tryd.func36, Tryd.ntmps36
    go_wp2
    exact bodyPost_ret (v := .tuple #[.agg #[.int .i64 0, .int .i64 0, .slice none 0 0], .bool false]) (by simp [results, Tryd.results36, go_sem]) rfl ⟨rfl, (Ext.refl w).alloc _⟩
  · have h13' : ¬ (N : Int) < 13 := by omega
    obtain ⟨b, off, rfl, hbs, hcells⟩ := C6.out (by have := HN.out; omega)
    have hk12 := hcells 12 (by omega)
    obtain ⟨n, hn⟩ : ∃ n, beV (l.take 4) = n := ⟨_, rfl⟩
    have hn32 : n < 4294967296 := by
      rw [← hn]
      exact beV_lt l H5.out 4 (by have := HN.out; omega)
    have HNN := Lib.hid hn
    have C4 := Lib.hid (fun (wx : World) (hx : Ext w wx) => low_any (.slice (some ⟨b, off, none⟩) 4 c) (l.take 4) wx (((B.out.take 4 (by have := HN.out; omega)).cap c (by simp; omega) (by omega) (fun h => by cases h)).ext hx) (by simp; omega))
    rw [hn] at C4
    clear hn
    go_enter Tryd.func36, Tryd.ntmps36
    go_wp2_with fail
    refine (C4.out _ (by exact (Ext.refl w).alloc _)).mono ?_
    rintro e w1 ⟨rfl, rfl⟩
    have E1 := Lib.hid ((Ext.refl w).alloc (Obj.cells #[Value.int IntKind.i64 0, Value.int IntKind.i64 0, Value.slice none 0 0] 46))
    have hn64 : (n : Int) < 4294967296 := by omega
    by_cases hw : 1048576 < n ∨ N < n + 17
    · have hd : D = none := by rw [← HD.out]; exact one_wide (by rw [HN.out]; exact h13) HNN.out (by rw [HN.out]; exact hw)
      subst hd
      by_cases hbig : 1048576 < n
      · have hbig' : (1048576 : Int) < (n : Int) := by omega
        go_wp2
        exact bodyPost_ret (v := .tuple #[.agg #[.int .i64 0, .int .i64 0, .slice none 0 0], .bool false]) (by simp [results, Tryd.results36, go_sem]) rfl ⟨rfl, E1.out⟩
      · have hbig' : ¬ (1048576 : Int) < (n : Int) := by omega
        have hsz : (N : Int) < (n : Int) + 17 := by omega
        go_wp2_with fail
        refine (size_any (n : Int) _ (by omega) (by omega)).mono ?_
        rintro e w2 ⟨rfl, rfl⟩
        go_wp2
        exact bodyPost_ret (v := .tuple #[.agg #[.int .i64 0, .int .i64 0, .slice none 0 0], .bool false]) (by simp [results, Tryd.results36, go_sem]) rfl ⟨rfl, E1.out⟩
    · have hbig' : (n : Int) ≤ 1048576 := by omega
      have hsz : (n : Int) + 17 ≤ (N : Int) := by omega
      obtain ⟨s, hs⟩ : ∃ s, beV ((l.drop (13 + n)).take 4) = s := ⟨_, rfl⟩
      obtain ⟨cc, hcc⟩ : ∃ cc, 4294967295 - crc 4294967295 (l.take (13 + n)) = cc := ⟨_, rfl⟩
      have hs32 : (s : Int) < 4294967296 := by
        have h := beV_lt ((l.drop (13 + n)).take 4) (fun i => by
          rw [List.getD_eq_getElem?_getD, List.getElem?_take]
          split
          · rw [List.getElem?_drop, ← List.getD_eq_getElem?_getD]; exact H5.out _
          · decide) 4 (by simp; have := HN.out; omega)
        rw [List.take_take, Nat.min_self, hs] at h
        have : (256 : Nat) ^ 4 = 4294967296 := by decide
        omega
      have hcc32 : (cc : Int) < 4294967296 := by omega
      have HDD := Lib.hid (one_sum (by rw [HN.out]; exact h13) HNN.out (by rw [HN.out]; exact hw) hs hcc)
      have CL := Lib.hid (fun (wx : World) (hx : Ext w wx) => low_ext (.slice (some ⟨b, off + (13 + n), none⟩) (n + 17 - (13 + n)) (c - (13 + n))) ((l.drop (13 + n)).take 4) wx (by rw [show n + 17 - (13 + n) = 4 by omega]; exact (B.out.sub (13 + n) 4 (by have := HN.out; omega)).ext hx) (by simp; omega))
      have CS := Lib.hid (fun (wx : World) (hx : Ext w wx) => sum_any (.slice (some ⟨b, off, none⟩) (13 + n) c) (l.take (13 + n)) wx (((B.out.take (13 + n) (by have := HN.out; omega)).cap c (by simp; omega) (by omega) (fun h => by cases h)).ext hx) (T.out.ext hx))
      rw [hs] at CL
      rw [hcc] at CS
      have hnc : n + 17 ≤ c := by omega
      have HFF := Lib.hid (And.intro h13 (And.intro hs32 (And.intro hcc32 hnc)))
      clear hs hcc hw h13 h13' hs32 hcc32 hnc hn64 hn32
      go_wp2_with fail
      refine (size_any (n : Int) _ (by omega) (by omega)).mono ?_
      rintro e w2 ⟨rfl, rfl⟩
      have f1 : (13 : Int) + (n : Int) ≤ (n : Int) + 17 := by omega
      have f2 : (n : Int) + 17 ≤ (c : Int) := by omega
      have f3 : ¬ (c - (13 + n) = 0) := by omega
      have f4 : (0 : Int) ≤ 13 + (n : Int) := by omega
      have f7 : (13 : Int) + (n : Int) ≤ (c : Int) := by omega
      have HN2 := Lib.hid (show (0 : Int) ≤ (n : Int) ∧ (n : Int) ≤ 4294967296 by omega)
      go_wp2_with fail
      refine region_quiet (by kernel_rfl) (by kernel_rfl) ?_
      iterate 4 (go_big_quiet_step (fail))
      go_big_quiet_step (exact calls_ext (size_ext (n : Int) _ HN2.out.1 HN2.out.2))
      go_big_quiet_step (fail)
      go_big_quiet_step (exact calls_ext (CL.out _ (E1.out.ext _)))
      iterate 4 (go_big_quiet_step (fail))
      go_big_quiet_step (exact calls_ext (CS.out _ (E1.out.ext _)))
      iterate 2 (go_big_quiet_step (fail))
      refine wpQuiet_nil ?_
      rintro _ ⟨g, rfl⟩
      have E2 := Lib.hid (E1.out.ext g)
      by_cases hsc : s = cc
      · subst hsc
        rw [if_neg (by simp)] at HDD
        have f9 : IntKind.u64.wrap (s : Int) = (s : Int) := by have := HFF.out; rw [IntKind.wrap_u64]; omega
        go_wp2_with fail
        clear f9
        obtain ⟨L8, hL8⟩ : ∃ L8, beV ((l.drop 4).take 8) = L8 := ⟨_, rfl⟩
        obtain ⟨k, hk⟩ : ∃ k, l.getD 12 0 = k := ⟨_, rfl⟩
        rw [hk] at hk12
        have hk255 : (k : Int) ≤ 255 := by have := H5.out 12; omega
        have hL64 : (L8 : Int) < 18446744073709551616 := by
          have h := beV_lt ((l.drop 4).take 8) (fun i => by
            rw [List.getD_eq_getElem?_getD, List.getElem?_take]
            split
            · rw [List.getElem?_drop, ← List.getD_eq_getElem?_getD]; exact H5.out _
            · decide) 8 (by simp; have := HN.out; have := HFF.out.1; omega)
          rw [List.take_take, Nat.min_self, hL8] at h
          have : (256 : Nat) ^ 8 = 18446744073709551616 := by decide
          omega
        have C8 := Lib.hid (fun (wx : World) (hx : Ext w wx) => low_any (.slice (some ⟨b, off + 4, none⟩) 8 (c - 4)) ((l.drop 4).take 8) wx ((B.out.sub 4 8 (by have := HN.out; omega)).ext hx) (by simp; omega))
        rw [hL8] at C8
        have CC := Lib.hid (fun (wx : World) (hx : Ext w wx) => clone_any (.slice (some ⟨b, off + 13, none⟩) (13 + n - 13) (c - 13)) ((l.drop 13).take n) wx (by rw [show 13 + n - 13 = n by omega]; exact (B.out.sub 13 n (by have := HN.out; omega)).ext hx) (by simp; omega))
        have hcell : ((w.alloc (Obj.cells #[Value.int IntKind.i64 0, Value.int IntKind.i64 0, Value.slice none 0 0] 46)).ext g).cell? ⟨b, off + 12, none⟩ = some (.int .u8 (k : Int)) := (E2.out.cell hbs).trans hk12
        have hbw : ¬ b = w.heap.size := by omega
        have hbw2 : b < w.heap.size := hbs
        have HDE := Lib.hid (show D = some (L8, k, (l.drop 13).take n) by rw [← HD.out, HDD.out, hL8, hk])
        have g1 : (13 : Int) ≤ 13 + (n : Int) := by omega
        have g2 : (17 : Int) ≤ (c : Int) := by omega
        have g3 : ¬ (c = 13) := by omega
        have g4 : ¬ (c = 4) := by omega
        have f8 : IntKind.i64.wrap (13 + (n : Int)) = 13 + (n : Int) := by rw [IntKind.wrap_i64]; omega
        have g6 : (12 : Int) < (N : Int) := by omega
        have g7 : (12 : Int) ≤ (c : Int) := by omega
        have g8 : (13 : Int) + (n : Int) ≤ (c : Int) := by omega
        clear hL8 hk hcells f1 f2 f3 f4 f7 hbig' hsz g2 c2 hl
        go_region_held3 (fun w' => w'.cell? ⟨b, off + 12, none⟩ = some (.int .u8 (k : Int))) (first | exact (Ext.cell (w := w) (by ((repeat (first | exact E2.out | exact Ext.refl _ | apply Ext.alloc | apply Ext.drew' | apply Ext.drewN | apply Ext.ext)))) hbs).trans hk12 | go_keep)
          (first | (go_at_call 37; refine (C8.out _ (by ((repeat (first | exact E2.out | exact Ext.refl _ | apply Ext.alloc | apply Ext.drew' | apply Ext.drewN | apply Ext.ext))))).mono ?_; rintro e w2 ⟨rfl, rfl⟩) | (go_at_call 29; refine (CC.out _ (by ((repeat (first | exact E2.out | exact Ext.refl _ | apply Ext.alloc | apply Ext.drew' | apply Ext.drewN | apply Ext.ext))))).mono ?_; rintro e w2 ⟨A, n', cap, rfl, hO, g5, rfl⟩))
        all_goals
          go_wp2_with fail
          have hkw : IntKind.i64.wrap (k : Int) = (k : Int) := by rw [IntKind.wrap_i64]; omega
          rw [HDE.out]
          rw [hkw]
          refine bodyPost_ret (v := .tuple #[.agg #[.int .i64 (IntKind.i64.wrap L8), .int .i64 k, .slice A n' cap], .bool true]) (by simp [results, Tryd.results36, go_sem]) rfl ⟨A, n', cap, rfl, ?_, ?_⟩
          · exact (hO.mono (by simp [go_sem])).keep (keep_swap _ _ _ _ _) (fun k hk e => by have := (hO.2.1.lt k hk).1; simp [go_sem] at this; omega)
          · (repeat (first | exact Ext.refl _ | apply Ext.alloc | apply Ext.drew' | apply Ext.drewN | apply Ext.ext))
      · have hsc' : ¬ (s : Int) = (cc : Int) := by omega
        have hd : D = none := by rw [← HD.out, HDD.out, if_pos hsc]
        subst hd
        have f9 : IntKind.u64.wrap (cc : Int) = (cc : Int) := by have := HFF.out; rw [IntKind.wrap_u64]; omega
        go_wp2
        exact bodyPost_ret (v := .tuple #[.agg #[.int .i64 0, .int .i64 0, .slice none 0 0], .bool false]) (by simp [results, Tryd.results36, go_sem]) rfl ⟨rfl, E2.out⟩

end Go.Proofs.YtobnbdoehobigaaDoor
