import Derived.Test.YtbpdjekibcbaaaaSSync
import Derived.Deep.RegionLaw
namespace Go.Proofs.Ytbpdjekibcbaaaa
open Go.RowKit
set_option linter.unusedVariables false
set_option linter.unusedSimpArgs false

theorem infoInt : (Try.prog.info? 3).map (fun i => (i.zero, i.size, i.bytes)) = some (some (.int .i64 0), 1, 8) := by kernel_rfl

theorem zeros_int (n : Nat) : (madeCells #[.int .i64 0] n).toList = (List.replicate n 0).map natV := by
  apply List.ext_getElem?
  intro i
  simp only [madeCells, Array.toList_map, List.getElem?_map, List.getElem?_replicate]
  by_cases h : i < n
  · simp [h, Nat.mod_one, natV]
  · simp [h]

theorem zeros_u8 (n : Nat) (hn : n ≤ 100000) (wx : World) : (Instr.makeSlice 24 (.int .i64 (n : Int)) (.int .i64 (n : Int))).run Try.prog wx = .ok (.slice (some ⟨wx.heap.size, 0, none⟩) n n) (wx.alloc (.cells (madeCells #[.int .u8 0] n) 5)) := by
  obtain ⟨i0, hi, hz0, hz1, hz2⟩ := info_parts infoU8
  have := run_makeSlice (P := Try.prog) wx 24 5 i0 _ Try.underlying24 hi hz0 .i64 .i64 (n : Int) (n : Int) (by omega) (by omega) (by simp [hz1]; omega) (by rw [hz2]; omega) (by omega)
  rw [hz1, Nat.mul_one] at this
  exact this
theorem zeros_i64 (n : Nat) (hn : n ≤ 100000) (wx : World) : (Instr.makeSlice 64 (.int .i64 (n : Int)) (.int .i64 (n : Int))).run Try.prog wx = .ok (.slice (some ⟨wx.heap.size, 0, none⟩) n n) (wx.alloc (.cells (madeCells #[.int .i64 0] n) 3)) := by
  obtain ⟨i0, hi, hz0, hz1, hz2⟩ := info_parts infoInt
  have := run_makeSlice (P := Try.prog) wx 64 3 i0 _ Try.underlying64 hi hz0 .i64 .i64 (n : Int) (n : Int) (by omega) (by omega) (by simp [hz1]; omega) (by rw [hz2]; omega) (by omega)
  rw [hz1, Nat.mul_one] at this
  exact this

def DS.new (secs : List Sec) (n size : Nat) : DS := { safe := secs, size := size, wait := [], reads := List.replicate n 0, left := -1, done := 0, down := false }

/-- a sector is put behind the others -/
theorem row_mem {base : Nat} {D : Nat} {SA : Option Addr} {sc : Nat} {WA : Option Addr} {wc : Nat} {RA : Option Addr} {rc : Nat} {S : DS} {w wa w9 : World} {x : Sec} {A9 : Option Addr} {c9 : Nat}
    (h : DiskAt base w D SA sc WA wc RA rc S) (he : Ext w wa) (hx : SecOk base wa x) (hg : wa.grownBy w9 (Value.ownBlock (.slice SA S.safe.length sc))) (hO : w9.ownsRow base 24 1 (.slice A9 (S.safe.length + 1) c9) (S.safe.length + 1) (S.safe.map secV ++ [secV x])) :
    w9.cell? ⟨D, 0, none⟩ = some (.slice SA S.safe.length sc) ∧ w9.frozen? ⟨D, 0, none⟩ = false ∧
      DiskAt base (w9.setCell ⟨D, 0, none⟩ (.slice A9 (S.safe.length + 1) c9)) D A9 c9 WA wc RA rc { S with safe := S.safe ++ [x] } ∧ Keep w (w9.setCell ⟨D, 0, none⟩ (.slice A9 (S.safe.length + 1) c9)) (Tch base w) := by
  have ha := h.ext he
  have K := Keep.grown hg
  have hnD : ¬ Value.ownBlock (.slice SA S.safe.length sc) = some D := fun e => by
    obtain ⟨c, hc⟩ := row_type ha.rows e
    exact absurd (type_ne hc ha.blk) (by decide)
  have hb9 : w9.heap[D]? = some (.cells (fields SA sc WA wc RA rc S) 67 (0, 0)) := by rw [K.block D ha.lt hnD]; exact ha.blk
  have KT : Keep wa w9 (Tch base wa) := Keep.ofGrown ha.rows (.inr (.inl rfl)) hg
  obtain ⟨P, KP⟩ := disk_put (w := w9) hb9 h.lo 0 (.slice A9 (S.safe.length + 1) c9) { S with safe := S.safe ++ [x] } A9 c9 WA wc RA rc (by simp [fields])
    (by simpa using hO) (row_keep ha.waits K (rows_apart ha.waits ha.rows (by decide))) (row_keep ha.rds K (rows_apart ha.rds ha.rows (by decide)))
    (fun y hy => by
      simp only [List.mem_append, List.mem_singleton] at hy
      rcases hy with hy | rfl
      · exact Own.keep (ha.oks y hy) K (rows_apart (ha.oks y hy).2.1 ha.rows (by decide))
      · exact Own.keep hx K (rows_apart hx.2.1 ha.rows (by decide)))
    (fun y hy => Own.keep (ha.okw y hy) K (rows_apart (ha.okw y hy).2.1 ha.rows (by decide)))
  exact ⟨by rw [cell_of_row w9 D 0 _ _ (0, 0) hb9]; rfl, by simp [World.frozen?, hb9], P, (Keep.ofExt he (Tch base w)).tch (KT.tch KP)⟩

set_option maxRecDepth 100000 in
set_option maxHeartbeats 12800000 in
theorem new_any (n size : Nat) (w : World) (hn : 1 ≤ n ∧ n ≤ 4096) (hs : 16 ≤ size ∧ size ≤ 512) :
    Calls Try.prog 11 #[.int .i64 (n : Int), .int .i64 (size : Int)] w fun e w' => ∃ D, e = .returned (.pointer (some ⟨D, 0, none⟩)) ∧ (∃ SA sc RA rc secs, DiskAt w.heap.size w' D SA sc none 0 RA rc (DS.new secs n size) ∧ secs.map (·.2.2) = List.replicate n (List.replicate size 0)) ∧ Ext w w' := by
  have MB := zeros_u8 size (by omega)
  have MI := zeros_i64 n (by omega)
  have hn1 : ¬ (n : Int) < 1 := by omega
  have hn2 : ¬ (4096 : Int) < (n : Int) := by omega
  have hs1 : ¬ (size : Int) < 16 := by omega
  have hs2 : decide ((512 : Int) < (size : Int)) = false := by simp; omega
  go_enter Try.func11, Try.ntmps11
  go_wp2
  obtain ⟨wq, hwq⟩ : ∃ wq, (w.alloc (.cells (madeCells #[.int .i64 0] n) 3)).alloc (.cells #[.slice none 0 0, .int .i64 (size : Int), .slice none 0 0, .slice (some ⟨w.heap.size, 0, none⟩) n n, .int .i64 (-1), .int .i64 0, .bool false] 67) = wq := ⟨_, rfl⟩
  obtain ⟨q, hq⟩ : ∃ q, w.heap.size = q := ⟨_, rfl⟩
  have EQ : Hid (Ext w wq) := Lib.hid (by rw [← hwq]; exact ((Ext.refl w).alloc _).alloc _)
  have hD0 : DiskAt q wq (q + 1) none 0 none 0 (some ⟨q, 0, none⟩) n (DS.new [] n size) := by
    refine ⟨?_, by omega, World.ownsRow_nil wq q 24 1, World.ownsRow_nil wq q 79 2, ?_, fun x hx => by simp [DS.new] at hx, fun x hx => by simp [DS.new] at hx⟩
    · rw [← hwq, ← hq]
      have h := heap_alloc_new (w.alloc (.cells (madeCells #[.int .i64 0] n) 3)) (.cells #[.slice none 0 0, .int .i64 (size : Int), .slice none 0 0, .slice (some ⟨w.heap.size, 0, none⟩) n n, .int .i64 (-1), .int .i64 0, .bool false] 67)
      rw [World.size_alloc] at h
      rw [h]
      simp [fields, DS.new]
    · have h := World.ownsRow_lit (base := q) (e := 3) (size := 1) w (madeCells #[.int .i64 0] n) n (by omega) (by unfold maxLen; omega) (by rw [size_madeCells]; omega)
      rw [zeros_int] at h
      rw [← hwq]
      have h2 := row_ext h ((Ext.refl _).alloc (.cells #[.slice none 0 0, .int .i64 (size : Int), .slice none 0 0, .slice (some ⟨w.heap.size, 0, none⟩) n n, .int .i64 (-1), .int .i64 0, .bool false] 67))
      simp only [DS.new, List.length_replicate]
      rw [hq] at h2
      rw [hq]
      exact h2
  have HD0 := Lib.hid hD0
  rw [hwq, hq]
  have HQ := Lib.hid hq
  obtain ⟨i0, hi0, hz0, hz1, hz2⟩ := info_parts infoRow
  have IW := Lib.hid (And.intro hi0 (And.intro hz0 (And.intro hz1 hz2)))
  clear hwq hD0 hi0 hz0 hz1 hz2
  go_loopw [26] (fun t26 wr => ∃ (k : Nat) (SA : Option Addr) (sc : Nat) (secs : List Sec), k ≤ n ∧ t26 = .int .i64 (k : Int) ∧ Hid (DiskAt q wr (q + 1) SA sc none 0 (some ⟨q, 0, none⟩) n (DS.new secs n size) ∧ secs.map (·.2.2) = List.replicate k (List.replicate size 0) ∧ Ext w wr)) (fun t26 _ => n - (intOf t26).toNat)
  case atStart => exact ⟨0, none, 0, [], by omega, rfl, Lib.hid ⟨HD0.out, rfl, EQ.out⟩⟩
  case round =>
    obtain ⟨k, SA, sc, secs, hk, rfl, ST⟩ := hrel
    have hsl : secs.length = k := by
      have := congrArg List.length ST.out.2.1
      simpa using this
    have HSL := Lib.hid hsl
    by_cases hlt : k < n
    · have hlt' : (k : Int) < (n : Int) := by omega
      have c0 := ST.out.1.cell 0
      have cf := ST.out.1.frozen 0
      have hDl := ST.out.1.lt
      have c1 : ∀ o, (wr.alloc o).cell? ⟨q + 1, 0, none⟩ = some (.slice SA k sc) := fun o => by have := (ST.out.1.ext ((Ext.refl wr).alloc o)).cell 0; simp only [fields, DS.new, List.getElem?_toArray, List.getElem?_cons_zero, List.getElem?_cons_succ] at this; rw [hsl] at this; exact this
      have c2 : ∀ o o', ((wr.alloc o).alloc o').cell? ⟨q + 1, 0, none⟩ = some (.slice SA k sc) := fun o o' => by have := (ST.out.1.ext (((Ext.refl wr).alloc o).alloc o')).cell 0; simp only [fields, DS.new, List.getElem?_toArray, List.getElem?_cons_zero, List.getElem?_cons_succ] at this; rw [hsl] at this; exact this
      simp only [fields, DS.new, List.getElem?_toArray, List.getElem?_cons_zero, List.getElem?_cons_succ] at c0
      rw [hsl] at c0
      have hqb : q ≤ wr.heap.size := by have := ST.out.2.2.size; omega
      have SR : Hid (wr.ownsRow q 24 1 (.slice SA k sc) k (secs.map secV)) := Lib.hid (by have := ST.out.1.rows; simp only [DS.new, hsl] at this; exact this)
      have hEa : Ext wr ((wr.alloc (.cells (madeCells #[.int .u8 0] size) 5)).alloc (.cells #[.slice (some ⟨wr.heap.size, 0, none⟩) size size] 24)).drew := (((Ext.refl _).alloc _).alloc _).drew'
      have hOz : SecOk q ((wr.alloc (.cells (madeCells #[.int .u8 0] size) 5)).alloc (.cells #[.slice (some ⟨wr.heap.size, 0, none⟩) size size] 24)).drew (some ⟨wr.heap.size, 0, none⟩, size, List.replicate size 0) := by
        unfold SecOk
        simp only [List.length_replicate]
        exact Own.mono ((own_zeros wr size (by omega)).ext ((Ext.refl _).alloc _).drew') hqb
      have HEa := Lib.hid hEa
      have HOz := Lib.hid hOz
      clear hsl hEa hOz
      go_wp2
      go_region_law (
        (refine step_one (base := q) (S := 30) (T := 24) (i0 := i0) (z := .slice none 0 0) (sz := 1) (v := .slice SA k sc) (n := k) (g := wr.heap.size + 1) (c := 1) (xs := secs.map secV) (cs := [.slice (some ⟨wr.heap.size, 0, none⟩) size size]) Try.underlying30 IW.out.1 IW.out.2.1 IW.out.2.2.1 rfl (by decide) (by rw [IW.out.2.2.2]; decide) rfl _ _ rfl (by simp [Act.eval, Act.put]) (by simp [Act.eval, Act.put]) (row_ext SR.out (by (repeat (first | exact Ext.refl _ | apply Ext.drew' | apply Ext.alloc | apply Ext.ext)))) rfl
          (by intro j u hu; rcases j with _ | j <;> simp at hu <;> subst hu <;> simp [go_sem]) (by intro u hu; simp at hu; subst hu; rfl) (by omega) (by simp [go_sem]; omega) ?_
         intro v9 w9 hO9 hg9 _
         obtain ⟨A9, c9, rfl⟩ := own_slice hO9
         obtain ⟨k0, k1, HD9, HK9⟩ := row_mem (x := (some ⟨wr.heap.size, 0, none⟩, size, List.replicate size 0)) ST.out.1 HEa.out HOz.out (by simp only [DS.new, HSL.out]; exact hg9) (by simp only [DS.new, HSL.out]; simpa [secV] using hO9)
         simp only [DS.new, HSL.out] at k0 HD9 HK9
         have HD9 := Lib.hid HD9
         have HK9 := Lib.hid HK9))
      all_goals (
        obtain ⟨wn, hwn⟩ : ∃ wn, w9.setCell ⟨q + 1, 0, none⟩ (.slice A9 (k + 1) c9) = wn := ⟨_, rfl⟩
        rw [hwn] at HD9 HK9 ⊢
        have HN : Hid (DiskAt q wn (q + 1) A9 c9 none 0 (some ⟨q, 0, none⟩) n (DS.new (secs ++ [(some ⟨wr.heap.size, 0, none⟩, size, List.replicate size 0)]) n size) ∧ (secs ++ [((some ⟨wr.heap.size, 0, none⟩, size, List.replicate size 0) : Sec)]).map (·.2.2) = List.replicate (k + 1) (List.replicate size 0) ∧ Ext w wn) := Lib.hid ⟨HD9.out, by rw [List.map_append, ST.out.2.1, List.replicate_succ']; rfl, Keep.toExt ST.out.2.2 HK9.out (fun x hx => by rw [HQ.out]; exact hx.1)⟩
        clear HD9 HK9 hwn hO9 hg9 k0 k1 c0 c1 c2 cf
        go_wp2
        go_roundw
        case rel => exact ⟨k + 1, A9, c9, _, by omega, by go_num, HN⟩
        case measure => simp [intOf]; omega)
    · have hlt' : ¬ (k : Int) < (n : Int) := by omega
      have hkn : k = n := by omega
      have HX := Lib.hid ST.out
      rw [hkn] at HX
      clear ST hsl
      go_wp2
      go_ret
      exact ⟨q + 1, rfl, ⟨SA, sc, _, _, secs, HX.out.1, HX.out.2.1⟩, HX.out.2.2⟩

end Go.Proofs.Ytbpdjekibcbaaaa
