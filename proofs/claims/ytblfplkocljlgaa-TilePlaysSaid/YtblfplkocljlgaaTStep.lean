import Derived.Test.YtblfplkocljlgaaTPlay0
import Derived.Test.YtblfplkocljlgaaTDropsW
import Derived.Deep.RegionLaw
namespace Go.Proofs.Ytblfplkocljlgaa
open Go.RowKit Go.ChangeMaps
set_option linter.unusedVariables false
set_option linter.unusedSimpArgs false

theorem mem_take_succ (l : List KK) (k : KK) (i : Nat) (hi : i < l.length) : decide (k ∈ l.take (i + 1)) = (decide (k ∈ l.take i) || decide (l.getD i noK = k)) := by
  rw [take_succ_getD l i noK hi, ← Bool.decide_or, decide_eq_decide]
  simp only [List.mem_append, List.mem_singleton]
  constructor
  · rintro (h | h)
    · exact .inl h
    · exact .inr h.symm
  · rintro (h | h)
    · exact .inl h
    · exact .inr h.symm

theorem u8_zero (w : World) : (zeroValue 5).run Try.prog w = .ok (.int .u8 0) w := by kernel_rfl

/-- what is left behind a step -/
def SPost (w : World) (most cc FB n : Nat) (e : Ending) (w' : World) : Prop := ∃ (m : TM) (S : Nat → Prop) (A : Option Addr) (k c : Nat) (fl : List (KK × Value)), e = .returned (.tuple #[.slice A k c, .bool true]) ∧ PSt w w' most cc m S (.slice A k c) FB fl ∧ fl.length ≤ n

theorem row4 {w : World} {g n : Nat} {cur : Array Value} (h : w.heap[g]? = some (.cells cur 68 (0, 0))) (hn : n * 4 ≤ cur.size) {i : Nat} (hi : i < n) :
    ∃ a b c d, w.cell? ⟨g, i * 4, none⟩ = some a ∧ w.cell? ⟨g, i * 4 + 1, none⟩ = some b ∧ w.cell? ⟨g, i * 4 + 2, none⟩ = some c ∧ w.cell? ⟨g, i * 4 + 3, none⟩ = some d := by
  refine ⟨cur[i * 4], cur[i * 4 + 1], cur[i * 4 + 2], cur[i * 4 + 3], ?_, ?_, ?_, ?_⟩ <;> (rw [cell_of_row w g _ _ _ (0, 0) h]; exact Array.getElem?_eq_getElem (by omega))

theorem set4 {w : World} {g n : Nat} {cur : Array Value} (h : w.heap[g]? = some (.cells cur 68 (0, 0))) (hn : n * 4 ≤ cur.size) (i : Nat) (v : Value) :
    ∃ cur', (((((w.setCell ⟨g, i * 4, none⟩ v).setCell ⟨g, i * 4 + 1, none⟩ v).setCell ⟨g, i * 4 + 2, none⟩ v).setCell ⟨g, i * 4 + 3, none⟩ v)).heap[g]? = some (.cells cur' 68 (0, 0)) ∧ n * 4 ≤ cur'.size ∧
      Keep w ((((w.setCell ⟨g, i * 4, none⟩ v).setCell ⟨g, i * 4 + 1, none⟩ v).setCell ⟨g, i * 4 + 2, none⟩ v).setCell ⟨g, i * 4 + 3, none⟩ v) (fun b => b = g) := by
  have h1 := heap_setCell_same w g (i * 4) _ 68 v h
  have h2 := heap_setCell_same _ g (i * 4 + 1) _ 68 v h1
  have h3 := heap_setCell_same _ g (i * 4 + 2) _ 68 v h2
  have h4 := heap_setCell_same _ g (i * 4 + 3) _ 68 v h3
  exact ⟨_, h4, by simpa using hn, ((Keep.setCell.trans Keep.setCell (fun _ _ h => h)).trans Keep.setCell (fun _ _ h => h)).trans Keep.setCell (fun _ _ h => h)⟩

set_option maxRecDepth 100000 in
set_option maxHeartbeats 25600000 in
theorem step_any (w ws : World) (most cc : Nat) (m : TM) (S : Nat → Prop) (LA : Option Addr) (ln lc FB : Nat) (fl : List (KK × Value)) (kind x y : Int) (fill : Nat) (wide : Bool) (b0 b1 b2 b3 : Int)
    (h : PSt w ws most cc m S (.slice LA ln lc) FB fl) (hf : fl.length ≤ 100000) (ok : OpT.Ok ⟨kind, x, y, fill, wide, b0, b1, b2, b3⟩) :
    Calls Try.prog 27 #[.pointer (some ⟨cc, 0, none⟩), .slice LA ln lc, .map (some FB), .int .i64 (most : Int), .agg #[.int .i64 kind, .int .i64 x, .int .i64 y, .int .u8 (fill : Int), .bool wide, .int .i64 b0, .int .i64 b1, .int .i64 b2, .int .i64 b3]] ws (SPost w most cc FB (fl.length + 1)) := by
  have H := Lib.hid h
  have hln : ln = m.keys.length := h.sh.ls.len
  have hlm : m.l.length ≤ most ∧ most ≤ 4096 ∧ 1 ≤ most := by have := h.sh.ok.ln; have := h.sh.ok.mo; have := h.sh.mo; omega
  have HLN : Hid (m.keys.length = ln) := Lib.hid hln.symm
  have hln2 : ln ≤ 4096 := by rw [hln, keys_len]; omega
  have hok1 := ok.kind
  have IK := Lib.hid ok.key
  have hok3 := ok.fill
  have OKB := Lib.hid (And.intro ok.b0 (And.intro ok.b1 (And.intro ok.b2 ok.b3)))
  have CR := Lib.hid (fun wx => refK_any x y wx)
  simp only at hok1 hok3
  have HF := Lib.hid hf
  clear h hln ok hf
  go_enter Try.func27, Try.ntmps27
  go_wp2_with fail
  refine (CR.out _).mono ?_
  rintro e w1 ⟨rfl, g1, rfl⟩
  obtain ⟨wa, hwa⟩ : ∃ wa, ((ws.alloc (.cells #[.int .i64 kind, .int .i64 x, .int .i64 y, .int .u8 (fill : Int), .bool wide, .int .i64 b0, .int .i64 b1, .int .i64 b2, .int .i64 b3] 61)).ext g1).alloc (.cells #[.int .i64 x, .int .i64 y] 28) = wa := ⟨_, rfl⟩
  obtain ⟨p0, hp0⟩ : ∃ p, ws.heap.size = p := ⟨_, rfl⟩
  obtain ⟨p1, hp1⟩ : ∃ p, p0 + (1 + g1.blocks.size) = p := ⟨_, rfl⟩
  have EA : Hid (Ext ws wa) := Lib.hid (by rw [← hwa]; exact (((Ext.refl _).alloc _).ext g1).alloc _)
  have B0 : Hid (wa.heap[p0]? = some (.cells #[.int .i64 kind, .int .i64 x, .int .i64 y, .int .u8 (fill : Int), .bool wide, .int .i64 b0, .int .i64 b1, .int .i64 b2, .int .i64 b3] 61 (0, 0)) ∧ wa.heap[p1]? = some (.cells #[.int .i64 x, .int .i64 y] 28 (0, 0)) ∧ p0 < p1) := Lib.hid (by
    refine ⟨?_, ?_, by omega⟩
    · rw [← hwa, ← hp0]
      exact ((Ext.ext (Ext.refl _) g1).alloc _).heapAt (heap_alloc_new ws _)
    · rw [← hwa, ← hp1, ← hp0]
      have := heap_alloc_new ((ws.alloc (.cells #[.int .i64 kind, .int .i64 x, .int .i64 y, .int .u8 (fill : Int), .bool wide, .int .i64 b0, .int .i64 b1, .int .i64 b2, .int .i64 b3] 61)).ext g1) (.cells #[.int .i64 x, .int .i64 y] 28)
      simpa [Nat.add_assoc] using this)
  have HP0 := Lib.hid hp0
  have HWA := Lib.hid hwa
  have HP1 := Lib.hid hp1
  clear hwa hp0 hp1
  go_wp2_with (first | rw [HWA.out, HP0.out, HP1.out] | fail)
  go_loopw [13, 30] (fun t13 t30 ws' => ∃ i : Nat, i ≤ ln ∧ t30 = .int .i64 (i : Int) ∧ t13 = .bool (decide ((x, y) ∈ m.keys.take i)) ∧ Hid (Ext wa ws')) (fun _ t30 _ => ln - (intOf t30).toNat)
  case atStart => exact ⟨0, by omega, rfl, by simp, Lib.hid (Ext.refl wa)⟩
  case round =>
    obtain ⟨i, hi, rfl, rfl, E1⟩ := hrel
    have hb0 := E1.out.heapAt B0.out.1
    have hb1 := E1.out.heapAt B0.out.2.1
    have r0 : wr.cell? ⟨p1, 0, none⟩ = some (.int .i64 x) := by rw [cell_of_row _ _ _ _ _ (0, 0) hb1]; rfl
    have r1 : wr.cell? ⟨p1, 1, none⟩ = some (.int .i64 y) := by rw [cell_of_row _ _ _ _ _ (0, 0) hb1]; rfl
    have hp1l : p1 < wr.heap.size := (Array.getElem?_eq_some_iff.1 hb1).1
    have hp0l : p0 < wr.heap.size := (Array.getElem?_eq_some_iff.1 hb0).1
    by_cases hlt : i < ln
    · have hlt' : (i : Int) < (ln : Int) := by omega
      have hlt' : (i : Int) < (ln : Int) := by omega
      obtain ⟨bk, off, u, v, rfl, hbs, hp, hin, c0, c1⟩ := (H.out.sh.ls.ext (EA.out.trans E1.out)).at hlt
      have MT := Lib.hid (mem_take_succ m.keys (x, y) i (by rw [HLN.out]; exact hlt))
      rw [hp] at MT
      clear hp hin hb0 hb1
      obtain ⟨hs, hhs⟩ : ∃ hs, decide ((x, y) ∈ m.keys.take i) = hs := ⟨_, rfl⟩
      rw [hhs] at MT ⊢
      clear hhs
      cases hs with
      | true =>
        go_wp2
        go_roundw
        case rel => exact ⟨i + 1, by omega, by go_num, by rw [MT.out]; rfl, Lib.hid (E1.out.alloc _)⟩
        case measure => simp [intOf]; omega
      | false =>
        by_cases hu : u = x
        · by_cases hv : v = y
          · subst hu hv
            go_wp2
            go_roundw
            case rel => exact ⟨i + 1, by omega, by go_num, by rw [MT.out]; simp, Lib.hid (E1.out.alloc _)⟩
            case measure => simp [intOf]; omega
          · have ne : decide ((u, v) = (x, y)) = false := by simp [hv]
            go_wp2
            go_roundw
            case rel => exact ⟨i + 1, by omega, by go_num, by rw [MT.out, ne]; rfl, Lib.hid (E1.out.alloc _)⟩
            case measure => simp [intOf]; omega
        · have ne : decide ((u, v) = (x, y)) = false := by simp [hu]
          go_wp2
          go_roundw
          case rel => exact ⟨i + 1, by omega, by go_num, by rw [MT.out, ne]; rfl, Lib.hid (E1.out.alloc _)⟩
          case measure => simp [intOf]; omega
    · have hlt' : ¬ (i : Int) < (ln : Int) := by omega
      obtain rfl : i = ln := by omega
      have etk : decide ((x, y) ∈ m.keys.take i) = decide ((x, y) ∈ m.keys) := by rw [← HLN.out, List.take_length]
      rw [etk]
      clear etk
      obtain ⟨has, hhas⟩ : ∃ hs, decide ((x, y) ∈ m.keys) = hs := ⟨_, rfl⟩
      rw [hhas]
      have HH := Lib.hid hhas
      have BX : Hid (wr.heap[p0]? = some (.cells #[.int .i64 kind, .int .i64 x, .int .i64 y, .int .u8 (fill : Int), .bool wide, .int .i64 b0, .int .i64 b1, .int .i64 b2, .int .i64 b3] 61 (0, 0)) ∧ wr.heap[p1]? = some (.cells #[.int .i64 x, .int .i64 y] 28 (0, 0))) := Lib.hid ⟨hb0, hb1⟩
      have SP := Lib.hid (H.out.grow (EA.out.trans E1.out))
      have o0 : wr.cell? ⟨p0, 0, none⟩ = some (.int .i64 kind) := by rw [cell_of_row _ _ _ _ _ (0, 0) hb0]; rfl
      have o1 : wr.cell? ⟨p0, 1, none⟩ = some (.int .i64 x) := by rw [cell_of_row _ _ _ _ _ (0, 0) hb0]; rfl
      have o2 : wr.cell? ⟨p0, 2, none⟩ = some (.int .i64 y) := by rw [cell_of_row _ _ _ _ _ (0, 0) hb0]; rfl
      have o3 : wr.cell? ⟨p0, 3, none⟩ = some (.int .u8 (fill : Int)) := by rw [cell_of_row _ _ _ _ _ (0, 0) hb0]; rfl
      have o4 : wr.cell? ⟨p0, 4, none⟩ = some (.bool wide) := by rw [cell_of_row _ _ _ _ _ (0, 0) hb0]; rfl
      have nS : Hid (¬ S p0 ∧ ¬ S p1) := Lib.hid ⟨fun e => by have := H.out.sh.tk.lt p0 e; have := HP0.out; omega, fun e => by have := H.out.sh.tk.lt p1 e; have := HP0.out; have := B0.out.2.2; omega⟩
      clear hb0 hb1 hhas
      by_cases k1 : kind = 1
      · subst k1
        have hkr : OpT.Ok ⟨1, x, y, fill, wide, b0, b1, b2, b3⟩ := ⟨by simp, IK.out, hok3, OKB.out.1, OKB.out.2.1, OKB.out.2.2.1, OKB.out.2.2.2⟩
        clear hkr
        have CRR := Lib.hid (fun wx => refRightK_any x y wx)
        go_wp2_with fail
        refine (plain_any fill wr hok3).mono ?_
        rintro e w5 ⟨PA, pc, rfl, hO, hE⟩
        obtain ⟨g0, cur, rfl, hgc, hcs, hgb, hgs⟩ := own_cells hO (by omega)
        obtain ⟨wb, hwb⟩ : ∃ wb, w5.alloc (.cells #[.int .i64 8, .int .i64 8, .slice (some ⟨g0, 0, none⟩) 64 pc] 47) = wb := ⟨_, rfl⟩
        obtain ⟨pm, hpm⟩ : ∃ pm, w5.heap.size = pm := ⟨_, rfl⟩
        have EB : Ext w5 wb := by rw [← hwb]; exact (Ext.refl _).alloc _
        have EWB : Hid (Ext wr wb) := Lib.hid (hE.trans EB)
        have OB := Lib.hid (hO.ext EB)
        have SB := Lib.hid (SP.out.grow EWB.out)
        have BB : Hid (wb.heap[p0]? = some (.cells #[.int .i64 1, .int .i64 x, .int .i64 y, .int .u8 (fill : Int), .bool wide, .int .i64 b0, .int .i64 b1, .int .i64 b2, .int .i64 b3] 61 (0, 0)) ∧ wb.heap[p1]? = some (.cells #[.int .i64 x, .int .i64 y] 28 (0, 0)) ∧ wb.heap[pm]? = some (.cells #[.int .i64 8, .int .i64 8, .slice (some ⟨g0, 0, none⟩) 64 pc] 47 (0, 0)) ∧ wr.heap.size ≤ pm) := Lib.hid
          ⟨EWB.out.heapAt BX.out.1, EWB.out.heapAt BX.out.2, by rw [← hwb, ← hpm]; exact heap_alloc_new _ _, by have := hE.size; omega⟩
        have GB : Hid (wb.heap[g0]? = some (.cells cur 68 (0, 0)) ∧ wr.heap.size ≤ g0 ∧ g0 < pm ∧ 64 * 4 ≤ cur.size) := Lib.hid ⟨EB.heapAt hgc, hgb, by omega, hcs⟩
        have HWB := Lib.hid hwb
        have HPM := Lib.hid hpm
        clear hO hE hgc hgb hcs hgs EB hwb hpm o0 o1 o2 o3 o4
        have o1 : wb.cell? ⟨p0, 1, none⟩ = some (.int .i64 x) := by rw [cell_of_row _ _ _ _ _ (0, 0) BB.out.1]; rfl
        have o2 : wb.cell? ⟨p0, 2, none⟩ = some (.int .i64 y) := by rw [cell_of_row _ _ _ _ _ (0, 0) BB.out.1]; rfl
        have o4 : wb.cell? ⟨p0, 4, none⟩ = some (.bool wide) := by rw [cell_of_row _ _ _ _ _ (0, 0) BB.out.1]; rfl
        have m0 : wb.cell? ⟨pm, 0, none⟩ = some (.int .i64 8) := by rw [cell_of_row _ _ _ _ _ (0, 0) BB.out.2.2.1]; rfl
        have m1 : wb.cell? ⟨pm, 1, none⟩ = some (.int .i64 8) := by rw [cell_of_row _ _ _ _ _ (0, 0) BB.out.2.2.1]; rfl
        have m2 : wb.cell? ⟨pm, 2, none⟩ = some (.slice (some ⟨g0, 0, none⟩) 64 pc) := by rw [cell_of_row _ _ _ _ _ (0, 0) BB.out.2.2.1]; rfl
        have hp0l : p0 < wb.heap.size := (Array.getElem?_eq_some_iff.1 BB.out.1).1
        have hpml : pm < wb.heap.size := (Array.getElem?_eq_some_iff.1 BB.out.2.2.1).1
        cases wide with
        | true =>
          have m2f : ∀ k, wb.frozen? ⟨pm, k, none⟩ = false := fun k => by simp [World.frozen?, BB.out.2.2.1]
          have PX8 : Hid (Pix .u8 wb (.slice (some ⟨g0, 0, none⟩) 8 pc) ((List.replicate 64 ((fill, 0, 0, 255) : Px)).take 8)) := Lib.hid (by
            obtain ⟨A', c', e, h1, h2, h3, h4, h5⟩ := OB.out.pix
            simp only [List.length_replicate, Value.slice.injEq] at e
            obtain ⟨rfl, -, rfl⟩ := e
            obtain ⟨b, off, e1, e2, e3⟩ := h5 (by simp)
            refine ⟨_, _, by simp, by simp at h1 ⊢; omega, h2, h3, fun i => ?_, fun _ => ⟨b, off, e1, e2, fun i hi j hj => ?_⟩⟩
            · rw [List.take_replicate]; exact okP_rep ⟨hok3, by simp, by simp, by simp⟩ _ _
            · rw [List.length_take, List.length_replicate] at hi
              rw [e3 i (by simp; omega) j hj, List.take_replicate]
              congr 2
              rw [List.getD_eq_getElem?_getD, List.getD_eq_getElem?_getD, List.getElem?_replicate, List.getElem?_replicate, if_pos (by omega), if_pos (by omega)])
          have hpc : 64 ≤ pc := by
            obtain ⟨A', c', e, h1, h2, _⟩ := OB.out.pix
            simp only [List.length_replicate, Value.slice.injEq] at e
            obtain ⟨-, -, rfl⟩ := e
            simpa using h1
          have hpc8 : (8 : Int) ≤ (pc : Int) := by omega
          have ZZ : Hid ((List.replicate 64 ((fill, 0, 0, 255) : Px)).length + ((List.replicate 64 ((fill, 0, 0, 255) : Px)).take 8).length ≤ 1000000) := Lib.hid (by simp)
          go_wp2_with (first | rw [HWB.out, HPM.out] | rw [HWB.out] | fail)
          go_region_law (
            refine step_pxs (base := wr.heap.size) (v := .slice (some ⟨g0, 0, none⟩) 64 pc) (x := .slice (some ⟨g0, 0, none⟩) 8 pc) (m := (List.replicate 64 ((fill, 0, 0, 255) : Px)).take 8) (l := List.replicate 64 ((fill, 0, 0, 255) : Px)) pxC rfl _ _ rfl (by simp [Act.eval, Act.put]) (by simp [Act.eval, Act.put]) (OB.out.ext (by (repeat (first | exact Ext.refl _ | apply Ext.drew' | apply Ext.alloc | apply Ext.ext)))) (PX8.out.ext (by (repeat (first | exact Ext.refl _ | apply Ext.drew' | apply Ext.alloc | apply Ext.ext)))) ZZ.out (by simp [go_sem]; have := EWB.out.size; omega) ?_
            intro v9 w9 hO9 hg9 hown9
            obtain ⟨A9, c9, rfl⟩ := own_slice hO9.1
            have K9 := Keep.grown hg9
            have hb9 : w9.heap[pm]? = some (.cells #[.int .i64 8, .int .i64 8, .slice (some ⟨g0, 0, none⟩) 64 pc] 47 (0, 0)) := by rw [K9.block pm (by simp [go_sem]; omega) (fun e => by simp only [Value.ownBlock, Option.some.injEq] at e; have := GB.out.2.2.1; omega)]; exact (Ext.drew' (Ext.refl wb)).heapAt BB.out.2.2.1
            have f9 : ∀ k, w9.frozen? ⟨pm, k, none⟩ = false := fun k => by simp [World.frozen?, hb9]
            have k0 : w9.cell? ⟨pm, 0, none⟩ = some (.int .i64 8) := by rw [cell_of_row _ _ _ _ _ (0, 0) hb9]; rfl
            have k1 : w9.cell? ⟨pm, 1, none⟩ = some (.int .i64 8) := by rw [cell_of_row _ _ _ _ _ (0, 0) hb9]; rfl
            have k2 : w9.cell? ⟨pm, 2, none⟩ = some (.slice (some ⟨g0, 0, none⟩) 64 pc) := by rw [cell_of_row _ _ _ _ _ (0, 0) hb9]; rfl
            have hpm9 : pm < w9.heap.size := (Array.getElem?_eq_some_iff.1 hb9).1)
          all_goals (
            have hl72 : (List.replicate 64 ((fill, 0, 0, 255) : Px) ++ (List.replicate 64 ((fill, 0, 0, 255) : Px)).take 8).length = 72 := by simp
            have hO9' := hO9
            rw [hl72] at hO9'
            obtain ⟨g, cur9, rfl, hgc, hcs, hgb, hgs⟩ := own_cells hO9' (by omega)
            obtain ⟨wq, hwq⟩ : ∃ wq, ((w9.setCell ⟨pm, 0, none⟩ (.int .i64 9)).setCell ⟨pm, 1, none⟩ (.int .i64 8)).setCell ⟨pm, 2, none⟩ (.slice (some ⟨g, 0, none⟩) 72 c9) = wq := ⟨_, rfl⟩
            have K5 : Keep w9 wq (fun b => b = pm) := by rw [← hwq]; exact (Keep.setCell.trans Keep.setCell (fun _ _ h => h)).trans Keep.setCell (fun _ _ h => h)
            have hbq : wq.heap[pm]? = some (.cells #[.int .i64 9, .int .i64 8, .slice (some ⟨g, 0, none⟩) 72 c9] 47 (0, 0)) := by
              have h1 := heap_setCell_same w9 pm 0 _ 47 (.int .i64 9) hb9
              have h2 := heap_setCell_same _ pm 1 _ 47 (.int .i64 8) h1
              have h3 := heap_setCell_same _ pm 2 _ 47 (.slice (some ⟨g, 0, none⟩) 72 c9) h2
              rw [← hwq]; exact h3
            have EX : Ext wb wb.drew := Ext.drew' (Ext.refl wb)
            have hgpm : g ≠ pm := by
              rcases hown9 with h1 | h1
              · simp only [Value.ownBlock, Option.some.injEq] at h1
                have := GB.out.2.2.1; omega
              · simp [Value.ownBlock, go_sem] at h1
                omega
            have K9' : Keep wb w9 (fun b => b = g0) := (Keep.ofExt (by (repeat (first | exact Ext.refl _ | apply Ext.drew' | apply Ext.alloc | apply Ext.ext))) (fun b => b = g0)).trans (K9.mono (fun b e => by simp only [Value.ownBlock, Option.some.injEq] at e; exact e.symm)) (fun _ _ h => h)
            have big : ∀ g', wr.heap.size ≤ g' → w.heap.size ≤ g' ∧ ¬ S g' ∧ g' ≠ FB ∧ (Value.slice LA i lc).ownBlock ≠ some g' := fun g' hg' => ⟨Nat.le_trans SP.out.sh.ext.size hg', fun e => by have := SP.out.sh.tk.lt g' e; omega, fun e => by have := SP.out.sh.mp.lt; omega, fun e => by have := (SP.out.sh.lb g' e).2.2; omega⟩
            have SW : Hid (PSt w wq most cc m S (.slice LA i lc) FB fl) := Lib.hid
              ⟨((SB.out.sh.own K9' (big g0 GB.out.2.1).1 (big g0 GB.out.2.1).2.1 (big g0 GB.out.2.1).2.2.1 (big g0 GB.out.2.1).2.2.2).own K5 (big pm BB.out.2.2.2).1 (big pm BB.out.2.2.2).2.1 (big pm BB.out.2.2.2).2.2.1 (big pm BB.out.2.2.2).2.2.2), SB.out.fill⟩
            have hp0w' : p0 < wr.heap.size := (Array.getElem?_eq_some_iff.1 BX.out.1).1
            have hp1w' : p1 < wr.heap.size := (Array.getElem?_eq_some_iff.1 BX.out.2).1
            have GQ : Hid ((∃ cur, wq.heap[g]? = some (.cells cur 68 (0, 0)) ∧ 72 * 4 ≤ cur.size) ∧ wr.heap.size ≤ g ∧ g < wq.heap.size) := Lib.hid ⟨⟨cur9, by rw [K5.block g hgs hgpm]; exact hgc, hcs⟩, hgb, Nat.lt_of_lt_of_le hgs K5.size⟩
            have hkeep : ∀ b, b < wr.heap.size → wq.heap[b]? = wb.heap[b]? := fun b hb => by
              have h1 := EWB.out.size
              rw [K5.block b (by have := K9'.size; omega) (by have := BB.out.2.2.2; omega), K9'.block b (by omega) (by have := GB.out.2.1; omega)]
            have BQ : Hid (wq.heap[p0]? = some (.cells #[.int .i64 1, .int .i64 x, .int .i64 y, .int .u8 (fill : Int), .bool true, .int .i64 b0, .int .i64 b1, .int .i64 b2, .int .i64 b3] 61 (0, 0)) ∧ wq.heap[p1]? = some (.cells #[.int .i64 x, .int .i64 y] 28 (0, 0)) ∧ wq.heap[pm]? = some (.cells #[.int .i64 9, .int .i64 8, .slice (some ⟨g, 0, none⟩) 72 c9] 47 (0, 0)) ∧ pm ≠ g) := Lib.hid ⟨by rw [hkeep p0 hp0w']; exact BB.out.1, by rw [hkeep p1 hp1w']; exact BB.out.2.1, hbq, fun e => hgpm e.symm⟩
            have PXW : Pix .u8 wq (.slice (some ⟨g, 0, none⟩) 72 c9) (List.replicate 64 ((fill, 0, 0, 255) : Px) ++ (List.replicate 64 ((fill, 0, 0, 255) : Px)).take 8) := (OwnP.keep hO9' K5 (fun b e1 e2 => by simp only [Value.ownBlock, Option.some.injEq] at e1; omega)).pix
            have PT := put_no cc m S (x, y) 9 8 (.slice (some ⟨g, 0, none⟩) 72 c9) _ wq SW.out.sh.tk PXW (by omega) (by omega) (by unfold putOk; simp)
            have G := Lib.hid PT
            have o1' : wq.cell? ⟨p0, 1, none⟩ = some (.int .i64 x) := by rw [cell_of_row _ _ _ _ _ (0, 0) BQ.out.1]; rfl
            have o2' : wq.cell? ⟨p0, 2, none⟩ = some (.int .i64 y) := by rw [cell_of_row _ _ _ _ _ (0, 0) BQ.out.1]; rfl
            have m0' : wq.cell? ⟨pm, 0, none⟩ = some (.int .i64 9) := by rw [cell_of_row _ _ _ _ _ (0, 0) BQ.out.2.2.1]; rfl
            have m1' : wq.cell? ⟨pm, 1, none⟩ = some (.int .i64 8) := by rw [cell_of_row _ _ _ _ _ (0, 0) BQ.out.2.2.1]; rfl
            have m2' : wq.cell? ⟨pm, 2, none⟩ = some (.slice (some ⟨g, 0, none⟩) 72 c9) := by rw [cell_of_row _ _ _ _ _ (0, 0) BQ.out.2.2.1]; rfl
            have o3' : p0 < wq.heap.size := (Array.getElem?_eq_some_iff.1 BQ.out.1).1
            have o4' : pm < wq.heap.size := (Array.getElem?_eq_some_iff.1 BQ.out.2.2.1).1
            rw [hwq]
            clear PT PXW hwq K5 K9 K9' hkeep big hb9 hbq f9 k0 k1 k2 hpm9 hO9 hO9' hg9 hown9 hl72 hgc hcs hgb hgs EX hgpm hp0w' hp1w' o1 o2 o4 m0 m1 m2 m2f hp0l hpml PX8 hpc8
            go_wp2_with fail
            refine G.out.mono ?_
            rintro e wz ⟨rfl, S6, hT6, hS6, hK6⟩
            have gq : wr.heap.size ≤ g ∧ g < wq.heap.size := GQ.out.2
            have nS6 : ∀ b, wr.heap.size ≤ b → b < wq.heap.size → ¬ S6 b := fun b h1 h2 e => by
              rcases hS6 b e with h3 | h3
              · have := SP.out.sh.tk.lt b h3; omega
              · omega
            have nSo : ∀ b, wr.heap.size ≤ b → ¬ S b := fun b h1 e => by have := SP.out.sh.tk.lt b e; omega
            have hp0w : p0 < wr.heap.size := (Array.getElem?_eq_some_iff.1 BX.out.1).1
            have hp1w : p1 < wr.heap.size := (Array.getElem?_eq_some_iff.1 BX.out.2).1
            have SQ := Lib.hid (SW.out.sh.turn hT6 H.out.sh.ok H.out.sh.mo hS6 hK6)
            have GR : Hid (∃ cur, wz.heap[g]? = some (.cells cur 68 (0, 0)) ∧ 72 * 4 ≤ cur.size) := Lib.hid (by
              obtain ⟨cur, h1, h2⟩ := GQ.out.1
              exact ⟨cur, by rw [hK6.block g gq.2 (nSo g gq.1)]; exact h1, h2⟩)
            have BM : Hid (wz.heap[pm]? = some (.cells #[.int .i64 9, .int .i64 8, .slice (some ⟨g, 0, none⟩) 72 c9] 47 (0, 0)) ∧ pm ≠ g) := Lib.hid ⟨by rw [hK6.block pm (Array.getElem?_eq_some_iff.1 BQ.out.2.2.1).1 (nSo pm BB.out.2.2.2)]; exact BQ.out.2.2.1, BQ.out.2.2.2⟩
            have BZ : Hid (wz.heap[p0]? = some (.cells #[.int .i64 1, .int .i64 x, .int .i64 y, .int .u8 (fill : Int), .bool true, .int .i64 b0, .int .i64 b1, .int .i64 b2, .int .i64 b3] 61 (0, 0)) ∧ wz.heap[p1]? = some (.cells #[.int .i64 x, .int .i64 y] 28 (0, 0)) ∧ p0 ≠ g ∧ p1 ≠ g) := Lib.hid
              ⟨by rw [hK6.block p0 (Array.getElem?_eq_some_iff.1 BQ.out.1).1 (fun e => nS.out.1 e)]; exact BQ.out.1, by rw [hK6.block p1 (Array.getElem?_eq_some_iff.1 BQ.out.2.1).1 (fun e => nS.out.2 e)]; exact BQ.out.2.1, by omega, by omega⟩
            have GG : Hid (w.heap.size ≤ g ∧ ¬ S6 g ∧ g ≠ FB ∧ (Value.slice LA i lc).ownBlock ≠ some g) := Lib.hid ⟨Nat.le_trans SP.out.sh.ext.size gq.1, nS6 g gq.1 gq.2, fun e => by have := SP.out.sh.mp.lt; omega, fun e => by have := (SP.out.sh.lb g e).2.2; omega⟩
            have z2 : wz.cell? ⟨pm, 2, none⟩ = some (.slice (some ⟨g, 0, none⟩) 72 c9) := by rw [cell_of_row _ _ _ _ _ (0, 0) BM.out.1]; rfl
            have zl : pm < wz.heap.size := (Array.getElem?_eq_some_iff.1 BM.out.1).1
            clear hT6 hS6 hK6 nS6 nSo gq hp0w hp1w
            go_wp2
            go_loopw [65] (fun t65 wr => ∃ j : Nat, j ≤ 72 ∧ t65 = .int .i64 (j : Int) ∧ Hid (Keep wz wr (fun b => b = g) ∧ ∃ cur, wr.heap[g]? = some (.cells cur 68 (0, 0)) ∧ 72 * 4 ≤ cur.size)) (fun t65 _ => 72 - (intOf t65).toNat)
            case atStart => exact ⟨0, by omega, rfl, Lib.hid ⟨Keep.refl _ _, GR.out⟩⟩
            case round =>
              obtain ⟨j, hj, rfl, ZI⟩ := hrel
              have hbm : wr.heap[pm]? = some (.cells #[.int .i64 9, .int .i64 8, .slice (some ⟨g, 0, none⟩) 72 c9] 47 (0, 0)) := by rw [ZI.out.1.block pm (Array.getElem?_eq_some_iff.1 BM.out.1).1 BM.out.2]; exact BM.out.1
              have v2 : wr.cell? ⟨pm, 2, none⟩ = some (.slice (some ⟨g, 0, none⟩) 72 c9) := by rw [cell_of_row _ _ _ _ _ (0, 0) hbm]; rfl
              have hpml : pm < wr.heap.size := (Array.getElem?_eq_some_iff.1 hbm).1
              obtain ⟨cur, hcur, hcs⟩ := ZI.out.2
              have hgl : g < wr.heap.size := (Array.getElem?_eq_some_iff.1 hcur).1
              by_cases hjl : j < 72
              · have hjl' : (j : Int) < 72 := by omega
                obtain ⟨q0, q1, q2, q3, e0, e1, e2, e3⟩ := row4 hcur hcs hjl
                obtain ⟨cur', hcur', hcs', hK'⟩ := set4 hcur hcs j (.int .u8 0)
                have fz : ∀ k, wr.frozen? ⟨g, k, none⟩ = false := fun k => by simp [World.frozen?, hcur]
                have ZN : Hid (Keep wz ((((wr.setCell ⟨g, j * 4, none⟩ (.int .u8 0)).setCell ⟨g, j * 4 + 1, none⟩ (.int .u8 0)).setCell ⟨g, j * 4 + 2, none⟩ (.int .u8 0)).setCell ⟨g, j * 4 + 3, none⟩ (.int .u8 0)) (fun b => b = g) ∧ ∃ cur, ((((wr.setCell ⟨g, j * 4, none⟩ (.int .u8 0)).setCell ⟨g, j * 4 + 1, none⟩ (.int .u8 0)).setCell ⟨g, j * 4 + 2, none⟩ (.int .u8 0)).setCell ⟨g, j * 4 + 3, none⟩ (.int .u8 0)).heap[g]? = some (.cells cur 68 (0, 0)) ∧ 72 * 4 ≤ cur.size) := Lib.hid ⟨ZI.out.1.trans hK' (fun _ _ x => x), cur', hcur', hcs'⟩
                clear hcur hcs hcur' hcs' hK' hbm
                go_wp2
                go_roundw
                case rel => exact ⟨j + 1, by omega, by go_num, ZN⟩
                case measure => simp [intOf]; omega
              · have hjl' : ¬ (j : Int) < 72 := by omega
                have SZ := Lib.hid (SQ.out.own ZI.out.1 GG.out.1 GG.out.2.1 GG.out.2.2.1 GG.out.2.2.2)
                have bx0 : wr.heap[p0]? = some (.cells #[.int .i64 1, .int .i64 x, .int .i64 y, .int .u8 (fill : Int), .bool true, .int .i64 b0, .int .i64 b1, .int .i64 b2, .int .i64 b3] 61 (0, 0)) := by rw [ZI.out.1.block p0 (Array.getElem?_eq_some_iff.1 BZ.out.1).1 BZ.out.2.2.1]; exact BZ.out.1
                have bx1 : wr.heap[p1]? = some (.cells #[.int .i64 x, .int .i64 y] 28 (0, 0)) := by rw [ZI.out.1.block p1 (Array.getElem?_eq_some_iff.1 BZ.out.2.1).1 BZ.out.2.2.2]; exact BZ.out.2.1
                have u0 : wr.cell? ⟨p1, 0, none⟩ = some (.int .i64 x) := by rw [cell_of_row _ _ _ _ _ (0, 0) bx1]; rfl
                have u1 : wr.cell? ⟨p1, 1, none⟩ = some (.int .i64 y) := by rw [cell_of_row _ _ _ _ _ (0, 0) bx1]; rfl
                have u3 : wr.cell? ⟨p0, 3, none⟩ = some (.int .u8 (fill : Int)) := by rw [cell_of_row _ _ _ _ _ (0, 0) bx0]; rfl
                have u4 : wr.cell? ⟨p0, 4, none⟩ = some (.bool true) := by rw [cell_of_row _ _ _ _ _ (0, 0) bx0]; rfl
                have u5 : p1 < wr.heap.size := (Array.getElem?_eq_some_iff.1 bx1).1
                have u6 : p0 < wr.heap.size := (Array.getElem?_eq_some_iff.1 bx0).1
                clear hbm bx0 bx1 v2 hpml hcur hcs hgl
                cases hR : rightK (x, y) with
                | false =>
                  rw [hR] at CRR
                  have hRH := Lib.hid hR
                  clear hR
                  go_wp2_with fail
                  refine (CRR.out _).mono ?_
                  rintro e w8 ⟨rfl, g8, rfl⟩
                  have S8 := Lib.hid (SZ.out.grow ⟨g8, rfl⟩)
                  go_wp2
                  exact bodyPost_ret (v := .tuple #[.slice LA i lc, .bool true]) (by simp [results, Try.results27, go_sem]) rfl ⟨m, S6, LA, i, lc, fl, rfl, ⟨S8.out, H.out.fill⟩, by omega⟩
                | true =>
                  rw [hR] at CRR
                  have hRH := Lib.hid hR
                  clear hR
                  go_wp2_with fail
                  refine (CRR.out _).mono ?_
                  rintro e w8 ⟨rfl, g8, rfl⟩
                  have S8 := Lib.hid (SZ.out.grow ⟨g8, rfl⟩)
                  go_wp2
                  exact bodyPost_ret (v := .tuple #[.slice LA i lc, .bool true]) (by simp [results, Try.results27, go_sem]) rfl ⟨m, S6, LA, i, lc, fl, rfl, ⟨S8.out, H.out.fill⟩, by omega⟩)
        | false =>
          have NF : Hid (p1 ≠ FB) := Lib.hid (fun e => by have h1 := BX.out.2; obtain ⟨es, cl, h2, _⟩ := SP.out.sh.mp; rw [← e, h1] at h2; simp at h2)
          have GQ : Hid ((∃ cur, wb.heap[g0]? = some (.cells cur 68 (0, 0)) ∧ 64 * 4 ≤ cur.size) ∧ wr.heap.size ≤ g0 ∧ g0 < wb.heap.size) := Lib.hid ⟨⟨cur, GB.out.1, GB.out.2.2.2⟩, GB.out.2.1, by have := GB.out.2.2.1; omega⟩
          have BQ : Hid (wb.heap[p0]? = some (.cells #[.int .i64 1, .int .i64 x, .int .i64 y, .int .u8 (fill : Int), .bool false, .int .i64 b0, .int .i64 b1, .int .i64 b2, .int .i64 b3] 61 (0, 0)) ∧ wb.heap[p1]? = some (.cells #[.int .i64 x, .int .i64 y] 28 (0, 0)) ∧ wb.heap[pm]? = some (.cells #[.int .i64 8, .int .i64 8, .slice (some ⟨g0, 0, none⟩) 64 pc] 47 (0, 0)) ∧ pm ≠ g0) := Lib.hid ⟨BB.out.1, BB.out.2.1, BB.out.2.2.1, by have := GB.out.2.2.1; omega⟩
          have SW := SB
          obtain ⟨g, hg⟩ : ∃ g, g0 = g := ⟨_, rfl⟩
          rw [hg] at GQ BQ OB m2 GB
          have HG0 := Lib.hid hg
          have PT := put_tile cc m S x y (.slice (some ⟨g, 0, none⟩) 64 pc) _ wb SB.out.sh.tk OB.out.pix IK.out (rep_right fill hok3) SP.out.sh.ok (fun b hb hS => by
            simp only [Value.ownBlock, Option.some.injEq] at hb
            have := SP.out.sh.tk.lt b hS
            have := GQ.out.2
            omega)
          cases hR : rightK (x, y) with
          | false =>
            rw [hR] at PT CRR
            have hmr : m.putR (x, y) (List.replicate 64 (fill, 0, 0, 255)) = m := by unfold TM.putR; rw [hR]; rfl
            rw [hmr] at PT
            simp only [Bool.false_eq_true, if_false] at PT
            have G := Lib.hid PT
            clear PT hR hmr hg
            go_wp2_with (first | rw [HWB.out, HPM.out, HG0.out] | rw [HWB.out] | fail)
            refine G.out.mono ?_
            rintro e wz ⟨rfl, S6, hT6, hS6, hK6⟩
            have gq : wr.heap.size ≤ g ∧ g < wb.heap.size := GQ.out.2
            have nS6 : ∀ b, wr.heap.size ≤ b → b < wb.heap.size → ¬ S6 b := fun b h1 h2 e => by
              rcases hS6 b e with h3 | h3
              · have := SP.out.sh.tk.lt b h3; omega
              · omega
            have nSo : ∀ b, wr.heap.size ≤ b → ¬ S b := fun b h1 e => by have := SP.out.sh.tk.lt b e; omega
            have hp0w : p0 < wr.heap.size := (Array.getElem?_eq_some_iff.1 BX.out.1).1
            have hp1w : p1 < wr.heap.size := (Array.getElem?_eq_some_iff.1 BX.out.2).1
            have SQ := Lib.hid (SW.out.sh.turn hT6 H.out.sh.ok H.out.sh.mo hS6 hK6)
            have GR : Hid (∃ cur, wz.heap[g]? = some (.cells cur 68 (0, 0)) ∧ 64 * 4 ≤ cur.size) := Lib.hid (by
              obtain ⟨cur, h1, h2⟩ := GQ.out.1
              exact ⟨cur, by rw [hK6.block g gq.2 (nSo g gq.1)]; exact h1, h2⟩)
            have BM : Hid (wz.heap[pm]? = some (.cells #[.int .i64 8, .int .i64 8, .slice (some ⟨g, 0, none⟩) 64 pc] 47 (0, 0)) ∧ pm ≠ g) := Lib.hid ⟨by rw [hK6.block pm (Array.getElem?_eq_some_iff.1 BQ.out.2.2.1).1 (nSo pm BB.out.2.2.2)]; exact BQ.out.2.2.1, BQ.out.2.2.2⟩
            have BZ : Hid (wz.heap[p0]? = some (.cells #[.int .i64 1, .int .i64 x, .int .i64 y, .int .u8 (fill : Int), .bool false, .int .i64 b0, .int .i64 b1, .int .i64 b2, .int .i64 b3] 61 (0, 0)) ∧ wz.heap[p1]? = some (.cells #[.int .i64 x, .int .i64 y] 28 (0, 0)) ∧ p0 ≠ g ∧ p1 ≠ g) := Lib.hid
              ⟨by rw [hK6.block p0 (Array.getElem?_eq_some_iff.1 BQ.out.1).1 (fun e => nS.out.1 e)]; exact BQ.out.1, by rw [hK6.block p1 (Array.getElem?_eq_some_iff.1 BQ.out.2.1).1 (fun e => nS.out.2 e)]; exact BQ.out.2.1, by omega, by omega⟩
            have GG : Hid (w.heap.size ≤ g ∧ ¬ S6 g ∧ g ≠ FB ∧ (Value.slice LA i lc).ownBlock ≠ some g) := Lib.hid ⟨Nat.le_trans SP.out.sh.ext.size gq.1, nS6 g gq.1 gq.2, fun e => by have := SP.out.sh.mp.lt; omega, fun e => by have := (SP.out.sh.lb g e).2.2; omega⟩
            have z2 : wz.cell? ⟨pm, 2, none⟩ = some (.slice (some ⟨g, 0, none⟩) 64 pc) := by rw [cell_of_row _ _ _ _ _ (0, 0) BM.out.1]; rfl
            have zl : pm < wz.heap.size := (Array.getElem?_eq_some_iff.1 BM.out.1).1
            clear hT6 hS6 hK6 nS6 nSo gq hp0w hp1w
            go_wp2
            go_loopw [65] (fun t65 wr => ∃ j : Nat, j ≤ 64 ∧ t65 = .int .i64 (j : Int) ∧ Hid (Keep wz wr (fun b => b = g) ∧ ∃ cur, wr.heap[g]? = some (.cells cur 68 (0, 0)) ∧ 64 * 4 ≤ cur.size)) (fun t65 _ => 64 - (intOf t65).toNat)
            case atStart => exact ⟨0, by omega, rfl, Lib.hid ⟨Keep.refl _ _, GR.out⟩⟩
            case round =>
              obtain ⟨j, hj, rfl, ZI⟩ := hrel
              have hbm : wr.heap[pm]? = some (.cells #[.int .i64 8, .int .i64 8, .slice (some ⟨g, 0, none⟩) 64 pc] 47 (0, 0)) := by rw [ZI.out.1.block pm (Array.getElem?_eq_some_iff.1 BM.out.1).1 BM.out.2]; exact BM.out.1
              have v2 : wr.cell? ⟨pm, 2, none⟩ = some (.slice (some ⟨g, 0, none⟩) 64 pc) := by rw [cell_of_row _ _ _ _ _ (0, 0) hbm]; rfl
              have hpml : pm < wr.heap.size := (Array.getElem?_eq_some_iff.1 hbm).1
              obtain ⟨cur, hcur, hcs⟩ := ZI.out.2
              have hgl : g < wr.heap.size := (Array.getElem?_eq_some_iff.1 hcur).1
              by_cases hjl : j < 64
              · have hjl' : (j : Int) < 64 := by omega
                obtain ⟨q0, q1, q2, q3, e0, e1, e2, e3⟩ := row4 hcur hcs hjl
                obtain ⟨cur', hcur', hcs', hK'⟩ := set4 hcur hcs j (.int .u8 0)
                have fz : ∀ k, wr.frozen? ⟨g, k, none⟩ = false := fun k => by simp [World.frozen?, hcur]
                have ZN : Hid (Keep wz ((((wr.setCell ⟨g, j * 4, none⟩ (.int .u8 0)).setCell ⟨g, j * 4 + 1, none⟩ (.int .u8 0)).setCell ⟨g, j * 4 + 2, none⟩ (.int .u8 0)).setCell ⟨g, j * 4 + 3, none⟩ (.int .u8 0)) (fun b => b = g) ∧ ∃ cur, ((((wr.setCell ⟨g, j * 4, none⟩ (.int .u8 0)).setCell ⟨g, j * 4 + 1, none⟩ (.int .u8 0)).setCell ⟨g, j * 4 + 2, none⟩ (.int .u8 0)).setCell ⟨g, j * 4 + 3, none⟩ (.int .u8 0)).heap[g]? = some (.cells cur 68 (0, 0)) ∧ 64 * 4 ≤ cur.size) := Lib.hid ⟨ZI.out.1.trans hK' (fun _ _ x => x), cur', hcur', hcs'⟩
                clear hcur hcs hcur' hcs' hK' hbm
                go_wp2
                go_roundw
                case rel => exact ⟨j + 1, by omega, by go_num, ZN⟩
                case measure => simp [intOf]; omega
              · have hjl' : ¬ (j : Int) < 64 := by omega
                have SZ := Lib.hid (SQ.out.own ZI.out.1 GG.out.1 GG.out.2.1 GG.out.2.2.1 GG.out.2.2.2)
                have bx0 : wr.heap[p0]? = some (.cells #[.int .i64 1, .int .i64 x, .int .i64 y, .int .u8 (fill : Int), .bool false, .int .i64 b0, .int .i64 b1, .int .i64 b2, .int .i64 b3] 61 (0, 0)) := by rw [ZI.out.1.block p0 (Array.getElem?_eq_some_iff.1 BZ.out.1).1 BZ.out.2.2.1]; exact BZ.out.1
                have bx1 : wr.heap[p1]? = some (.cells #[.int .i64 x, .int .i64 y] 28 (0, 0)) := by rw [ZI.out.1.block p1 (Array.getElem?_eq_some_iff.1 BZ.out.2.1).1 BZ.out.2.2.2]; exact BZ.out.2.1
                have u0 : wr.cell? ⟨p1, 0, none⟩ = some (.int .i64 x) := by rw [cell_of_row _ _ _ _ _ (0, 0) bx1]; rfl
                have u1 : wr.cell? ⟨p1, 1, none⟩ = some (.int .i64 y) := by rw [cell_of_row _ _ _ _ _ (0, 0) bx1]; rfl
                have u3 : wr.cell? ⟨p0, 3, none⟩ = some (.int .u8 (fill : Int)) := by rw [cell_of_row _ _ _ _ _ (0, 0) bx0]; rfl
                have u4 : wr.cell? ⟨p0, 4, none⟩ = some (.bool false) := by rw [cell_of_row _ _ _ _ _ (0, 0) bx0]; rfl
                have u5 : p1 < wr.heap.size := (Array.getElem?_eq_some_iff.1 bx1).1
                have u6 : p0 < wr.heap.size := (Array.getElem?_eq_some_iff.1 bx0).1
                clear hbm bx0 bx1 v2 hpml hcur hcs hgl
                go_wp2_with fail
                refine (CRR.out _).mono ?_
                rintro e w8 ⟨rfl, g8, rfl⟩
                have S8 := Lib.hid (SZ.out.grow ⟨g8, rfl⟩)
                go_wp2
                exact bodyPost_ret (v := .tuple #[.slice LA i lc, .bool true]) (by simp [results, Try.results27, go_sem]) rfl ⟨m, S6, LA, i, lc, fl, rfl, ⟨S8.out, H.out.fill⟩, by omega⟩
          | true =>
            rw [hR] at PT CRR
            have hmr : m.putR (x, y) (List.replicate 64 (fill, 0, 0, 255)) = m.put (x, y) (List.replicate 64 (fill, 0, 0, 255)) := by unfold TM.putR; rw [hR]; rfl
            rw [hmr] at PT
            simp only [if_true] at PT
            have OKP := Lib.hid (H.out.sh.ok.put hR (px_ok fill hok3))
            have G := Lib.hid PT
            clear PT hR hmr hg
            go_wp2_with (first | rw [HWB.out, HPM.out, HG0.out] | rw [HWB.out] | fail)
            refine G.out.mono ?_
            rintro e wz ⟨rfl, S6, hT6, hS6, hK6⟩
            have gq : wr.heap.size ≤ g ∧ g < wb.heap.size := GQ.out.2
            have nS6 : ∀ b, wr.heap.size ≤ b → b < wb.heap.size → ¬ S6 b := fun b h1 h2 e => by
              rcases hS6 b e with h3 | h3
              · have := SP.out.sh.tk.lt b h3; omega
              · omega
            have nSo : ∀ b, wr.heap.size ≤ b → ¬ S b := fun b h1 e => by have := SP.out.sh.tk.lt b e; omega
            have hp0w : p0 < wr.heap.size := (Array.getElem?_eq_some_iff.1 BX.out.1).1
            have hp1w : p1 < wr.heap.size := (Array.getElem?_eq_some_iff.1 BX.out.2).1
            have SQ := Lib.hid (SW.out.sh.turn hT6 OKP.out ((put_most m _ _).trans H.out.sh.mo) hS6 hK6)
            have GR : Hid (∃ cur, wz.heap[g]? = some (.cells cur 68 (0, 0)) ∧ 64 * 4 ≤ cur.size) := Lib.hid (by
              obtain ⟨cur, h1, h2⟩ := GQ.out.1
              exact ⟨cur, by rw [hK6.block g gq.2 (nSo g gq.1)]; exact h1, h2⟩)
            have BM : Hid (wz.heap[pm]? = some (.cells #[.int .i64 8, .int .i64 8, .slice (some ⟨g, 0, none⟩) 64 pc] 47 (0, 0)) ∧ pm ≠ g) := Lib.hid ⟨by rw [hK6.block pm (Array.getElem?_eq_some_iff.1 BQ.out.2.2.1).1 (nSo pm BB.out.2.2.2)]; exact BQ.out.2.2.1, BQ.out.2.2.2⟩
            have BZ : Hid (wz.heap[p0]? = some (.cells #[.int .i64 1, .int .i64 x, .int .i64 y, .int .u8 (fill : Int), .bool false, .int .i64 b0, .int .i64 b1, .int .i64 b2, .int .i64 b3] 61 (0, 0)) ∧ wz.heap[p1]? = some (.cells #[.int .i64 x, .int .i64 y] 28 (0, 0)) ∧ p0 ≠ g ∧ p1 ≠ g) := Lib.hid
              ⟨by rw [hK6.block p0 (Array.getElem?_eq_some_iff.1 BQ.out.1).1 (fun e => nS.out.1 e)]; exact BQ.out.1, by rw [hK6.block p1 (Array.getElem?_eq_some_iff.1 BQ.out.2.1).1 (fun e => nS.out.2 e)]; exact BQ.out.2.1, by omega, by omega⟩
            have GG : Hid (w.heap.size ≤ g ∧ ¬ S6 g ∧ g ≠ FB ∧ (Value.slice LA i lc).ownBlock ≠ some g) := Lib.hid ⟨Nat.le_trans SP.out.sh.ext.size gq.1, nS6 g gq.1 gq.2, fun e => by have := SP.out.sh.mp.lt; omega, fun e => by have := (SP.out.sh.lb g e).2.2; omega⟩
            have z2 : wz.cell? ⟨pm, 2, none⟩ = some (.slice (some ⟨g, 0, none⟩) 64 pc) := by rw [cell_of_row _ _ _ _ _ (0, 0) BM.out.1]; rfl
            have zl : pm < wz.heap.size := (Array.getElem?_eq_some_iff.1 BM.out.1).1
            clear hT6 hS6 hK6 nS6 nSo gq hp0w hp1w
            go_wp2
            go_loopw [65] (fun t65 wr => ∃ j : Nat, j ≤ 64 ∧ t65 = .int .i64 (j : Int) ∧ Hid (Keep wz wr (fun b => b = g) ∧ ∃ cur, wr.heap[g]? = some (.cells cur 68 (0, 0)) ∧ 64 * 4 ≤ cur.size)) (fun t65 _ => 64 - (intOf t65).toNat)
            case atStart => exact ⟨0, by omega, rfl, Lib.hid ⟨Keep.refl _ _, GR.out⟩⟩
            case round =>
              obtain ⟨j, hj, rfl, ZI⟩ := hrel
              have hbm : wr.heap[pm]? = some (.cells #[.int .i64 8, .int .i64 8, .slice (some ⟨g, 0, none⟩) 64 pc] 47 (0, 0)) := by rw [ZI.out.1.block pm (Array.getElem?_eq_some_iff.1 BM.out.1).1 BM.out.2]; exact BM.out.1
              have v2 : wr.cell? ⟨pm, 2, none⟩ = some (.slice (some ⟨g, 0, none⟩) 64 pc) := by rw [cell_of_row _ _ _ _ _ (0, 0) hbm]; rfl
              have hpml : pm < wr.heap.size := (Array.getElem?_eq_some_iff.1 hbm).1
              obtain ⟨cur, hcur, hcs⟩ := ZI.out.2
              have hgl : g < wr.heap.size := (Array.getElem?_eq_some_iff.1 hcur).1
              by_cases hjl : j < 64
              · have hjl' : (j : Int) < 64 := by omega
                obtain ⟨q0, q1, q2, q3, e0, e1, e2, e3⟩ := row4 hcur hcs hjl
                obtain ⟨cur', hcur', hcs', hK'⟩ := set4 hcur hcs j (.int .u8 0)
                have fz : ∀ k, wr.frozen? ⟨g, k, none⟩ = false := fun k => by simp [World.frozen?, hcur]
                have ZN : Hid (Keep wz ((((wr.setCell ⟨g, j * 4, none⟩ (.int .u8 0)).setCell ⟨g, j * 4 + 1, none⟩ (.int .u8 0)).setCell ⟨g, j * 4 + 2, none⟩ (.int .u8 0)).setCell ⟨g, j * 4 + 3, none⟩ (.int .u8 0)) (fun b => b = g) ∧ ∃ cur, ((((wr.setCell ⟨g, j * 4, none⟩ (.int .u8 0)).setCell ⟨g, j * 4 + 1, none⟩ (.int .u8 0)).setCell ⟨g, j * 4 + 2, none⟩ (.int .u8 0)).setCell ⟨g, j * 4 + 3, none⟩ (.int .u8 0)).heap[g]? = some (.cells cur 68 (0, 0)) ∧ 64 * 4 ≤ cur.size) := Lib.hid ⟨ZI.out.1.trans hK' (fun _ _ x => x), cur', hcur', hcs'⟩
                clear hcur hcs hcur' hcs' hK' hbm
                go_wp2
                go_roundw
                case rel => exact ⟨j + 1, by omega, by go_num, ZN⟩
                case measure => simp [intOf]; omega
              · have hjl' : ¬ (j : Int) < 64 := by omega
                have SZ := Lib.hid (SQ.out.own ZI.out.1 GG.out.1 GG.out.2.1 GG.out.2.2.1 GG.out.2.2.2)
                have bx0 : wr.heap[p0]? = some (.cells #[.int .i64 1, .int .i64 x, .int .i64 y, .int .u8 (fill : Int), .bool false, .int .i64 b0, .int .i64 b1, .int .i64 b2, .int .i64 b3] 61 (0, 0)) := by rw [ZI.out.1.block p0 (Array.getElem?_eq_some_iff.1 BZ.out.1).1 BZ.out.2.2.1]; exact BZ.out.1
                have bx1 : wr.heap[p1]? = some (.cells #[.int .i64 x, .int .i64 y] 28 (0, 0)) := by rw [ZI.out.1.block p1 (Array.getElem?_eq_some_iff.1 BZ.out.2.1).1 BZ.out.2.2.2]; exact BZ.out.2.1
                have u0 : wr.cell? ⟨p1, 0, none⟩ = some (.int .i64 x) := by rw [cell_of_row _ _ _ _ _ (0, 0) bx1]; rfl
                have u1 : wr.cell? ⟨p1, 1, none⟩ = some (.int .i64 y) := by rw [cell_of_row _ _ _ _ _ (0, 0) bx1]; rfl
                have u3 : wr.cell? ⟨p0, 3, none⟩ = some (.int .u8 (fill : Int)) := by rw [cell_of_row _ _ _ _ _ (0, 0) bx0]; rfl
                have u4 : wr.cell? ⟨p0, 4, none⟩ = some (.bool false) := by rw [cell_of_row _ _ _ _ _ (0, 0) bx0]; rfl
                have u5 : p1 < wr.heap.size := (Array.getElem?_eq_some_iff.1 bx1).1
                have u6 : p0 < wr.heap.size := (Array.getElem?_eq_some_iff.1 bx0).1
                clear hbm bx0 bx1 v2 hpml hcur hcs hgl
                go_wp2_with fail
                refine (CRR.out _).mono ?_
                rintro e w8 ⟨rfl, g8, rfl⟩
                have S8 := Lib.hid (SZ.out.grow ⟨g8, rfl⟩)
                obtain ⟨w9, hup, hM9, hK9⟩ := run_put (t := 59) (K := 28) (E := 5) mapK_RKey Try.underlying59 S8.out.mp (x, y) IK.out (.int .u8 (fill : Int)) (by have := HF.out; omega)
                simp only [keyV] at hup
                have S9 := Lib.hid (S8.out.put hM9 hK9)
                have q0' : w9.cell? ⟨p1, 0, none⟩ = some (.int .i64 x) := by rw [hK9.cell (Nat.lt_of_lt_of_le u5 (Ext.size ⟨g8, rfl⟩)) NF.out, (Ext.ext (Ext.refl _) g8).cell u5]; exact u0
                have q1' : w9.cell? ⟨p1, 1, none⟩ = some (.int .i64 y) := by rw [hK9.cell (Nat.lt_of_lt_of_le u5 (Ext.size ⟨g8, rfl⟩)) NF.out, (Ext.ext (Ext.refl _) g8).cell u5]; exact u1
                have q5' : p1 < w9.heap.size := Nat.lt_of_lt_of_le (Nat.lt_of_lt_of_le u5 (Ext.size ⟨g8, rfl⟩)) hK9.size
                have RP := Lib.hid (refPut_any (.slice LA i lc) m.keys x y most w9 S9.out.ls (by rw [HLN.out]; omega) (by omega) IK.out)
                have PK : Hid (putL m.keys (x, y) most = (m.put (x, y) (List.replicate 64 (fill, 0, 0, 255))).keys) := Lib.hid (by rw [put_keys m _ _ SP.out.sh.tk.nodup, SP.out.sh.mo])
                clear hM9 hK9
                go_wp2_with fail
                refine RP.out.mono ?_
                rintro e w10 ⟨A10, n10, c10, rfl, hY, hB, hE⟩
                have FF : Hid (SPost w most cc FB (fl.length + 1) (.returned (.tuple #[.slice A10 n10 c10, .bool true])) w10) := Lib.hid
                  ⟨m.put (x, y) (List.replicate 64 (fill, 0, 0, 255)), S6, A10, n10, c10, putK fl (x, y) (.int .u8 (fill : Int)), rfl, ⟨(S9.out.grow hE).list (by rw [← PK.out]; exact hY) (fun b hb => by
                    have h1 := hB b hb
                    exact ⟨fun e => by have := S9.out.tk.lt b e; omega, fun e => by have := S9.out.mp.lt; omega, h1.2⟩), fun t ht => by
                    rcases put_mem m (x, y) _ t ht with ⟨h1, h2⟩ | h1
                    · obtain ⟨n, e1, e2, e3⟩ := H.out.fill t h1
                      exact ⟨n, e1, e2, by rw [look_put, if_neg h2]; exact e3⟩
                    · rw [h1]
                      exact ⟨fill, hok3, rfl, by rw [look_put, if_pos rfl]⟩⟩, putK_len _ _ _⟩
                clear hY hB hE q0' q1' hup
                go_wp2
                exact bodyPost_ret (v := .tuple #[.slice A10 n10 c10, .bool true]) (by simp [results, Try.results27, go_sem]) rfl FF.out
      by_cases k2 : kind = 2
      · subst k2
        have HFM := Lib.hid (find_mem m (x, y))
        have GT := get_any cc m S (x, y) wr SP.out.sh.tk IK.out (fun t ht => by have := (H.out.sh.ok.px t ht).1; omega)
        have HH2 := HH.out
        cases has with
        | false =>
          have hnone : m.find (x, y) = none := by
            have := HFM.out
            rw [HH.out] at this
            cases hfn : m.find (x, y) with
            | none => rfl
            | some p => rw [hfn] at this; cases this
          rw [hnone] at GT
          simp only [Option.isSome_none, Bool.false_eq_true, if_false, Option.getD_none] at GT
          have G := Lib.hid GT
          clear GT hnone HH2
          go_wp2_with fail
          refine G.out.mono ?_
          rintro e w5 ⟨⟨pv, rfl, hO⟩, hE⟩
          obtain ⟨PA, pc, rfl⟩ := own_slice hO.1
          rw [show ([] : List Px).length = 0 from rfl] at hO ⊢
          have SQ := Lib.hid (SP.out.grow hE)
          clear hO hE o0 o1 o2 o3 o4
          obtain ⟨wb, hwb⟩ : ∃ wb, w5.alloc (.cells #[.int .i64 0, .int .i64 0, .slice PA 0 pc] 47) = wb := ⟨_, rfl⟩
          obtain ⟨pm, hpm⟩ : ∃ pm, w5.heap.size = pm := ⟨_, rfl⟩
          have EB : Ext w5 wb := by rw [← hwb]; exact (Ext.refl _).alloc _
          have SB := Lib.hid (SQ.out.grow EB)
          have n2 : ∀ g', (wb.ext g').cell? ⟨pm, 2, none⟩ = some (.slice PA 0 pc) := fun g' => by rw [(Ext.ext (Ext.refl _) g').cell (by rw [← hwb, ← hpm]; simp), ← hwb, ← hpm]; simp [go_sem]
          have HWB := Lib.hid hwb
          have HPM := Lib.hid hpm
          clear hwb hpm EB
          go_wp2_with (first | rw [HWB.out, HPM.out] | rw [HWB.out] | fail)
          refine region_quiet (by kernel_rfl) (by kernel_rfl) ?_
          iterate 25 (go_big_quiet_step (fail))
          refine wpQuiet_nil ?_
          rintro _ ⟨g9, rfl⟩
          have n2' := n2 g9
          have SB' := Lib.hid (SB.out.grow ⟨g9, rfl⟩)
          go_wp2
          refine wp_loop_rounds 1 ?_
          rw [rounds_succ]
          go_wp2
          exact bodyPost_ret (v := .tuple #[.slice LA i lc, .bool true]) (by simp [results, Try.results27, go_sem]) rfl ⟨m, S, LA, i, lc, fl, rfl, SB'.out, by omega⟩
        | true =>
          obtain ⟨px, hpx⟩ : ∃ px, m.find (x, y) = some px := by have := HFM.out; rw [HH.out] at this; exact Option.isSome_iff_exists.1 this
          obtain ⟨t, ht, htk, htp⟩ := find_at m (x, y) hpx
          obtain ⟨nf, hnf, hrep, hlook⟩ := H.out.fill t ht
          rw [htk] at hlook
          rw [hpx, ← htp, hrep] at GT
          simp only [Option.isSome_some, if_true, Option.getD_some] at GT
          have G := Lib.hid GT
          have LK := Lib.hid hlook
          clear GT hpx ht htk htp hrep hlook HH2
          go_wp2_with fail
          refine G.out.mono ?_
          rintro e w5 ⟨⟨pv, rfl, hO⟩, hE⟩
          obtain ⟨PA, pc, rfl⟩ := own_slice hO.1
          rw [List.length_replicate] at hO ⊢
          obtain ⟨g, cur, rfl, hgc, hcs, hgb, hgs⟩ := own_cells hO (by omega)
          have S5 := Lib.hid (SP.out.grow hE)
          have bx0 := hE.heapAt BX.out.1
          have bx1 := hE.heapAt BX.out.2
          have O5 := Lib.hid hO
          have G5 := Lib.hid (And.intro hgc (And.intro hgb hgs))
          obtain ⟨wb, hwb⟩ : ∃ wb, w5.alloc (.cells #[.int .i64 8, .int .i64 8, .slice (some ⟨g, 0, none⟩) 64 pc] 47) = wb := ⟨_, rfl⟩
          obtain ⟨pm, hpm⟩ : ∃ pm, w5.heap.size = pm := ⟨_, rfl⟩
          have EB : Hid (Ext w5 wb) := Lib.hid (by rw [← hwb]; exact (Ext.refl _).alloc _)
          have BMB : Hid (wb.heap[pm]? = some (.cells #[.int .i64 8, .int .i64 8, .slice (some ⟨g, 0, none⟩) 64 pc] 47 (0, 0))) := Lib.hid (by rw [← hwb, ← hpm]; exact heap_alloc_new _ _)
          have SB := Lib.hid (S5.out.grow EB.out)
          have HWB := Lib.hid hwb
          have HPM := Lib.hid hpm
          have BXB := Lib.hid (And.intro (EB.out.heapAt bx0) (EB.out.heapAt bx1))
          clear hO hE o0 o1 o2 o3 o4 bx0 bx1 hgc hgb hwb hpm
          have n0 : ∀ g', (wb.ext g').cell? ⟨pm, 0, none⟩ = some (.int .i64 8) := fun g' => by rw [cell_of_row _ _ _ _ _ (0, 0) ((Ext.ext (Ext.refl wb) g').heapAt BMB.out)]; rfl
          have n1 : ∀ g', (wb.ext g').cell? ⟨pm, 1, none⟩ = some (.int .i64 8) := fun g' => by rw [cell_of_row _ _ _ _ _ (0, 0) ((Ext.ext (Ext.refl wb) g').heapAt BMB.out)]; rfl
          have n2 : ∀ g', (wb.ext g').cell? ⟨pm, 2, none⟩ = some (.slice (some ⟨g, 0, none⟩) 64 pc) := fun g' => by rw [cell_of_row _ _ _ _ _ (0, 0) ((Ext.ext (Ext.refl wb) g').heapAt BMB.out)]; rfl
          have n3 : ∀ g', (wb.ext g').cell? ⟨p1, 0, none⟩ = some (.int .i64 x) := fun g' => by rw [cell_of_row _ _ _ _ _ (0, 0) ((Ext.ext (Ext.refl wb) g').heapAt BXB.out.2)]; rfl
          have n4 : ∀ g', (wb.ext g').cell? ⟨p1, 1, none⟩ = some (.int .i64 y) := fun g' => by rw [cell_of_row _ _ _ _ _ (0, 0) ((Ext.ext (Ext.refl wb) g').heapAt BXB.out.2)]; rfl
          have n5 : ∀ g', (Instr.lookup 59 (.map (some FB)) (.agg #[.int .i64 x, .int .i64 y]) false).run Try.prog (wb.ext g') = .ok (.int .u8 (nf : Int)) (wb.ext g') := fun g' => by
            have h1 := run_look (t := 59) (K := 28) (E := 5) mapK_RKey Try.underlying59 u8_zero (SB.out.sh.mp.ext ⟨g', rfl⟩) false (x, y) IK.out
            rw [LK.out] at h1
            exact h1
          go_wp2_with (first | rw [HWB.out, HPM.out] | rw [HWB.out] | fail)
          refine region_flow 25 [123, 124] (fun t v => match t with | 123 => ∃ A c, v = .agg #[.int .i64 8, .int .i64 8, .slice A 64 c] | 124 => v = .bool true | _ => False) (fun t v w' => match t with | 123 => ∃ pv, v = .agg #[.int .i64 8, .int .i64 8, pv] ∧ OwnP .u8 68 wb.heap.size w' pv (List.replicate 64 (nf, 0, 0, 255)) | 124 => True | _ => False) (by kernel_rfl) (by kernel_rfl) ?hq ?hu ?hR ?h
          case hq => intro t v h; split at h <;> simp_all
          case hu => intro t h; split at h <;> simp [undef] at h
          case hR =>
            intro t v wx wy _ h he
            split at h
            · obtain ⟨pv, e, hO⟩ := h; exact ⟨pv, e, hO.ext he⟩
            · trivial
            · exact h.elim
          case h =>
            dsimp only [List.take, List.drop]
            iterate 20 (refine Flow.plain rfl rfl ?_; go_big_quiet_step (fail); refine wpQuiet_nil ?_)
            refine Flow.call Try.call20 [.int .u8 (nf : Int)] rfl rfl rfl ?_ (fun wx hx hf => (plain_any nf wx hnf).mono ?_) ?_
            · exact ⟨.agg #[.int .i64 8, .int .i64 8, .slice none 64 0], _, _, rfl⟩
            · rintro e w' ⟨PA, pc, rfl, hO, hE⟩
              exact ⟨_, rfl, hE, ⟨PA, pc, rfl⟩, _, rfl, hO.mono hx.size⟩
            rintro v ⟨A1, cap1, rfl⟩
            simp only [Act.put, List.setIfInBounds_toArray, List.set_cons_zero, List.set_cons_succ]
            refine Flow.call Try.call41 [.agg #[.int .i64 8, .int .i64 8, .slice (some ⟨g, 0, none⟩) 64 pc], .agg #[.int .i64 8, .int .i64 8, .slice A1 64 cap1]] rfl rfl rfl ⟨.bool true, rfl⟩ (fun wx hx hf => ?_) ?_
            · obtain ⟨pv, e, hO⟩ := hf.at 123 (by kernel_rfl) ⟨A1, cap1, rfl⟩
              simp [Act.eval] at e
              subst e
              have h1 := equal_any 8 8 8 8 _ _ _ _ wx ((O5.out.ext (EB.out.trans hx)).pix) hO.pix
              rw [show eqI 8 8 8 8 (List.replicate 64 ((nf, 0, 0, 255) : Px)) (List.replicate 64 ((nf, 0, 0, 255) : Px)) = true by unfold eqI; simp] at h1
              refine h1.mono ?_
              rintro e w' ⟨rfl, hE⟩
              exact ⟨_, rfl, hE, rfl, trivial⟩
            rintro v rfl
            simp only [Act.put, List.setIfInBounds_toArray, List.set_cons_zero, List.set_cons_succ]
            iterate 3 (refine Flow.plain rfl rfl ?_; go_big_quiet_step (fail); refine wpQuiet_nil ?_)
            refine Flow.nil fun wz hxz hf => ?_
            have SQ := Lib.hid (SB.out.sh.grow hxz)
            have GR : Hid (∃ cur, wz.heap[g]? = some (.cells cur 68 (0, 0)) ∧ 64 * 4 ≤ cur.size) := Lib.hid ⟨cur, (EB.out.trans hxz).heapAt G5.out.1, hcs⟩
            have BM : Hid (wz.heap[pm]? = some (.cells #[.int .i64 8, .int .i64 8, .slice (some ⟨g, 0, none⟩) 64 pc] 47 (0, 0)) ∧ pm ≠ g) := Lib.hid ⟨hxz.heapAt BMB.out, by have := HPM.out; have := G5.out.2.2; omega⟩
            have BZ : Hid (wz.heap[p0]? = some (.cells #[.int .i64 2, .int .i64 x, .int .i64 y, .int .u8 (fill : Int), .bool wide, .int .i64 b0, .int .i64 b1, .int .i64 b2, .int .i64 b3] 61 (0, 0)) ∧ wz.heap[p1]? = some (.cells #[.int .i64 x, .int .i64 y] 28 (0, 0)) ∧ p0 ≠ g ∧ p1 ≠ g) := Lib.hid ⟨hxz.heapAt BXB.out.1, hxz.heapAt BXB.out.2, by have := (Array.getElem?_eq_some_iff.1 BX.out.1).1; have := G5.out.2.1; omega, by have := (Array.getElem?_eq_some_iff.1 BX.out.2).1; have := G5.out.2.1; omega⟩
            have GG : Hid (w.heap.size ≤ g ∧ ¬ S g ∧ g ≠ FB ∧ (Value.slice LA i lc).ownBlock ≠ some g) := Lib.hid ⟨Nat.le_trans SP.out.sh.ext.size G5.out.2.1, fun e => by have := SP.out.sh.tk.lt g e; have := G5.out.2.1; omega, fun e => by have := SP.out.sh.mp.lt; have := G5.out.2.1; omega, fun e => by have := (SP.out.sh.lb g e).2.2; have := G5.out.2.1; omega⟩
            have z2 : wz.cell? ⟨pm, 2, none⟩ = some (.slice (some ⟨g, 0, none⟩) 64 pc) := by rw [cell_of_row _ _ _ _ _ (0, 0) BM.out.1]; rfl
            have zl : pm < wz.heap.size := (Array.getElem?_eq_some_iff.1 BM.out.1).1
            clear n0 n1 n2 n3 n4 n5 hf hcs hgs
            try dsimp only [List.drop]
            go_wp2
            go_loopw [132] (fun t132 wr => ∃ j : Nat, j ≤ 64 ∧ t132 = .int .i64 (j : Int) ∧ Hid (Keep wz wr (fun b => b = g) ∧ ∃ cur, wr.heap[g]? = some (.cells cur 68 (0, 0)) ∧ 64 * 4 ≤ cur.size)) (fun t132 _ => 64 - (intOf t132).toNat)
            case atStart => exact ⟨0, by omega, rfl, Lib.hid ⟨Keep.refl _ _, GR.out⟩⟩
            case round =>
              obtain ⟨j, hj, rfl, ZI⟩ := hrel
              have hbm : wr.heap[pm]? = some (.cells #[.int .i64 8, .int .i64 8, .slice (some ⟨g, 0, none⟩) 64 pc] 47 (0, 0)) := by rw [ZI.out.1.block pm (Array.getElem?_eq_some_iff.1 BM.out.1).1 BM.out.2]; exact BM.out.1
              have v2 : wr.cell? ⟨pm, 2, none⟩ = some (.slice (some ⟨g, 0, none⟩) 64 pc) := by rw [cell_of_row _ _ _ _ _ (0, 0) hbm]; rfl
              have hpml : pm < wr.heap.size := (Array.getElem?_eq_some_iff.1 hbm).1
              obtain ⟨cur, hcur, hcs⟩ := ZI.out.2
              have hgl : g < wr.heap.size := (Array.getElem?_eq_some_iff.1 hcur).1
              by_cases hjl : j < 64
              · have hjl' : (j : Int) < 64 := by omega
                obtain ⟨q0, q1, q2, q3, e0, e1, e2, e3⟩ := row4 hcur hcs hjl
                obtain ⟨cur', hcur', hcs', hK'⟩ := set4 hcur hcs j (.int .u8 0)
                have fz : ∀ k, wr.frozen? ⟨g, k, none⟩ = false := fun k => by simp [World.frozen?, hcur]
                have ZN : Hid (Keep wz ((((wr.setCell ⟨g, j * 4, none⟩ (.int .u8 0)).setCell ⟨g, j * 4 + 1, none⟩ (.int .u8 0)).setCell ⟨g, j * 4 + 2, none⟩ (.int .u8 0)).setCell ⟨g, j * 4 + 3, none⟩ (.int .u8 0)) (fun b => b = g) ∧ ∃ cur, ((((wr.setCell ⟨g, j * 4, none⟩ (.int .u8 0)).setCell ⟨g, j * 4 + 1, none⟩ (.int .u8 0)).setCell ⟨g, j * 4 + 2, none⟩ (.int .u8 0)).setCell ⟨g, j * 4 + 3, none⟩ (.int .u8 0)).heap[g]? = some (.cells cur 68 (0, 0)) ∧ 64 * 4 ≤ cur.size) := Lib.hid ⟨ZI.out.1.trans hK' (fun _ _ x => x), cur', hcur', hcs'⟩
                clear hcur hcs hcur' hcs' hK' hbm
                go_wp2
                go_roundw
                case rel => exact ⟨j + 1, by omega, by go_num, ZN⟩
                case measure => simp [intOf]; omega
              · have hjl' : ¬ (j : Int) < 64 := by omega
                have SZ := Lib.hid (SQ.out.own ZI.out.1 GG.out.1 GG.out.2.1 GG.out.2.2.1 GG.out.2.2.2)
                have bx0 : wr.heap[p0]? = some (.cells #[.int .i64 2, .int .i64 x, .int .i64 y, .int .u8 (fill : Int), .bool wide, .int .i64 b0, .int .i64 b1, .int .i64 b2, .int .i64 b3] 61 (0, 0)) := by rw [ZI.out.1.block p0 (Array.getElem?_eq_some_iff.1 BZ.out.1).1 BZ.out.2.2.1]; exact BZ.out.1
                have bx1 : wr.heap[p1]? = some (.cells #[.int .i64 x, .int .i64 y] 28 (0, 0)) := by rw [ZI.out.1.block p1 (Array.getElem?_eq_some_iff.1 BZ.out.2.1).1 BZ.out.2.2.2]; exact BZ.out.2.1
                have u0 : wr.cell? ⟨p1, 0, none⟩ = some (.int .i64 x) := by rw [cell_of_row _ _ _ _ _ (0, 0) bx1]; rfl
                have u1 : wr.cell? ⟨p1, 1, none⟩ = some (.int .i64 y) := by rw [cell_of_row _ _ _ _ _ (0, 0) bx1]; rfl
                have u3 : wr.cell? ⟨p0, 3, none⟩ = some (.int .u8 (fill : Int)) := by rw [cell_of_row _ _ _ _ _ (0, 0) bx0]; rfl
                have u4 : wr.cell? ⟨p0, 4, none⟩ = some (.bool wide) := by rw [cell_of_row _ _ _ _ _ (0, 0) bx0]; rfl
                have u5 : p1 < wr.heap.size := (Array.getElem?_eq_some_iff.1 bx1).1
                have u6 : p0 < wr.heap.size := (Array.getElem?_eq_some_iff.1 bx0).1
                clear hbm bx0 bx1 v2 hpml hcur hcs hgl
                go_wp2
                exact bodyPost_ret (v := .tuple #[.slice LA i lc, .bool true]) (by simp [results, Try.results27, go_sem]) rfl ⟨m, S, LA, i, lc, fl, rfl, ⟨SZ.out, H.out.fill⟩, by omega⟩
      by_cases k3 : kind = 3
      · subst k3
        have OE := Lib.hid (ownK_empty (T := 28) (Ext.refl wr))
        have E0 := Lib.hid ((Ext.refl wr).alloc (.cells #[] 28))
        have Y0 := Lib.hid (SP.out.sh.ls.ext E0.out)
        have Z0 : Hid (([] : List KK).length + m.keys.length ≤ 1000000) := Lib.hid (by rw [HLN.out]; simp; omega)
        go_wp2_with (at_builtin; refine wpList_kys kyR rfl (.tmp 145) (.tmp 146) rfl rfl rfl OE.out Y0.out Z0.out E0.out.size ?_)
        intro v9 w9 hO9 hg9 hown9
        obtain ⟨A9, c9, rfl⟩ := own_slice hO9.1
        rw [HLN.out] at hO9 ⊢
        have E9 : Ext wr w9 := E0.out.grown hg9 OE.out.row
        have O9 := Lib.hid hO9
        have S9 := Lib.hid (SP.out.grow E9)
        have B9 := Lib.hid (And.intro (E9.heapAt BX.out.1) (E9.heapAt BX.out.2))
        have MT0 : Hid (m.part (b0, b1, b2, b3) 0 = m) := Lib.hid (part_zero m _)
        have NDK := Lib.hid (SP.out.sh.tk.nodup)
        clear hO9 hg9 hown9 E9 o0 o1 o2 o3 o4
        go_wp2
        go_loopw [1, 149] (fun t1 t149 wr => ∃ (j : Nat) (A : Option Addr) (n c : Nat), j ≤ i ∧ t149 = .int .i64 (j : Int) ∧ t1 = .slice A n c ∧ Hid (Ext w9 wr ∧ PSh w wr most cc m S (.slice A n c) (m.part (b0, b1, b2, b3) j).keys FB fl)) (fun _ t149 _ => i - (intOf t149).toNat)
        case atStart => exact ⟨0, LA, i, lc, by omega, rfl, rfl, Lib.hid ⟨Ext.refl _, by rw [MT0.out]; exact S9.out.sh⟩⟩
        case round =>
          obtain ⟨j, A, n, c, hj, rfl, rfl, ST⟩ := hrel
          have hbx := ST.out.1.heapAt B9.out.1
          have hp0l : p0 < wr.heap.size := (Array.getElem?_eq_some_iff.1 hbx).1
          by_cases hlt2 : j < i
          · have hlt2' : (j : Int) < (i : Int) := by omega
            obtain ⟨bk, off, u, v, rfl, hbs, hp, hin, c0, c1⟩ := ((O9.out.ext ST.out.1).kys).at (i := j) hlt2
            have hm' : (u, v) ∈ m.keys := by
              rw [← hp, List.getD_eq_getElem?_getD, List.getElem?_eq_getElem (by rw [HLN.out]; exact hlt2)]
              exact List.getElem_mem _
            obtain ⟨t, ht, htk⟩ := List.mem_map.1 hm'
            have hR := H.out.sh.ok.rt t ht
            rw [htk] at hR
            have PS := part_step m (b0, b1, b2, b3) j NDK.out (by have := HLN.out; rw [keys_len] at this; omega)
            rw [hp] at PS
            have PSH := Lib.hid PS
            have CM := Lib.hid (fun wx => meets_any u v b0 b1 b2 b3 wx (by unfold rightK at hR; simp only [decide_eq_true_eq] at hR; omega) (by unfold rightK at hR; simp only [decide_eq_true_eq] at hR; omega))
            rw [← meets_same (u, v) (b0, b1, b2, b3) hR] at CM
            have o5 : wr.cell? ⟨p0, 5, none⟩ = some (.int .i64 b0) := by rw [cell_of_row _ _ _ _ _ (0, 0) hbx]; rfl
            have o6 : wr.cell? ⟨p0, 6, none⟩ = some (.int .i64 b1) := by rw [cell_of_row _ _ _ _ _ (0, 0) hbx]; rfl
            have o7 : wr.cell? ⟨p0, 7, none⟩ = some (.int .i64 b2) := by rw [cell_of_row _ _ _ _ _ (0, 0) hbx]; rfl
            have o8 : wr.cell? ⟨p0, 8, none⟩ = some (.int .i64 b3) := by rw [cell_of_row _ _ _ _ _ (0, 0) hbx]; rfl
            cases hme : meetsK (u, v) (b0, b1, b2, b3) with
            | false =>
              rw [hme] at CM
              have HME := Lib.hid hme
              clear hp hin hm' ht htk hR PS hme hbx
              go_wp2_with fail
              refine (CM.out _).mono ?_
              rintro e w3 ⟨rfl, g3, rfl⟩
              go_wp2
              go_roundw
              case rel =>
                obtain ⟨q1, q2⟩ := PSH.out.2 HME.out
                exact ⟨j + 1, A, n, c, by omega, by go_num, rfl, Lib.hid ⟨(ST.out.1.alloc _).ext g3, by rw [← q1]; exact ST.out.2.grow (((Ext.refl _).alloc _).ext g3)⟩⟩
              case measure => simp [intOf]; omega
            | true =>
              rw [hme] at CM
              have HME := Lib.hid hme
              have hpl : (m.part (b0, b1, b2, b3) j).keys.length ≤ 10000 := by
                have h1 : (m.part (b0, b1, b2, b3) j).l.length ≤ m.l.length := by
                  unfold TM.part
                  simp only [List.length_append, List.length_drop]
                  have := List.length_filter_le (fun t => !meetsK t.1 (b0, b1, b2, b3)) (m.l.take j)
                  rw [List.length_take] at this
                  omega
                rw [keys_len]; omega
              have WO := Lib.hid (fun wx (hx : Ext wr wx) => without_any (.slice A n c) (m.part (b0, b1, b2, b3) j).keys u v wx (ST.out.2.ls.ext hx) hpl)
              clear hp hin hm' ht htk hR PS hme hbx hpl
              go_wp2_with fail
              refine (CM.out _).mono ?_
              rintro e w3 ⟨rfl, g3, rfl⟩
              go_wp2_with fail
              refine (WO.out _ (((Ext.refl _).alloc _).ext g3)).mono ?_
              rintro e w4 ⟨v4, rfl, hO4, hE4⟩
              obtain ⟨A4, c4, rfl⟩ := own_slice hO4.1
              obtain ⟨n4, hn4⟩ : ∃ n4, (dropK (m.part (b0, b1, b2, b3) j).keys (u, v)).length = n4 := ⟨_, rfl⟩
              rw [hn4] at hO4 ⊢
              have EW : Ext wr w4 := (((Ext.refl _).alloc _).ext g3).trans hE4
              have R4 : Hid (Ext w9 w4 ∧ PSh w w4 most cc m S (.slice A4 n4 c4) (m.part (b0, b1, b2, b3) (j + 1)).keys FB fl) := Lib.hid ⟨ST.out.1.trans EW, (ST.out.2.grow EW).list (by
                  obtain ⟨q1, q2⟩ := PSH.out.1 HME.out
                  rw [← q1, TM.keys_gone]; exact hO4.kys) (fun b hb => by
                  have h1 := hO4.1.lt b hb
                  have h2 : wr.heap.size < b + 1 := by simp at h1; omega
                  exact ⟨fun e => by have := ST.out.2.tk.lt b e; omega, fun e => by have := ST.out.2.mp.lt; omega, h1.2⟩)⟩
              clear hO4 hE4 hn4 EW o5 o6 o7 o8 c0 c1
              go_wp2
              go_roundw
              case rel => exact ⟨j + 1, A4, n4, c4, by omega, by go_num, rfl, R4⟩
              case measure => simp [intOf]; omega
          · have hlt2' : ¬ (j : Int) < (i : Int) := by omega
            obtain rfl : j = i := by omega
            have o5 : wr.cell? ⟨p0, 5, none⟩ = some (.int .i64 b0) := by rw [cell_of_row _ _ _ _ _ (0, 0) hbx]; rfl
            have o6 : wr.cell? ⟨p0, 6, none⟩ = some (.int .i64 b1) := by rw [cell_of_row _ _ _ _ _ (0, 0) hbx]; rfl
            have o7 : wr.cell? ⟨p0, 7, none⟩ = some (.int .i64 b2) := by rw [cell_of_row _ _ _ _ _ (0, 0) hbx]; rfl
            have o8 : wr.cell? ⟨p0, 8, none⟩ = some (.int .i64 b3) := by rw [cell_of_row _ _ _ _ _ (0, 0) hbx]; rfl
            have hpe : m.part (b0, b1, b2, b3) j = m.dropB (b0, b1, b2, b3) := by
              have := HLN.out
              rw [keys_len] at this
              rw [← this]; exact part_end m _
            have SN : PSh w wr most cc m S (.slice A n c) (m.dropB (b0, b1, b2, b3)).keys FB fl := by have := ST.out.2; rw [hpe] at this; exact this
            have hn : (m.dropB (b0, b1, b2, b3)).l.length = n := by rw [← keys_len]; exact SN.ls.len.symm
            have DR := drop_any cc m S b0 b1 b2 b3 wr SN.tk SN.ok
            have hnj : n ≤ j := by
              have h1 := List.length_filter_le (fun t => !meetsK t.1 (b0, b1, b2, b3)) m.l
              have h2 := HLN.out
              rw [keys_len] at h2
              have h3 : (m.dropB (b0, b1, b2, b3)).l.length ≤ m.l.length := h1
              omega
            rw [hn, ← keys_len m, HLN.out] at DR
            have G := Lib.hid DR
            have SN' := Lib.hid SN
            clear DR hpe hn SN hbx
            go_wp2_with fail
            refine G.out.mono ?_
            rintro e w5 ⟨rfl, hT, hK⟩
            have FF : Hid (SPost w most cc FB (fl.length + 1) (.returned (.tuple #[.slice A n c, .bool true])) w5) := Lib.hid
              ⟨m.dropB (b0, b1, b2, b3), S, A, n, c, fl, rfl, ⟨SN'.out.turn hT (H.out.sh.ok.drop _) H.out.sh.mo (fun _ x => .inl x) hK, fun t ht => H.out.fill t (List.mem_filter.1 ht).1⟩, by omega⟩
            clear hT hK o5 o6 o7 o8
            go_wp2
            exact bodyPost_ret (v := .tuple #[.slice A n c, .bool true]) (by simp [results, Try.results27, go_sem]) rfl FF.out
      by_cases k4 : kind = 4
      · subst k4
        have FIN : Hid (∀ w', TK w' cc { m with l := [] } S → Keep wr w' S → SPost w most cc FB (fl.length + 1) (.returned (.tuple #[.slice none 0 0, .bool true])) w') := Lib.hid (fun w' h1 h2 =>
          ⟨{ m with l := [] }, S, none, 0, 0, fl, rfl, ⟨(SP.out.sh.turn h1 ⟨by simp, by simp, by simp, H.out.sh.ok.mo⟩ H.out.sh.mo (fun _ x => .inl x) h2).list (Kys.nil _) (fun b hb => by simp [Value.ownBlock] at hb), fun t ht => by simp at ht⟩, by omega⟩)
        go_wp2_with fail
        refine (clear_any cc m S wr SP.out.sh.tk).mono ?_
        rintro e w5 ⟨rfl, hT, hK⟩
        have FF := Lib.hid (FIN.out w5 hT hK)
        clear hT hK
        go_wp2
        exact bodyPost_ret (v := .tuple #[.slice none 0 0, .bool true]) (by simp [results, Try.results27, go_sem]) rfl FF.out
      have k1' : (kind == 1) = false := by simpa using k1
      have k2' : (kind == 2) = false := by simpa using k2
      have k3' : (kind == 3) = false := by simpa using k3
      have k4' : (kind == 4) = false := by simpa using k4
      go_wp2
      exact bodyPost_ret (v := .tuple #[.slice LA i lc, .bool true]) (by simp [results, Try.results27, go_sem]) rfl ⟨m, S, LA, i, lc, fl, rfl, SP.out, by omega⟩

end Go.Proofs.Ytblfplkocljlgaa
