import Derived.Test.YtncphiphgkjflaaIParse
namespace Go.Proofs.Ytncphiphgkjflaa
open Go.RowKit Go.Shelf
set_option linter.unusedVariables false
set_option linter.unusedSimpArgs false

theorem wpList_copyR {P : Program} {w : World} {ops : Array Oper} {rest : List Oper} {o : Oper} {a : Act} {Q : Exit → Act → World → Prop} (hgd : o.guard = none) (d s : Operand) (t t' : TypeId)
    (ho : o.op = .call { callee := .builtin .copy, args := #[d, s], argTypes := #[t, t'] }) (v u : Value) (hd : a.eval d = v) (hs : a.eval s = u) {v' : Value} {w' : World}
    (hr : (Builtin.copy_ #[t, t'] o.type #[v, u]).run P w = .ok v' w') (h : wpList P ops Q rest (a.put o.dst v') w') : wpList P ops Q (o :: rest) a w := by
  refine wpList_plain hgd fun _ hK => ?_
  unfold Oper.wp execOp
  simp only [ho, resolve, invoke, builtin, Sem.run_bind, Sem.run_pure, Result.andThen_ok, List.map_toArray, List.map_cons, List.map_nil, hd, hs, hr]
  exact hK _ _ h

theorem infoU1 : (Try.prog.info? 5).map (·.size) = some 1 := by kernel_rfl

/-- four bytes are copied into a colour's own block -/
theorem copy_four (w : World) (C B o cx : Nat) (c0 c1 c2 c3 : Value) (r g u a : Nat) (hC : w.heap[C]? = some (.cells #[c0, c1, c2, c3] 40 (0, 0)))
    (d0 : w.cell? ⟨B, o, none⟩ = some (.int .u8 (r : Int))) (d1 : w.cell? ⟨B, o + 1, none⟩ = some (.int .u8 (g : Int))) (d2 : w.cell? ⟨B, o + 2, none⟩ = some (.int .u8 (u : Int))) (d3 : w.cell? ⟨B, o + 3, none⟩ = some (.int .u8 (a : Int))) :
    ∃ w', (∀ ty, (Builtin.copy_ #[59, 59] ty #[.slice (some ⟨C, 0, none⟩) 4 4, .slice (some ⟨B, o, none⟩) 4 cx]).run Try.prog w = .ok (goInt 4) w') ∧
      w'.heap[C]? = some (.cells #[.int .u8 (r : Int), .int .u8 (g : Int), .int .u8 (u : Int), .int .u8 (a : Int)] 40 (0, 0)) ∧ Keep w w' (fun k => k = C) := by
  refine ⟨_, fun ty => run_copy_row (P := Try.prog) w 59 59 ty 5 C 0 4 4 ⟨B, o, none⟩ 4 cx _ _ [.int .u8 (r : Int), .int .u8 (g : Int), .int .u8 (u : Int), .int .u8 (a : Int)] Try.underlying59 infoU1 hC rfl ?_ (by simp) ?_, setRow_heap _ _ _ _ _ _ hC, Keep.setRow⟩
  · intro j v hj
    have hj4 : j < 4 := by have := (List.getElem?_eq_some_iff.1 hj).1; simpa using this
    rw [show (⟨B, o, none⟩ : Addr).add j = ⟨B, o + j, none⟩ by unfold Addr.add; split <;> simp_all]
    match j, hj4 with
    | 0, _ => rw [Nat.add_zero, d0]; simpa using hj
    | 1, _ => rw [d1]; simpa using hj
    | 2, _ => rw [d2]; simpa using hj
    | 3, _ => rw [d3]; simpa using hj
  · intro v hv
    simp only [List.mem_cons, List.not_mem_nil, or_false] at hv
    rcases hv with rfl | rfl | rfl | rfl <;> rfl

/-- bytes at their places -/
theorem Bytes.at {w : World} {A : Option Addr} {n c : Nat} {l : List Nat} (h : Bytes w (.slice A n c) l) (hn : 0 < n) : ∃ b off, A = some ⟨b, off, none⟩ ∧ b < w.heap.size ∧ ∀ i, i < n → w.cell? ⟨b, off + i, none⟩ = some (.int .u8 ((l.getD i 0 : Nat) : Int)) := by
  have hN := h.len
  obtain ⟨A', cap, e, h2, h3, h4, h5, h6⟩ := h
  simp only [Value.slice.injEq] at e
  obtain ⟨rfl, _, rfl⟩ := e
  obtain ⟨b, off, e1, e2, e3⟩ := h6 (by omega)
  exact ⟨b, off, e1, e2, fun i hi => e3 i (by omega)⟩

set_option maxRecDepth 100000 in
set_option maxHeartbeats 12800000 in
theorem parse_loop (v : Value) (bs : List Nat) (k : Nat) (w : World) (hb : Bytes w v bs) (hk : bs.length = 2 + 5 * k) (hk9 : k ≤ 400) :
    Calls Try.prog 27 #[v] w (ParseOk bs w) := by
  have BB := Lib.hid hb
  obtain ⟨X, c, rfl, h2, h3, h4, h5, h6⟩ := hb
  obtain ⟨n, hn⟩ : ∃ n, bs.length = n := ⟨_, rfl⟩
  rw [hn] at h2 hk BB
  rw [hn]
  obtain ⟨B, off, rfl, hB, hcells⟩ := BB.out.at (by omega)
  have a0 := hcells 0 (by omega)
  have a1 := hcells 1 (by omega)
  simp only [Nat.add_zero] at a0
  have hb0 := h5 0
  have hb1 := h5 1
  obtain ⟨x0, hx0⟩ : ∃ x, bs.getD 0 0 = x := ⟨_, rfl⟩
  obtain ⟨x1, hx1⟩ : ∃ x, bs.getD 1 0 = x := ⟨_, rfl⟩
  rw [hx0] at a0 hb0
  rw [hx1] at a1 hb1
  obtain ⟨M, hM⟩ : ∃ M, (x0 + 1) * (x1 + 1) = M := ⟨_, rfl⟩
  have hM1 : M ≤ 65536 := by rw [← hM]; exact Nat.mul_le_mul (show x0 + 1 ≤ 256 by omega) (show x1 + 1 ≤ 256 by omega)
  have hM2 : ((x0 : Int) + 1) * ((x1 : Int) + 1) = (M : Int) := by rw [← hM]; simp
  obtain ⟨R, hR⟩ : ∃ R, parseL M k [] (bs.drop 2) = R := ⟨_, rfl⟩
  have HF : Hid (parseF bs = judgeF (x0 + 1) (x1 + 1) bs R) := Lib.hid (by
    unfold parseF
    rw [if_neg (by omega), hx0, hx1, hM, show (bs.length - 2) / 5 = k by omega, hR])
  have HR := Lib.hid hR
  have B2 : Hid (∃ o2 c2, (if c = 2 then (Value.slice (some ⟨B, off, none⟩) (n - 2) 0) else .slice (some ⟨B, off + 2, none⟩) (n - 2) (c - 2)) = .slice (some ⟨B, o2, none⟩) (5 * k) c2 ∧ Bytes w (.slice (some ⟨B, o2, none⟩) (5 * k) c2) (bs.drop 2)) := Lib.hid (by
    obtain ⟨p1, p2⟩ := BB.out.drop 2 (by omega)
    by_cases hc : c = 2
    · exact ⟨off, 0, by rw [if_pos hc]; congr 1; omega, by have := p2 hc; rwa [show n - 2 = 5 * k by omega] at this⟩
    · exact ⟨off + 2, c - 2, by rw [if_neg hc]; congr 1; omega, by rwa [show n - 2 = 5 * k by omega] at p1⟩)
  have hlt : ¬ (n : Int) < 2 := by omega
  have hr1 : ((n : Int) - 2).tmod 5 = 0 := by rw [Int.tmod_eq_emod_of_nonneg (by omega)]; omega
  have hr2 : ((n : Int) - 2) % 5 = 0 := by omega
  have HK := Lib.hid hk
  have hn2 : 2 ≤ n := by omega
  clear hcells hx0 hx1 hR h4 h5 h6 hM hk
  go_enter Try.func27, Try.ntmps27
  go_wp2
  obtain ⟨wq, hwq⟩ : ∃ wq, w.alloc (.cells #[.int .i64 0, .int .i64 0, .slice none 0 0] 24) = wq := ⟨_, rfl⟩
  obtain ⟨q, hq⟩ : ∃ q, w.heap.size = q := ⟨_, rfl⟩
  have EQ : Hid (Ext w wq) := Lib.hid (by rw [← hwq]; exact (Ext.refl w).alloc _)
  have r0 : wq.cell? ⟨q, 0, none⟩ = some (.int .i64 0) := by rw [← hwq, ← hq]; simp [go_sem]
  have r1 : wq.cell? ⟨q, 1, none⟩ = some (.int .i64 0) := by rw [← hwq, ← hq]; simp [go_sem]
  have r2 : wq.cell? ⟨q, 2, none⟩ = some (.slice none 0 0) := by rw [← hwq, ← hq]; simp [go_sem]
  have rf : ∀ j, wq.frozen? ⟨q, j, none⟩ = false := fun j => by rw [← hwq, ← hq]; simp [go_sem]
  have hz : q < wq.heap.size := by rw [← hwq, ← hq]; simp
  rw [hwq, hq]
  have HQ := Lib.hid hq
  have HZ := Lib.hid hz
  clear hwq hq
  have FC : Hid (∀ wr, Ext wq wr → q < wr.heap.size ∧ wr.cell? ⟨q, 0, none⟩ = some (.int .i64 0) ∧ wr.cell? ⟨q, 1, none⟩ = some (.int .i64 0) ∧ wr.cell? ⟨q, 2, none⟩ = some (.slice none 0 0) ∧ ∀ j, wr.frozen? ⟨q, j, none⟩ = false) := Lib.hid (fun wr hk =>
    ⟨Nat.lt_of_lt_of_le hz hk.size, (hk.cell hz).trans r0, (hk.cell hz).trans r1, (hk.cell hz).trans r2, fun j => (hk.frozen hz).trans (rf j)⟩)
  have k0 : ∀ g, (wq.ext g).cell? ⟨B, off, none⟩ = some (.int .u8 (x0 : Int)) := fun g => ((EQ.out.ext g).cell hB).trans a0
  have k1 : ∀ g, (wq.ext g).cell? ⟨B, off + 1, none⟩ = some (.int .u8 (x1 : Int)) := fun g => ((EQ.out.ext g).cell hB).trans a1
  clear r0 r1 r2 rf hz a0 a1
  refine region_flow 12 [4] (fun t v => match t with | 4 => ∃ g, v = .pointer (some ⟨g, 0, none⟩) | _ => False) (fun t v w' => match t with | 4 => ∃ g, v = .pointer (some ⟨g, 0, none⟩) ∧ wq.heap.size ≤ g ∧ g < w'.heap.size ∧ w'.cell? ⟨g, 0, none⟩ = some (.int .i64 0) ∧ w'.cell? ⟨g, 1, none⟩ = some (.int .i64 0) ∧ w'.cell? ⟨g, 2, none⟩ = some (.slice none 0 0) ∧ ∀ j, w'.frozen? ⟨g, j, none⟩ = false | _ => True) (by kernel_rfl) (by kernel_rfl) ?hq ?hu ?hR ?h
  case hq => intro t v h; split at h <;> simp_all
  case hu => intro t h; split at h <;> simp_all [undef]
  case hR =>
    intro t v w w' h1 h2 h3
    split at h1
    · obtain ⟨g, e, z0, z1, z2, z3, z4, z5⟩ := h2
      exact ⟨g, e, z0, Nat.lt_of_lt_of_le z1 h3.size, (h3.cell z1).trans z2, (h3.cell z1).trans z3, (h3.cell z1).trans z4, fun j => (h3.frozen z1).trans (z5 j)⟩
    · trivial
  case h =>
  dsimp only [List.take, List.drop]
  repeat (first | (refine Flow.skip rfl ?_; simp only [Act.put, List.setIfInBounds_toArray, List.set_cons_zero, List.set_cons_succ]) | (refine Flow.plain rfl rfl ?_; go_big_quiet_step (fail); refine wpQuiet_nil ?_))
  refine Flow.make 4 rfl rfl rfl ⟨.pointer (some ⟨0, 0, none⟩), 0, rfl⟩ (fun wx hx hf => ⟨.pointer (some ⟨wx.heap.size, 0, none⟩), wx.alloc (.cells #[.int .i64 0, .int .i64 0, .slice none 0 0] 24), by kernel_rfl, (Ext.refl wx).alloc _, ⟨_, rfl⟩, ⟨_, rfl, hx.size, by simp, by simp [go_sem], by simp [go_sem], by simp [go_sem], fun j => by simp [go_sem]⟩⟩) ?_
  rintro _ ⟨G, rfl⟩
  simp only [Act.put, List.setIfInBounds_toArray, List.set_cons_zero, List.set_cons_succ]
  refine Flow.nil fun w3 hx3 hf => ?_
  have E3 := Lib.hid (hx3)
  obtain ⟨g6, e6, gz, gl, g0, g1, g2, gf⟩ := hf 4 (by simp) ⟨G, rfl⟩
  have e7 : (Value.pointer (some ⟨G, 0, none⟩)) = .pointer (some ⟨g6, 0, none⟩) := e6
  simp only [Value.pointer.injEq, Option.some.injEq, Addr.mk.injEq, and_true] at e7
  subst e7
  clear hf hx3 k0 k1 e6
  obtain ⟨o2, c2, e2, hB2⟩ := B2.out
  have BH := Lib.hid hB2
  clear hB2
  have CS : Hid (CropSt wq (((w3.setCell ⟨G, 0, none⟩ (.int .i64 ((x0 : Int) + 1))).setCell ⟨G, 1, none⟩ (.int .i64 ((x1 : Int) + 1))).setCell ⟨G, 2, none⟩ (.slice none 0 0)) G ((x0 : Int) + 1) ((x1 : Int) + 1) (.slice none 0 0) []) := Lib.hid
    ⟨((E3.out.setCell gz _).setCell gz _).setCell gz _, by simp [World.setCell]; exact gl, OwnP.nil _ _ _ _, by simp [go_sem, g0, g1, g2, gf], by simp [go_sem, g0, g1, g2, gf], by simp [go_sem, g0, g1, g2, gf], by simp [go_sem, gf]⟩
  have GZ := Lib.hid gz
  by_cases hc2 : c = 2
  · subst hc2
    rw [if_pos rfl] at e2
    have HK0 : Hid (k = 0) := Lib.hid (by have := HK.out; omega)
    simp only [Value.slice.injEq, Option.some.injEq, Addr.mk.injEq, and_true, true_and] at e2
    obtain ⟨rfl, e3, rfl⟩ := e2
    clear e3
    go_wp2
    clear g0 g1 g2 gf hn2 hlt hr1 hr2 h2 gz gl E3
    go_loopw [5] (fun t5 wr => ∃ (k' o cx : Nat) (A : Option Addr) (m cc : Nat) (acc : List Px) (rest : List Nat), k' ≤ k ∧ 5 * k' ≤ cx ∧ cx ≤ 9223372036854775807 ∧ t5 = .slice (some ⟨B, o, none⟩) (5 * k') cx ∧ m ≤ 65792 ∧ Hid (Bytes w (.slice (some ⟨B, o, none⟩) (5 * k') cx) rest ∧ parseL M k' acc rest = R ∧ CropSt wq wr G ((x0 : Int) + 1) ((x1 : Int) + 1) (.slice A m cc) acc)) (fun t5 _ => match t5 with | .slice _ n _ => n | _ => 0)
    case atStart => exact ⟨k, off, 0, none, 0, 0, [], bs.drop 2, by omega, by obtain ⟨_, _, e, h, h', _⟩ := BH.out; simp only [Value.slice.injEq] at e; obtain ⟨_, e1, rfl⟩ := e; omega, by obtain ⟨_, _, e, h, h', _⟩ := BH.out; simp only [Value.slice.injEq] at e; obtain ⟨_, e1, rfl⟩ := e; omega, by rw [HK0.out], by omega, Lib.hid ⟨BH.out, HR.out, CS.out⟩⟩
    case round =>
      obtain ⟨k', o, cx, A, m, cc, acc, rest, hk1, hcx1, hcx2, rfl, hm, ST⟩ := hrel
      obtain ⟨L, hL⟩ : ∃ L, 5 * k' = L := ⟨_, rfl⟩
      rw [hL] at hcx1 ST
      rw [hL]
      have HLk := Lib.hid hL
      have hLk : k' = L / 5 ∧ L % 5 = 0 := by omega
      clear hL
      have s2 := ST.out.2.2.2.1
      have s4 := ST.out.2.2.2.2.2.1
      have s5 := ST.out.2.2.2.2.2.2.1
      have s6 := ST.out.2.2.2.2.2.2.2.1
      have s7 := ST.out.2.2.2.2.2.2.2.2
      have HMl : Hid (acc.length = m) := Lib.hid ST.out.2.2.2.2.1.pix.len.symm
      by_cases hpos : 0 < L
      · have hpos' : (0 : Int) < (L : Int) := by omega
        by_cases hen : M ≤ m
        · have hen' : (M : Int) ≤ (m : Int) := by omega
          obtain ⟨qz, r0, r1, r2, rf⟩ := FC.out _ ST.out.2.2.1
          have HN : Hid (R = none) := Lib.hid (by
            rw [← ST.out.2.1]
            obtain ⟨j, rfl⟩ : ∃ j, k' = j + 1 := ⟨k' - 1, by omega⟩
            unfold parseL
            rw [if_pos (by rw [HMl.out]; exact hen)])
          clear hLk
          go_wp2
          refine bodyPost_ret (v := noImg) (by simp [results, Try.results27, go_sem, noImg, r0, r1, r2, rf]) rfl ⟨?_, ?_⟩
          · have hq : w.heap.size ≤ q := Nat.le_of_eq HQ.out
            exact ((((EQ.out.trans ST.out.2.2.1).setCell hq _).setCell hq _).setCell hq _)
          · rw [HF.out, HN.out]; rfl
        · have hen' : ¬ (M : Int) ≤ (m : Int) := by omega
          have hL5 : 5 ≤ L := by omega
          obtain ⟨B', o', e9, _, hcl⟩ := ST.out.1.at hpos
          simp only [Option.some.injEq, Addr.mk.injEq, and_true] at e9
          obtain ⟨rfl, rfl⟩ := e9
          have b0 := hcl 0 (by omega)
          have b1 := hcl 1 (by omega)
          have b2 := hcl 2 (by omega)
          have b3 := hcl 3 (by omega)
          have b4 := hcl 4 (by omega)
          have hbt : ∀ i, rest.getD i 0 < 256 := by obtain ⟨_, _, _, _, _, _, h, _⟩ := ST.out.1; exact h
          obtain ⟨y0, hy0⟩ : ∃ x, rest.getD 0 0 = x := ⟨_, rfl⟩
          obtain ⟨y1, hy1⟩ : ∃ x, rest.getD 1 0 = x := ⟨_, rfl⟩
          obtain ⟨y2, hy2⟩ : ∃ x, rest.getD 2 0 = x := ⟨_, rfl⟩
          obtain ⟨y3, hy3⟩ : ∃ x, rest.getD 3 0 = x := ⟨_, rfl⟩
          obtain ⟨y4, hy4⟩ : ∃ x, rest.getD 4 0 = x := ⟨_, rfl⟩
          have hb0' : y0 < 256 := by rw [← hy0]; exact hbt 0
          have hb1' : y1 < 256 := by rw [← hy1]; exact hbt 1
          have hb2' : y2 < 256 := by rw [← hy2]; exact hbt 2
          have hb3' : y3 < 256 := by rw [← hy3]; exact hbt 3
          have hb4' : y4 < 256 := by rw [← hy4]; exact hbt 4
          rw [hy0] at b0
          rw [hy1] at b1
          rw [hy2] at b2
          rw [hy3] at b3
          rw [hy4] at b4
          simp only [Nat.add_zero] at b0
          have HYY : Hid (rest.getD 0 0 = y0 ∧ pxOf rest = (y1, y2, y3, y4)) := Lib.hid ⟨hy0, by unfold pxOf; rw [hy1, hy2, hy3, hy4]⟩
          have hcx5 : ¬ cx = 1 := by omega
          have hcx6 : 5 ≤ cx := by omega
          clear hcl hbt hy0 hy1 hy2 hy3 hy4 hLk
          go_wp2
          obtain ⟨wc, hwc⟩ : ∃ wc, wr.alloc (.cells #[.int .u8 0, .int .u8 0, .int .u8 0, .int .u8 0] 40) = wc := ⟨_, rfl⟩
          obtain ⟨C, hC⟩ : ∃ C, wr.heap.size = C := ⟨_, rfl⟩
          have hCb : wc.heap[C]? = some (.cells #[.int .u8 0, .int .u8 0, .int .u8 0, .int .u8 0] 40 (0, 0)) := by rw [← hwc, ← hC]; exact heap_alloc_new wr _
          have EC := Lib.hid (show Ext wr wc by rw [← hwc]; exact (Ext.refl wr).alloc _)
          have ECC : Hid (Ext w wc) := Lib.hid ((EQ.out.trans ST.out.2.2.1).trans EC.out)
          rw [hwc, hC]
          have HC := Lib.hid hC
          clear hwc hC s2 s4 s5 s6 s7
          refine region_flow 3 [] (fun t v => False) (fun t v w' => True) (by kernel_rfl) (by kernel_rfl) (fun t v h => h.elim) (fun t h => h) (fun _ _ _ _ h => h.elim) ?_
          dsimp only [List.take, List.drop]
          repeat (first | (refine Flow.skip rfl ?_; simp only [Act.put, List.setIfInBounds_toArray, List.set_cons_zero, List.set_cons_succ]) | (refine Flow.plain rfl rfl ?_; go_big_quiet_step (fail); refine wpQuiet_nil ?_))
          refine Flow.nil fun w4 hx4 hf => ?_
          clear hf
          have d0 := ((ECC.out.trans hx4).cell hB).trans b0
          have d1 := ((ECC.out.trans hx4).cell hB).trans b1
          have d2 := ((ECC.out.trans hx4).cell hB).trans b2
          have d3 := ((ECC.out.trans hx4).cell hB).trans b3
          have d4 := ((ECC.out.trans hx4).cell hB).trans b4
          obtain ⟨w5, hcp, hC5, K5⟩ := copy_four w4 C B (o + 1) (cx - 1) _ _ _ _ y1 y2 y3 y4 (hx4.heapAt hCb) d1 d2 d3 d4
          have E5 := Lib.hid (K5.toExt (EC.out.trans hx4) (fun x e => by have := HC.out; omega))
          have hCl : C < w5.heap.size := (Array.getElem?_eq_some_iff.1 hC5).1
          have hBl : B < w5.heap.size := Nat.lt_of_lt_of_le hB ((EQ.out.trans ST.out.2.2.1).trans E5.out).size
          have S5 := Lib.hid (ST.out.2.2.ext E5.out)
          have hGl := S5.out.2.1
          have e0 := (((EQ.out.trans ST.out.2.2.1).trans E5.out).cell hB).trans b0
          have hyy : ∀ g, Ext w5 (w5.ext g) := fun g => ⟨g, rfl⟩
          have n0 : ∀ g, (w5.ext g).cell? ⟨C, 0, none⟩ = some (.int .u8 (y1 : Int)) := fun g => ((hyy g).cell hCl).trans (by rw [cell_of_row w5 C 0 _ _ (0, 0) hC5]; rfl)
          have n1 : ∀ g, (w5.ext g).cell? ⟨C, 1, none⟩ = some (.int .u8 (y2 : Int)) := fun g => ((hyy g).cell hCl).trans (by rw [cell_of_row w5 C 1 _ _ (0, 0) hC5]; rfl)
          have n2 : ∀ g, (w5.ext g).cell? ⟨C, 2, none⟩ = some (.int .u8 (y3 : Int)) := fun g => ((hyy g).cell hCl).trans (by rw [cell_of_row w5 C 2 _ _ (0, 0) hC5]; rfl)
          have n3 : ∀ g, (w5.ext g).cell? ⟨C, 3, none⟩ = some (.int .u8 (y4 : Int)) := fun g => ((hyy g).cell hCl).trans (by rw [cell_of_row w5 C 3 _ _ (0, 0) hC5]; rfl)
          have n4 : ∀ g, (w5.ext g).cell? ⟨B, o, none⟩ = some (.int .u8 (y0 : Int)) := fun g => ((hyy g).cell hBl).trans e0
          have n5 : ∀ g, (w5.ext g).cell? ⟨G, 2, none⟩ = some (.slice A m cc) := fun g => ((hyy g).cell hGl).trans S5.out.2.2.2.2.2.1
          have HCP := Lib.hid hcp
          clear d0 d1 d2 d3 d4 b0 b1 b2 b3 b4 hcp K5 hC5 hyy e0 hx4 hCb hGl
          refine wpList_copyR rfl _ _ 59 59 rfl (.slice (some ⟨C, 0, none⟩) 4 4) (.slice (some ⟨B, o + 1, none⟩) 4 (cx - 1)) rfl rfl (HCP.out _) ?_
          simp only [Act.put, List.setIfInBounds_toArray, List.set_cons_zero, List.set_cons_succ]
          dsimp only [wpList, Exit.then, goInt]
          have RP := Lib.hid (fun wx (x : Value) (hx : Pix .u8 wx x [(y1, y2, y3, y4)]) => repeat_any (y1, y2, y3, y4) (y0 + 1) x wx hx (by omega) (by omega))
          rw [show (((y0 + 1 : Nat)) : Int) = (y0 : Int) + 1 by omega] at RP
          go_wp2
          refine region_flow 10 [55, 61] (fun t v => match t with | 55 => ∃ g, v = .slice (some ⟨g, 0, none⟩) 1 1 | 61 => ∃ g, v = .slice (some ⟨g, 0, none⟩) (y0 + 1) (y0 + 1) | _ => False) (fun t v w' => match t with | 55 => Pix .u8 w' v [(y1, y2, y3, y4)] | 61 => Pix .u8 w' v (List.replicate (y0 + 1) (y1, y2, y3, y4)) | _ => True) (by kernel_rfl) (by kernel_rfl) ?hq2 ?hu2 ?hR2 ?h2
          case hq2 => intro t v h; split at h <;> simp_all
          case hu2 => intro t h; split at h <;> simp_all [undef]
          case hR2 => intro t v w w' h1 h2 h3; split at h1 <;> first | exact h2.ext h3 | trivial
          case h2 =>
            dsimp only [List.take, List.drop]
            repeat (first | (refine Flow.skip rfl ?_; simp only [Act.put, List.setIfInBounds_toArray, List.set_cons_zero, List.set_cons_succ]) | (refine Flow.plain rfl rfl ?_; go_big_quiet_step (fail); refine wpQuiet_nil ?_))
            refine Flow.make 55 rfl rfl rfl ⟨.slice (some ⟨0, 0, none⟩) 1 1, 0, rfl⟩ (fun wx hx hf => ⟨.slice (some ⟨wx.heap.size, 0, none⟩) 1 1, wx.alloc (.cells #[.int .u8 (y1 : Int), .int .u8 (y2 : Int), .int .u8 (y3 : Int), .int .u8 (y4 : Int)] 40), by kernel_rfl, (Ext.refl wx).alloc _, ⟨_, rfl⟩, ?_⟩) ?_
            · exact pix_one (by simp) ⟨show y1 ≤ 255 by omega, show y2 ≤ 255 by omega, show y3 ≤ 255 by omega, show y4 ≤ 255 by omega⟩ (fun j hj => by simp [cellsP])
            rintro _ ⟨g5, rfl⟩
            simp only [Act.put, List.setIfInBounds_toArray, List.set_cons_zero, List.set_cons_succ]
            repeat (first | (refine Flow.skip rfl ?_; simp only [Act.put, List.setIfInBounds_toArray, List.set_cons_zero, List.set_cons_succ]) | (refine Flow.plain rfl rfl ?_; go_big_quiet_step (fail); refine wpQuiet_nil ?_))
            refine Flow.call Try.call44 [.slice (some ⟨g5, 0, none⟩) 1 1, .int .i64 ((y0 : Int) + 1)] rfl rfl rfl ?_ (fun wx hx hf => ?_) ?_
            · exact ⟨_, 0, rfl⟩
            · have h55 := hf.at 55 (by kernel_rfl) ⟨g5, rfl⟩
              exact (RP.out wx (.slice (some ⟨g5, 0, none⟩) 1 1) h55).mono fun e w' ⟨g, h1, h2, h3⟩ => ⟨_, h1, h3, ⟨g, rfl⟩, h2.pix⟩
            rintro _ ⟨g7, rfl⟩
            simp only [Act.put, List.setIfInBounds_toArray, List.set_cons_zero, List.set_cons_succ]
            refine Flow.nil fun w8 hx8 hf => ?_
            have Y8 := Lib.hid (show Pix .u8 w8 (.slice (some ⟨g7, 0, none⟩) (y0 + 1) (y0 + 1)) (List.replicate (y0 + 1) (y1, y2, y3, y4)) from hf 61 (by simp) ⟨g7, rfl⟩)
            have S8 := Lib.hid (S5.out.ext hx8)
            have Z8 : Hid (acc.length + (List.replicate (y0 + 1) (y1, y2, y3, y4)).length ≤ 1000000) := Lib.hid (by have := HMl.out; simp; omega)
            have O8 := Lib.hid S8.out.2.2.1
            have B8 : Hid (G + 1 ≤ w8.heap.size) := Lib.hid S8.out.2.1
            clear hf hx8 n0 n1 n2 n3 n4 n5 hCl hBl
            refine wpList_pxs pxC rfl (.tmp 53) (.tmp 61) rfl rfl rfl O8.out Y8.out Z8.out B8.out ?_
            intro v9 w9 hO9 hgr9 _
            obtain ⟨A9, c9, rfl⟩ := own_slice hO9.1
            obtain ⟨L9, hL9⟩ : ∃ L, (acc ++ List.replicate (y0 + 1) (y1, y2, y3, y4)).length = L := ⟨_, rfl⟩
            have hL9' : L9 ≤ 65792 := by rw [← hL9]; have := HMl.out; simp; omega
            rw [hL9] at hO9
            rw [hL9]
            clear hL9
            obtain ⟨g2, f2, ST9⟩ := S8.out.push GZ.out hO9 hgr9
            have ST9 := Lib.hid ST9
            obtain ⟨k9, hk9⟩ : ∃ j, k' = j + 1 := ⟨k' - 1, by have := HLk.out; omega⟩
            have RN : Hid (parseL M k9 (acc ++ List.replicate (y0 + 1) (y1, y2, y3, y4)) (rest.drop 5) = R) := Lib.hid (by
              rw [← ST.out.2.1, hk9]
              conv => rhs; unfold parseL
              rw [if_neg (by rw [HMl.out]; omega), HYY.out.1, HYY.out.2])
            have hLn : L - 5 = 5 * k9 := by have := HLk.out; omega
            have hkk : k9 ≤ k := by omega
            obtain ⟨p1, p2⟩ := ST.out.1.drop 5 (by have := ST.out.1.len; omega)
            rw [hLn] at p1 p2
            have P1 := Lib.hid p1
            have P2 := Lib.hid p2
            have HLn := Lib.hid hLn
            have hmm : 5 * k9 + 5 ≤ cx := by omega
            clear hO9 hgr9 p1 p2 hLn hk9
            by_cases hc5 : cx = 5
            · subst hc5
              have hk0 : k9 = 0 := by omega
              go_wp2
              go_roundw
              case rel => exact ⟨k9, o, 0, A9, L9, c9, _, _, hkk, by omega, by omega, by rw [hk0], hL9', Lib.hid ⟨P2.out rfl, RN.out, ST9.out⟩⟩
              case measure => simp; omega
            · go_wp2
              go_roundw
              case rel => exact ⟨k9, o + 5, cx - 5, A9, L9, c9, _, _, hkk, by omega, by omega, by rw [HLn.out], hL9', Lib.hid ⟨P1.out, RN.out, ST9.out⟩⟩
              case measure => simp; omega
      · have hpos' : ¬ (0 : Int) < (L : Int) := by omega
        have hk0 : k' = 0 := by omega
        have RS : Hid (R = some acc) := Lib.hid (by rw [← ST.out.2.1, hk0]; rfl)
        have HE := Lib.hid (EQ.out.trans ST.out.2.2.1)
        have W1 : ((x0 + 1 : Nat) : Int) = (x0 : Int) + 1 := by omega
        have W2 : ((x1 + 1 : Nat) : Int) = (x1 : Int) + 1 := by omega
        have HJ : Hid (parseF bs = if rightI ((x0 : Int) + 1) ((x1 : Int) + 1) acc = true ∧ bytesL ((x0 : Int) + 1) ((x1 : Int) + 1) acc = bs then some (x0 + 1, x1 + 1, acc) else none) := Lib.hid (by
          rw [HF.out, RS.out]
          unfold judgeF
          rw [W1, W2])
        clear hLk hk0 W1 W2
        by_cases hrt : rightI ((x0 : Int) + 1) ((x1 : Int) + 1) acc = true
        · have BY := Lib.hid (bytes_yes ((x0 : Int) + 1) ((x1 : Int) + 1) (.slice A m cc) acc wr ST.out.2.2.2.2.1.pix (by rw [HMl.out]; omega) hrt)
          have HRT := Lib.hid hrt
          clear hrt
          go_wp2_with fail
          refine BY.out.mono ?_
          rintro e w6 ⟨A6, n6, c6, rfl, hO6, hE6⟩
          have ST6 := Lib.hid (ST.out.2.2.ext hE6)
          have E6 := Lib.hid (HE.out.trans hE6)
          have BQ := Lib.hid (bequal_any (.slice (some ⟨B, off, none⟩) n 2) (.slice A6 n6 c6) bs (bytesL ((x0 : Int) + 1) ((x1 : Int) + 1) acc) w6 (by have := BB.out.ext E6.out; exact this) hO6.bytes)
          by_cases heq : bs = bytesL ((x0 : Int) + 1) ((x1 : Int) + 1) acc
          · rw [show decide (bs = bytesL ((x0 : Int) + 1) ((x1 : Int) + 1) acc) = true from decide_eq_true heq] at BQ
            have HEQ := Lib.hid heq
            obtain ⟨qz, r0, r1, r2, rf⟩ := FC.out _ ST6.out.1
            have t2 := ST6.out.2.1
            have t4 := ST6.out.2.2.2.1
            have t5 := ST6.out.2.2.2.2.1
            have t6 := ST6.out.2.2.2.2.2.1
            clear heq hE6 hO6 s2 s4 s5 s6 s7
            go_wp2_with fail
            refine BQ.out.mono ?_
            rintro e w7 ⟨rfl, rfl⟩
            go_wp2
            refine bodyPost_ret (v := .tuple #[.agg #[.int .i64 ((x0 : Int) + 1), .int .i64 ((x1 : Int) + 1), .slice A m cc], .int .i64 0]) (by simp [results, Try.results27, go_sem, r0, r1, r2, rf]) rfl ⟨?_, ?_⟩
            · have hq : w.heap.size ≤ q := Nat.le_of_eq HQ.out
              exact (((E6.out.setCell hq _).setCell hq _).setCell hq _)
            · rw [HJ.out, if_pos ⟨HRT.out, HEQ.out.symm⟩]
              have hqG : q < G + 1 := by have := HZ.out; have := GZ.out; omega
              exact ⟨.slice A m cc, by simp, (((ST6.out.2.2.1.set hqG).set hqG).set hqG).pix⟩
          · rw [show decide (bs = bytesL ((x0 : Int) + 1) ((x1 : Int) + 1) acc) = false from decide_eq_false heq] at BQ
            have HEQ := Lib.hid heq
            obtain ⟨qz, r0, r1, r2, rf⟩ := FC.out _ ST6.out.1
            clear heq hE6 hO6 s2 s4 s5 s6 s7
            go_wp2_with fail
            refine BQ.out.mono ?_
            rintro e w7 ⟨rfl, rfl⟩
            go_wp2
            refine bodyPost_ret (v := noImg) (by simp [results, Try.results27, go_sem, noImg, r0, r1, r2, rf]) rfl ⟨?_, ?_⟩
            · have hq : w.heap.size ≤ q := Nat.le_of_eq HQ.out
              exact (((E6.out.setCell hq _).setCell hq _).setCell hq _)
            · rw [HJ.out, if_neg (fun h => HEQ.out h.2.symm)]
        · have BY := Lib.hid (bytes_no ((x0 : Int) + 1) ((x1 : Int) + 1) (.slice A m cc) acc wr ST.out.2.2.2.2.1.pix (by omega) (by omega) (by simpa using hrt))
          have HRT := Lib.hid hrt
          clear hrt
          go_wp2_with fail
          refine BY.out.mono ?_
          rintro e w6 ⟨rfl, hE6⟩
          have E6 := Lib.hid (HE.out.trans hE6)
          obtain ⟨qz, r0, r1, r2, rf⟩ := FC.out _ (ST.out.2.2.1.trans hE6)
          clear hE6 s2 s4 s5 s6 s7
          go_wp2
          refine bodyPost_ret (v := noImg) (by simp [results, Try.results27, go_sem, noImg, r0, r1, r2, rf]) rfl ⟨?_, ?_⟩
          · have hq : w.heap.size ≤ q := Nat.le_of_eq HQ.out
            exact (((E6.out.setCell hq _).setCell hq _).setCell hq _)
          · rw [HJ.out, if_neg (fun h => HRT.out h.1)]
  · rw [if_neg hc2] at e2
    go_wp2
    clear g0 g1 g2 gf e2 hn2 hlt hr1 hr2 h2 gz gl hc2 E3
    go_loopw [5] (fun t5 wr => ∃ (k' o cx : Nat) (A : Option Addr) (m cc : Nat) (acc : List Px) (rest : List Nat), k' ≤ k ∧ 5 * k' ≤ cx ∧ cx ≤ 9223372036854775807 ∧ t5 = .slice (some ⟨B, o, none⟩) (5 * k') cx ∧ m ≤ 65792 ∧ Hid (Bytes w (.slice (some ⟨B, o, none⟩) (5 * k') cx) rest ∧ parseL M k' acc rest = R ∧ CropSt wq wr G ((x0 : Int) + 1) ((x1 : Int) + 1) (.slice A m cc) acc)) (fun t5 _ => match t5 with | .slice _ n _ => n | _ => 0)
    case atStart => exact ⟨k, o2, c2, none, 0, 0, [], bs.drop 2, by omega, by obtain ⟨_, _, e, h, h', _⟩ := BH.out; simp only [Value.slice.injEq] at e; obtain ⟨_, e1, rfl⟩ := e; omega, by obtain ⟨_, _, e, h, h', _⟩ := BH.out; simp only [Value.slice.injEq] at e; obtain ⟨_, e1, rfl⟩ := e; omega, rfl, by omega, Lib.hid ⟨BH.out, HR.out, CS.out⟩⟩
    case round =>
      obtain ⟨k', o, cx, A, m, cc, acc, rest, hk1, hcx1, hcx2, rfl, hm, ST⟩ := hrel
      obtain ⟨L, hL⟩ : ∃ L, 5 * k' = L := ⟨_, rfl⟩
      rw [hL] at hcx1 ST
      rw [hL]
      have HLk := Lib.hid hL
      have hLk : k' = L / 5 ∧ L % 5 = 0 := by omega
      clear hL
      have s2 := ST.out.2.2.2.1
      have s4 := ST.out.2.2.2.2.2.1
      have s5 := ST.out.2.2.2.2.2.2.1
      have s6 := ST.out.2.2.2.2.2.2.2.1
      have s7 := ST.out.2.2.2.2.2.2.2.2
      have HMl : Hid (acc.length = m) := Lib.hid ST.out.2.2.2.2.1.pix.len.symm
      by_cases hpos : 0 < L
      · have hpos' : (0 : Int) < (L : Int) := by omega
        by_cases hen : M ≤ m
        · have hen' : (M : Int) ≤ (m : Int) := by omega
          obtain ⟨qz, r0, r1, r2, rf⟩ := FC.out _ ST.out.2.2.1
          have HN : Hid (R = none) := Lib.hid (by
            rw [← ST.out.2.1]
            obtain ⟨j, rfl⟩ : ∃ j, k' = j + 1 := ⟨k' - 1, by omega⟩
            unfold parseL
            rw [if_pos (by rw [HMl.out]; exact hen)])
          clear hLk
          go_wp2
          refine bodyPost_ret (v := noImg) (by simp [results, Try.results27, go_sem, noImg, r0, r1, r2, rf]) rfl ⟨?_, ?_⟩
          · have hq : w.heap.size ≤ q := Nat.le_of_eq HQ.out
            exact ((((EQ.out.trans ST.out.2.2.1).setCell hq _).setCell hq _).setCell hq _)
          · rw [HF.out, HN.out]; rfl
        · have hen' : ¬ (M : Int) ≤ (m : Int) := by omega
          have hL5 : 5 ≤ L := by omega
          obtain ⟨B', o', e9, _, hcl⟩ := ST.out.1.at hpos
          simp only [Option.some.injEq, Addr.mk.injEq, and_true] at e9
          obtain ⟨rfl, rfl⟩ := e9
          have b0 := hcl 0 (by omega)
          have b1 := hcl 1 (by omega)
          have b2 := hcl 2 (by omega)
          have b3 := hcl 3 (by omega)
          have b4 := hcl 4 (by omega)
          have hbt : ∀ i, rest.getD i 0 < 256 := by obtain ⟨_, _, _, _, _, _, h, _⟩ := ST.out.1; exact h
          obtain ⟨y0, hy0⟩ : ∃ x, rest.getD 0 0 = x := ⟨_, rfl⟩
          obtain ⟨y1, hy1⟩ : ∃ x, rest.getD 1 0 = x := ⟨_, rfl⟩
          obtain ⟨y2, hy2⟩ : ∃ x, rest.getD 2 0 = x := ⟨_, rfl⟩
          obtain ⟨y3, hy3⟩ : ∃ x, rest.getD 3 0 = x := ⟨_, rfl⟩
          obtain ⟨y4, hy4⟩ : ∃ x, rest.getD 4 0 = x := ⟨_, rfl⟩
          have hb0' : y0 < 256 := by rw [← hy0]; exact hbt 0
          have hb1' : y1 < 256 := by rw [← hy1]; exact hbt 1
          have hb2' : y2 < 256 := by rw [← hy2]; exact hbt 2
          have hb3' : y3 < 256 := by rw [← hy3]; exact hbt 3
          have hb4' : y4 < 256 := by rw [← hy4]; exact hbt 4
          rw [hy0] at b0
          rw [hy1] at b1
          rw [hy2] at b2
          rw [hy3] at b3
          rw [hy4] at b4
          simp only [Nat.add_zero] at b0
          have HYY : Hid (rest.getD 0 0 = y0 ∧ pxOf rest = (y1, y2, y3, y4)) := Lib.hid ⟨hy0, by unfold pxOf; rw [hy1, hy2, hy3, hy4]⟩
          have hcx5 : ¬ cx = 1 := by omega
          have hcx6 : 5 ≤ cx := by omega
          clear hcl hbt hy0 hy1 hy2 hy3 hy4 hLk
          go_wp2
          obtain ⟨wc, hwc⟩ : ∃ wc, wr.alloc (.cells #[.int .u8 0, .int .u8 0, .int .u8 0, .int .u8 0] 40) = wc := ⟨_, rfl⟩
          obtain ⟨C, hC⟩ : ∃ C, wr.heap.size = C := ⟨_, rfl⟩
          have hCb : wc.heap[C]? = some (.cells #[.int .u8 0, .int .u8 0, .int .u8 0, .int .u8 0] 40 (0, 0)) := by rw [← hwc, ← hC]; exact heap_alloc_new wr _
          have EC := Lib.hid (show Ext wr wc by rw [← hwc]; exact (Ext.refl wr).alloc _)
          have ECC : Hid (Ext w wc) := Lib.hid ((EQ.out.trans ST.out.2.2.1).trans EC.out)
          rw [hwc, hC]
          have HC := Lib.hid hC
          clear hwc hC s2 s4 s5 s6 s7
          refine region_flow 3 [] (fun t v => False) (fun t v w' => True) (by kernel_rfl) (by kernel_rfl) (fun t v h => h.elim) (fun t h => h) (fun _ _ _ _ h => h.elim) ?_
          dsimp only [List.take, List.drop]
          repeat (first | (refine Flow.skip rfl ?_; simp only [Act.put, List.setIfInBounds_toArray, List.set_cons_zero, List.set_cons_succ]) | (refine Flow.plain rfl rfl ?_; go_big_quiet_step (fail); refine wpQuiet_nil ?_))
          refine Flow.nil fun w4 hx4 hf => ?_
          clear hf
          have d0 := ((ECC.out.trans hx4).cell hB).trans b0
          have d1 := ((ECC.out.trans hx4).cell hB).trans b1
          have d2 := ((ECC.out.trans hx4).cell hB).trans b2
          have d3 := ((ECC.out.trans hx4).cell hB).trans b3
          have d4 := ((ECC.out.trans hx4).cell hB).trans b4
          obtain ⟨w5, hcp, hC5, K5⟩ := copy_four w4 C B (o + 1) (cx - 1) _ _ _ _ y1 y2 y3 y4 (hx4.heapAt hCb) d1 d2 d3 d4
          have E5 := Lib.hid (K5.toExt (EC.out.trans hx4) (fun x e => by have := HC.out; omega))
          have hCl : C < w5.heap.size := (Array.getElem?_eq_some_iff.1 hC5).1
          have hBl : B < w5.heap.size := Nat.lt_of_lt_of_le hB ((EQ.out.trans ST.out.2.2.1).trans E5.out).size
          have S5 := Lib.hid (ST.out.2.2.ext E5.out)
          have hGl := S5.out.2.1
          have e0 := (((EQ.out.trans ST.out.2.2.1).trans E5.out).cell hB).trans b0
          have hyy : ∀ g, Ext w5 (w5.ext g) := fun g => ⟨g, rfl⟩
          have n0 : ∀ g, (w5.ext g).cell? ⟨C, 0, none⟩ = some (.int .u8 (y1 : Int)) := fun g => ((hyy g).cell hCl).trans (by rw [cell_of_row w5 C 0 _ _ (0, 0) hC5]; rfl)
          have n1 : ∀ g, (w5.ext g).cell? ⟨C, 1, none⟩ = some (.int .u8 (y2 : Int)) := fun g => ((hyy g).cell hCl).trans (by rw [cell_of_row w5 C 1 _ _ (0, 0) hC5]; rfl)
          have n2 : ∀ g, (w5.ext g).cell? ⟨C, 2, none⟩ = some (.int .u8 (y3 : Int)) := fun g => ((hyy g).cell hCl).trans (by rw [cell_of_row w5 C 2 _ _ (0, 0) hC5]; rfl)
          have n3 : ∀ g, (w5.ext g).cell? ⟨C, 3, none⟩ = some (.int .u8 (y4 : Int)) := fun g => ((hyy g).cell hCl).trans (by rw [cell_of_row w5 C 3 _ _ (0, 0) hC5]; rfl)
          have n4 : ∀ g, (w5.ext g).cell? ⟨B, o, none⟩ = some (.int .u8 (y0 : Int)) := fun g => ((hyy g).cell hBl).trans e0
          have n5 : ∀ g, (w5.ext g).cell? ⟨G, 2, none⟩ = some (.slice A m cc) := fun g => ((hyy g).cell hGl).trans S5.out.2.2.2.2.2.1
          have HCP := Lib.hid hcp
          clear d0 d1 d2 d3 d4 b0 b1 b2 b3 b4 hcp K5 hC5 hyy e0 hx4 hCb hGl
          refine wpList_copyR rfl _ _ 59 59 rfl (.slice (some ⟨C, 0, none⟩) 4 4) (.slice (some ⟨B, o + 1, none⟩) 4 (cx - 1)) rfl rfl (HCP.out _) ?_
          simp only [Act.put, List.setIfInBounds_toArray, List.set_cons_zero, List.set_cons_succ]
          dsimp only [wpList, Exit.then, goInt]
          have RP := Lib.hid (fun wx (x : Value) (hx : Pix .u8 wx x [(y1, y2, y3, y4)]) => repeat_any (y1, y2, y3, y4) (y0 + 1) x wx hx (by omega) (by omega))
          rw [show (((y0 + 1 : Nat)) : Int) = (y0 : Int) + 1 by omega] at RP
          go_wp2
          refine region_flow 10 [55, 61] (fun t v => match t with | 55 => ∃ g, v = .slice (some ⟨g, 0, none⟩) 1 1 | 61 => ∃ g, v = .slice (some ⟨g, 0, none⟩) (y0 + 1) (y0 + 1) | _ => False) (fun t v w' => match t with | 55 => Pix .u8 w' v [(y1, y2, y3, y4)] | 61 => Pix .u8 w' v (List.replicate (y0 + 1) (y1, y2, y3, y4)) | _ => True) (by kernel_rfl) (by kernel_rfl) ?hq2 ?hu2 ?hR2 ?h2
          case hq2 => intro t v h; split at h <;> simp_all
          case hu2 => intro t h; split at h <;> simp_all [undef]
          case hR2 => intro t v w w' h1 h2 h3; split at h1 <;> first | exact h2.ext h3 | trivial
          case h2 =>
            dsimp only [List.take, List.drop]
            repeat (first | (refine Flow.skip rfl ?_; simp only [Act.put, List.setIfInBounds_toArray, List.set_cons_zero, List.set_cons_succ]) | (refine Flow.plain rfl rfl ?_; go_big_quiet_step (fail); refine wpQuiet_nil ?_))
            refine Flow.make 55 rfl rfl rfl ⟨.slice (some ⟨0, 0, none⟩) 1 1, 0, rfl⟩ (fun wx hx hf => ⟨.slice (some ⟨wx.heap.size, 0, none⟩) 1 1, wx.alloc (.cells #[.int .u8 (y1 : Int), .int .u8 (y2 : Int), .int .u8 (y3 : Int), .int .u8 (y4 : Int)] 40), by kernel_rfl, (Ext.refl wx).alloc _, ⟨_, rfl⟩, ?_⟩) ?_
            · exact pix_one (by simp) ⟨show y1 ≤ 255 by omega, show y2 ≤ 255 by omega, show y3 ≤ 255 by omega, show y4 ≤ 255 by omega⟩ (fun j hj => by simp [cellsP])
            rintro _ ⟨g5, rfl⟩
            simp only [Act.put, List.setIfInBounds_toArray, List.set_cons_zero, List.set_cons_succ]
            repeat (first | (refine Flow.skip rfl ?_; simp only [Act.put, List.setIfInBounds_toArray, List.set_cons_zero, List.set_cons_succ]) | (refine Flow.plain rfl rfl ?_; go_big_quiet_step (fail); refine wpQuiet_nil ?_))
            refine Flow.call Try.call44 [.slice (some ⟨g5, 0, none⟩) 1 1, .int .i64 ((y0 : Int) + 1)] rfl rfl rfl ?_ (fun wx hx hf => ?_) ?_
            · exact ⟨_, 0, rfl⟩
            · have h55 := hf.at 55 (by kernel_rfl) ⟨g5, rfl⟩
              exact (RP.out wx (.slice (some ⟨g5, 0, none⟩) 1 1) h55).mono fun e w' ⟨g, h1, h2, h3⟩ => ⟨_, h1, h3, ⟨g, rfl⟩, h2.pix⟩
            rintro _ ⟨g7, rfl⟩
            simp only [Act.put, List.setIfInBounds_toArray, List.set_cons_zero, List.set_cons_succ]
            refine Flow.nil fun w8 hx8 hf => ?_
            have Y8 := Lib.hid (show Pix .u8 w8 (.slice (some ⟨g7, 0, none⟩) (y0 + 1) (y0 + 1)) (List.replicate (y0 + 1) (y1, y2, y3, y4)) from hf 61 (by simp) ⟨g7, rfl⟩)
            have S8 := Lib.hid (S5.out.ext hx8)
            have Z8 : Hid (acc.length + (List.replicate (y0 + 1) (y1, y2, y3, y4)).length ≤ 1000000) := Lib.hid (by have := HMl.out; simp; omega)
            have O8 := Lib.hid S8.out.2.2.1
            have B8 : Hid (G + 1 ≤ w8.heap.size) := Lib.hid S8.out.2.1
            clear hf hx8 n0 n1 n2 n3 n4 n5 hCl hBl
            refine wpList_pxs pxC rfl (.tmp 53) (.tmp 61) rfl rfl rfl O8.out Y8.out Z8.out B8.out ?_
            intro v9 w9 hO9 hgr9 _
            obtain ⟨A9, c9, rfl⟩ := own_slice hO9.1
            obtain ⟨L9, hL9⟩ : ∃ L, (acc ++ List.replicate (y0 + 1) (y1, y2, y3, y4)).length = L := ⟨_, rfl⟩
            have hL9' : L9 ≤ 65792 := by rw [← hL9]; have := HMl.out; simp; omega
            rw [hL9] at hO9
            rw [hL9]
            clear hL9
            obtain ⟨g2, f2, ST9⟩ := S8.out.push GZ.out hO9 hgr9
            have ST9 := Lib.hid ST9
            obtain ⟨k9, hk9⟩ : ∃ j, k' = j + 1 := ⟨k' - 1, by have := HLk.out; omega⟩
            have RN : Hid (parseL M k9 (acc ++ List.replicate (y0 + 1) (y1, y2, y3, y4)) (rest.drop 5) = R) := Lib.hid (by
              rw [← ST.out.2.1, hk9]
              conv => rhs; unfold parseL
              rw [if_neg (by rw [HMl.out]; omega), HYY.out.1, HYY.out.2])
            have hLn : L - 5 = 5 * k9 := by have := HLk.out; omega
            have hkk : k9 ≤ k := by omega
            obtain ⟨p1, p2⟩ := ST.out.1.drop 5 (by have := ST.out.1.len; omega)
            rw [hLn] at p1 p2
            have P1 := Lib.hid p1
            have P2 := Lib.hid p2
            have HLn := Lib.hid hLn
            have hmm : 5 * k9 + 5 ≤ cx := by omega
            clear hO9 hgr9 p1 p2 hLn hk9
            by_cases hc5 : cx = 5
            · subst hc5
              have hk0 : k9 = 0 := by omega
              go_wp2
              go_roundw
              case rel => exact ⟨k9, o, 0, A9, L9, c9, _, _, hkk, by omega, by omega, by rw [hk0], hL9', Lib.hid ⟨P2.out rfl, RN.out, ST9.out⟩⟩
              case measure => simp; omega
            · go_wp2
              go_roundw
              case rel => exact ⟨k9, o + 5, cx - 5, A9, L9, c9, _, _, hkk, by omega, by omega, by rw [HLn.out], hL9', Lib.hid ⟨P1.out, RN.out, ST9.out⟩⟩
              case measure => simp; omega
      · have hpos' : ¬ (0 : Int) < (L : Int) := by omega
        have hk0 : k' = 0 := by omega
        have RS : Hid (R = some acc) := Lib.hid (by rw [← ST.out.2.1, hk0]; rfl)
        have HE := Lib.hid (EQ.out.trans ST.out.2.2.1)
        have W1 : ((x0 + 1 : Nat) : Int) = (x0 : Int) + 1 := by omega
        have W2 : ((x1 + 1 : Nat) : Int) = (x1 : Int) + 1 := by omega
        have HJ : Hid (parseF bs = if rightI ((x0 : Int) + 1) ((x1 : Int) + 1) acc = true ∧ bytesL ((x0 : Int) + 1) ((x1 : Int) + 1) acc = bs then some (x0 + 1, x1 + 1, acc) else none) := Lib.hid (by
          rw [HF.out, RS.out]
          unfold judgeF
          rw [W1, W2])
        clear hLk hk0 W1 W2
        by_cases hrt : rightI ((x0 : Int) + 1) ((x1 : Int) + 1) acc = true
        · have BY := Lib.hid (bytes_yes ((x0 : Int) + 1) ((x1 : Int) + 1) (.slice A m cc) acc wr ST.out.2.2.2.2.1.pix (by rw [HMl.out]; omega) hrt)
          have HRT := Lib.hid hrt
          clear hrt
          go_wp2_with fail
          refine BY.out.mono ?_
          rintro e w6 ⟨A6, n6, c6, rfl, hO6, hE6⟩
          have ST6 := Lib.hid (ST.out.2.2.ext hE6)
          have E6 := Lib.hid (HE.out.trans hE6)
          have BQ := Lib.hid (bequal_any (.slice (some ⟨B, off, none⟩) n c) (.slice A6 n6 c6) bs (bytesL ((x0 : Int) + 1) ((x1 : Int) + 1) acc) w6 (by have := BB.out.ext E6.out; exact this) hO6.bytes)
          by_cases heq : bs = bytesL ((x0 : Int) + 1) ((x1 : Int) + 1) acc
          · rw [show decide (bs = bytesL ((x0 : Int) + 1) ((x1 : Int) + 1) acc) = true from decide_eq_true heq] at BQ
            have HEQ := Lib.hid heq
            obtain ⟨qz, r0, r1, r2, rf⟩ := FC.out _ ST6.out.1
            have t2 := ST6.out.2.1
            have t4 := ST6.out.2.2.2.1
            have t5 := ST6.out.2.2.2.2.1
            have t6 := ST6.out.2.2.2.2.2.1
            clear heq hE6 hO6 s2 s4 s5 s6 s7
            go_wp2_with fail
            refine BQ.out.mono ?_
            rintro e w7 ⟨rfl, rfl⟩
            go_wp2
            refine bodyPost_ret (v := .tuple #[.agg #[.int .i64 ((x0 : Int) + 1), .int .i64 ((x1 : Int) + 1), .slice A m cc], .int .i64 0]) (by simp [results, Try.results27, go_sem, r0, r1, r2, rf]) rfl ⟨?_, ?_⟩
            · have hq : w.heap.size ≤ q := Nat.le_of_eq HQ.out
              exact (((E6.out.setCell hq _).setCell hq _).setCell hq _)
            · rw [HJ.out, if_pos ⟨HRT.out, HEQ.out.symm⟩]
              have hqG : q < G + 1 := by have := HZ.out; have := GZ.out; omega
              exact ⟨.slice A m cc, by simp, (((ST6.out.2.2.1.set hqG).set hqG).set hqG).pix⟩
          · rw [show decide (bs = bytesL ((x0 : Int) + 1) ((x1 : Int) + 1) acc) = false from decide_eq_false heq] at BQ
            have HEQ := Lib.hid heq
            obtain ⟨qz, r0, r1, r2, rf⟩ := FC.out _ ST6.out.1
            clear heq hE6 hO6 s2 s4 s5 s6 s7
            go_wp2_with fail
            refine BQ.out.mono ?_
            rintro e w7 ⟨rfl, rfl⟩
            go_wp2
            refine bodyPost_ret (v := noImg) (by simp [results, Try.results27, go_sem, noImg, r0, r1, r2, rf]) rfl ⟨?_, ?_⟩
            · have hq : w.heap.size ≤ q := Nat.le_of_eq HQ.out
              exact (((E6.out.setCell hq _).setCell hq _).setCell hq _)
            · rw [HJ.out, if_neg (fun h => HEQ.out h.2.symm)]
        · have BY := Lib.hid (bytes_no ((x0 : Int) + 1) ((x1 : Int) + 1) (.slice A m cc) acc wr ST.out.2.2.2.2.1.pix (by omega) (by omega) (by simpa using hrt))
          have HRT := Lib.hid hrt
          clear hrt
          go_wp2_with fail
          refine BY.out.mono ?_
          rintro e w6 ⟨rfl, hE6⟩
          have E6 := Lib.hid (HE.out.trans hE6)
          obtain ⟨qz, r0, r1, r2, rf⟩ := FC.out _ (ST.out.2.2.1.trans hE6)
          clear hE6 s2 s4 s5 s6 s7
          go_wp2
          refine bodyPost_ret (v := noImg) (by simp [results, Try.results27, go_sem, noImg, r0, r1, r2, rf]) rfl ⟨?_, ?_⟩
          · have hq : w.heap.size ≤ q := Nat.le_of_eq HQ.out
            exact (((E6.out.setCell hq _).setCell hq _).setCell hq _)
          · rw [HJ.out, if_neg (fun h => HRT.out h.1)]

theorem parse_any (v : Value) (bs : List Nat) (w : World) (hb : Bytes w v bs) (hl : bs.length ≤ 2002) : Calls Try.prog 27 #[v] w (ParseOk bs w) := by
  by_cases h1 : bs.length < 2
  · refine (parse_few v bs w hb h1).mono fun e w' ⟨h2, h3⟩ => ⟨h3, ?_⟩
    unfold parseF
    rw [if_pos (.inl h1)]
    exact h2
  · by_cases h2 : (bs.length - 2) % 5 = 0
    · exact parse_loop v bs ((bs.length - 2) / 5) w hb (by omega) (by omega)
    · refine (parse_odd v bs w hb (by omega) h2).mono fun e w' ⟨h3, h4⟩ => ⟨h4, ?_⟩
      unfold parseF
      rw [if_pos (.inr h2)]
      exact h3

end Go.Proofs.Ytncphiphgkjflaa
