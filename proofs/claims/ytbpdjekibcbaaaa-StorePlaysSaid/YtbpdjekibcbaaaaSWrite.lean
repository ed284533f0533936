import Derived.Test.YtbpdjekibcbaaaaSCmd
import Derived.Deep.RegionLaw
namespace Go.Proofs.Ytbpdjekibcbaaaa
open Go.RowKit
set_option linter.unusedVariables false
set_option linter.unusedSimpArgs false

theorem Keep.tch {base : Nat} {a b c : World} (h : Keep a b (Tch base a)) (k : Keep b c (Tch base b)) : Keep a c (Tch base a) := by
  refine h.trans k (fun x hx ht => ?_)
  by_cases e : Tch base a x
  · exact e
  · have := h.block x hx e
    obtain ⟨h1, c, t, f, h2, h3⟩ := ht
    exact ⟨h1, c, t, f, by rw [← this]; exact h2, h3⟩

theorem infoW : (Try.prog.info? 79).map (fun i => (i.zero, i.size, i.bytes)) = some (some (.agg #[.int .i64 0, .slice none 0 0]), 2, 32) := by kernel_rfl
theorem infoRow : (Try.prog.info? 24).map (fun i => (i.zero, i.size, i.bytes)) = some (some (.slice none 0 0), 1, 24) := by kernel_rfl

/-- one element put behind a row -/
theorem wpList_one {base : Nat} {w : World} {S T : TypeId} {i0 : TypeInfo} {z : Value} {sz : Nat} {v x : Value} {n g c : Nat} {xs cs : List Value} {ops : Array Oper} {rest : List Oper} {o : Oper} {a : Act} {Q : Exit → Act → World → Prop}
    (ht : Try.prog.underlying S = some (.slice T)) (hi : Try.prog.info? T = some i0) (hz : i0.zero = some z) (hsize : i0.size = sz) (hzs : z.cells.size = sz) (hsz : 0 < sz) (hby : i0.bytes ≤ 1000)
    (hgd : o.guard = none) (s y : Operand) (ho : o.op = .call { callee := .builtin .append, args := #[s, y], argTypes := #[S, S] }) (hs : a.eval s = v) (hy : a.eval y = .slice (some ⟨g, 0, none⟩) 1 c)
    (hv : w.ownsRow base T sz v n xs) (hl : cs.length = sz) (hcs : ∀ j u, cs[j]? = some u → w.cell? ⟨g, j, none⟩ = some u) (h1 : ∀ u ∈ cs, u.oneCell' = true) (hn : n ≤ 1000000) (hbase : base ≤ w.heap.size)
    (h : ∀ v' w', w'.ownsRow base T sz v' (n + 1) (xs ++ cs) → w.grownBy w' v.ownBlock → (v'.ownBlock = v.ownBlock ∨ v'.ownBlock = some w.heap.size) → wpList Try.prog ops Q rest (a.put o.dst v') w') : wpList Try.prog ops Q (o :: rest) a w := by
  refine wpList_plain hgd fun K hK => ?_
  obtain ⟨v', w', hr, h2, h3, _, h4⟩ := run_append_own_at (P := Try.prog) w base S o.type T i0 z sz i0.bytes ht hi hz hsize rfl hzs hsz v n xs hv ⟨g, 0, none⟩ 1 c cs (by omega)
    (fun j u hu => by rw [show (⟨g, 0, none⟩ : Addr).add j = ⟨g, j, none⟩ by unfold Addr.add; split <;> simp_all]; exact hcs j u hu) h1 (by unfold maxLen; omega) (by
      have := Nat.mul_le_mul (show n + 1 ≤ 1000001 by omega) hby
      omega) hbase
  unfold Oper.wp execOp
  simp only [ho, resolve, invoke, builtin, Sem.run_bind, Sem.run_pure, Result.andThen_ok, List.map_toArray, List.map_cons, List.map_nil, hs, hy, hr]
  exact hK _ _ (h v' w' h2 h3 h4)

theorem step_one {base : Nat} {w : World} {S T : TypeId} {i0 : TypeInfo} {z : Value} {sz : Nat} {v : Value} {n g c : Nat} {xs cs : List Value} {ops : Array Oper} {o : Oper} {a : Act} {K : Act → World → Prop} {Q : Exit → Act → World → Prop} {E : Prop}
    (ht : Try.prog.underlying S = some (.slice T)) (hi : Try.prog.info? T = some i0) (hz : i0.zero = some z) (hsize : i0.size = sz) (hzs : z.cells.size = sz) (hsz : 0 < sz) (hby : i0.bytes ≤ 1000)
    (hgd : o.guard = none) (s y : Operand) (ho : o.op = .call { callee := .builtin .append, args := #[s, y], argTypes := #[S, S] }) (hs : a.eval s = v) (hy : a.eval y = .slice (some ⟨g, 0, none⟩) 1 c)
    (hv : w.ownsRow base T sz v n xs) (hl : cs.length = sz) (hcs : ∀ j u, cs[j]? = some u → w.cell? ⟨g, j, none⟩ = some u) (h1 : ∀ u ∈ cs, u.oneCell' = true) (hn : n ≤ 1000000) (hbase : base ≤ w.heap.size)
    (h : ∀ v' w', w'.ownsRow base T sz v' (n + 1) (xs ++ cs) → w.grownBy w' v.ownBlock → (v'.ownBlock = v.ownBlock ∨ v'.ownBlock = some w.heap.size) → K (a.put o.dst v') w') : if Region.wanted o (yielded ops a.tmps) = true then Oper.wp Try.prog o a w K Q else E := by
  have hw : Region.wanted o (yielded ops a.tmps) = true := by simp [Region.wanted, hgd]
  rw [if_pos hw]
  obtain ⟨v', w', hr, h2, h3, _, h4⟩ := run_append_own_at (P := Try.prog) w base S o.type T i0 z sz i0.bytes ht hi hz hsize rfl hzs hsz v n xs hv ⟨g, 0, none⟩ 1 c cs (by omega)
    (fun j u hu => by rw [show (⟨g, 0, none⟩ : Addr).add j = ⟨g, j, none⟩ by unfold Addr.add; split <;> simp_all]; exact hcs j u hu) h1 (by unfold maxLen; omega) (by
      have := Nat.mul_le_mul (show n + 1 ≤ 1000001 by omega) hby
      omega) hbase
  unfold Oper.wp execOp
  simp only [ho, resolve, invoke, builtin, Sem.run_bind, Sem.run_pure, Result.andThen_ok, List.map_toArray, List.map_cons, List.map_nil, hs, hy, hr]
  exact h v' w' h2 h3 h4

theorem Keep.ofGrown {base : Nat} {w w' : World} {e size : Nat} {v : Value} {n : Nat} {xs : List Value} (hr : w.ownsRow base e size v n xs) (he : e = 67 ∨ e = 24 ∨ e = 79 ∨ e = 3) (hg : w.grownBy w' v.ownBlock) : Keep w w' (Tch base w) :=
  (Keep.grown hg).mono fun k hk => by
    obtain ⟨cur, hc⟩ := row_type hr hk
    exact ⟨(hr.lt k hk).1, cur, e, _, hc, he⟩

theorem clone_sec (v : Value) (l : List Nat) (w : World) (hb : Bytes w v l) (hl : l.length ≤ 4294967296) :
    Calls Try.prog 40 #[v] w fun e w' => ∃ A cap, e = .returned (.slice A l.length cap) ∧ Own w.heap.size w' A l.length cap l ∧ Ext w w' := by
  refine (clone_any v l w hb hl).mono ?_
  rintro e w' ⟨A, n, cap, he, hO, hE⟩
  obtain rfl := hO.1
  exact ⟨A, cap, he, hO, hE⟩

theorem step_call {P : Program} {ops : Array Oper} {o : Oper} {a : Act} {w : World} {K : Act → World → Prop} {Q : Exit → Act → World → Prop} {E : Prop} {f : FuncId} {xs : Array Operand} {ats : Array TypeId} {R : Ending → World → Prop}
    (hg : o.guard = none) (ho : o.op = .call { callee := .value (.func f), args := xs, argTypes := ats }) (he : ∀ args w, (callFunc f args).run P w = .ok (.enter f args) w) (vs : Array Value) (hvs : xs.map a.eval = vs) (hc : Calls P f vs w R)
    (hK : ∀ e w', R e w' → ∃ v, e = .returned v ∧ K (a.put o.dst v) w') : if Region.wanted o (yielded ops a.tmps) = true then Oper.wp P o a w K Q else E := by
  have hw : Region.wanted o (yielded ops a.tmps) = true := by simp [Region.wanted, hg]
  rw [if_pos hw]
  obtain ⟨dst, op, ty, pos, after, guard⟩ := o
  simp only at ho hg
  subst ho hg
  unfold Oper.wp
  rw [execOp_call_go, he, show (#[] ++ xs.map a.eval ++ #[] : Array Value) = vs by rw [← hvs]; simp]
  refine hc.mono fun e w' hR => ?_
  obtain ⟨v, rfl, hk⟩ := hK e w' hR
  exact hk

def DS.put (S : DS) (i : Nat) (x : Sec) : DS := { S with wait := S.wait ++ [(i, x)] }

theorem rows_apart {b e e' size size' : Nat} {w : World} {v v' : Value} {n n' : Nat} {xs xs' : List Value} (h : w.ownsRow b e size v n xs) (h' : w.ownsRow b e' size' v' n' xs') (hne : e ≠ e') : ∀ k, v.ownBlock = some k → ¬ v'.ownBlock = some k := by
  intro k hk hk'
  obtain ⟨c, hc⟩ := row_type h hk
  obtain ⟨c', hc'⟩ := row_type h' hk'
  exact hne (type_ne hc hc')

/-- a write is put behind those that wait -/
theorem write_mem {base : Nat} {D : Nat} {SA : Option Addr} {sc : Nat} {WA : Option Addr} {wc : Nat} {RA : Option Addr} {rc : Nat} {S : DS} {w wa w9 : World} {i : Nat} {x : Sec} {A9 : Option Addr} {c9 : Nat}
    (h : DiskAt base w D SA sc WA wc RA rc S) (he : Ext w wa) (hx : SecOk base wa x) (hg : wa.grownBy w9 (Value.ownBlock (.slice WA S.wait.length wc))) (hO : w9.ownsRow base 79 2 (.slice A9 (S.wait.length + 1) c9) (S.wait.length + 1) (S.wait.flatMap waitV ++ waitV (i, x))) :
    w9.cell? ⟨D, 2, none⟩ = some (.slice WA S.wait.length wc) ∧ w9.frozen? ⟨D, 2, none⟩ = false ∧
      DiskAt base (w9.setCell ⟨D, 2, none⟩ (.slice A9 (S.wait.length + 1) c9)) D SA sc A9 c9 RA rc (S.put i x) ∧ Keep w (w9.setCell ⟨D, 2, none⟩ (.slice A9 (S.wait.length + 1) c9)) (Tch base w) := by
  have ha := h.ext he
  have K := Keep.grown hg
  have hnD : ¬ Value.ownBlock (.slice WA S.wait.length wc) = some D := fun e => by
    obtain ⟨c, hc⟩ := row_type ha.waits e
    exact absurd (type_ne hc ha.blk) (by decide)
  have hb9 : w9.heap[D]? = some (.cells (fields SA sc WA wc RA rc S) 67 (0, 0)) := by rw [K.block D ha.lt hnD]; exact ha.blk
  have KT : Keep wa w9 (Tch base wa) := Keep.ofGrown ha.waits (.inr (.inr (.inl rfl))) hg
  obtain ⟨P, KP⟩ := disk_put (w := w9) hb9 h.lo 2 (.slice A9 (S.wait.length + 1) c9) (S.put i x) SA sc A9 c9 RA rc (by simp [fields, DS.put])
    (row_keep ha.rows K (rows_apart ha.rows ha.waits (by decide))) (by simpa [DS.put] using hO) (row_keep ha.rds K (rows_apart ha.rds ha.waits (by decide)))
    (fun y hy => Own.keep (ha.oks y hy) K (rows_apart (ha.oks y hy).2.1 ha.waits (by decide)))
    (fun y hy => by
      simp only [DS.put, List.mem_append, List.mem_singleton] at hy
      rcases hy with hy | rfl
      · exact Own.keep (ha.okw y hy) K (rows_apart (ha.okw y hy).2.1 ha.waits (by decide))
      · exact Own.keep hx K (rows_apart hx.2.1 ha.waits (by decide)))
  refine ⟨by rw [cell_of_row w9 D 2 _ _ (0, 0) hb9]; rfl, by simp [World.frozen?, hb9], P, ?_⟩
  exact (Keep.ofExt he (Tch base w)).tch (KT.tch KP)

set_option maxRecDepth 100000 in
set_option maxHeartbeats 6400000 in
theorem write_ok {base : Nat} {D : Nat} {SA : Option Addr} {sc : Nat} {WA : Option Addr} {wc : Nat} {RA : Option Addr} {rc : Nat} {S : DS} (i : Nat) (v : Value) (b : List Nat) (w : World) (h : DiskAt base w D SA sc WA wc RA rc S) (hb : Bytes w v b) (hbase : base ≤ w.heap.size)
    (hc : S.checkI (i : Int) = 0) (hlen : b.length = S.size) (hbl : b.length ≤ 1000) (hw : S.wait.length ≤ 1000) (hi : i ≤ 1000000) (hl : -9223372036854775808 ≤ S.left ∧ S.left ≤ 9223372036854775807) (hd : S.done ≤ 1000000) :
    Calls Try.prog 32 #[.pointer (some ⟨D, 0, none⟩), .int .i64 (i : Int), v] w fun e w' => ∃ A cap WA' wc', e = .returned (.int .i64 (S.put i (A, cap, b)).cmd.2) ∧ DiskAt base w' D SA sc WA' wc' RA rc (S.put i (A, cap, b)).cmd.1 ∧ Keep w w' (Tch base w) := by
  have H := Lib.hid h
  have BB := Lib.hid hb
  have CK := Lib.hid (check_any (i : Int) w h)
  rw [hc] at CK
  have CL := Lib.hid (fun wx (hx : Ext w wx) => clone_sec v b wx (hb.ext hx) (by omega))
  obtain ⟨X, c, rfl, _⟩ := hb
  obtain ⟨N, hN⟩ : ∃ N, b.length = N := ⟨_, rfl⟩
  have HN := Lib.hid hN
  have c1 := h.cell 1
  have c2 := h.cell 2
  have cf := h.frozen 2
  simp only [fields, List.getElem?_toArray, List.getElem?_cons_zero, List.getElem?_cons_succ] at c1 c2
  rw [← hlen, hN] at c1
  rw [hN] at CL ⊢
  obtain ⟨M, hM⟩ : ∃ M, S.wait.length = M := ⟨_, rfl⟩
  have HM := Lib.hid hM
  rw [hM] at c2
  have WR := Lib.hid h.waits
  rw [hM] at WR hw
  have hDl := h.lt
  obtain ⟨i0, hi0, hz0, hz1, hz2⟩ := info_parts infoW
  have IW := Lib.hid (And.intro hi0 (And.intro hz0 (And.intro hz1 hz2)))
  clear hN h hM hi0 hz0 hz1 hz2
  go_enter Try.func32, Try.ntmps32
  go_wp2_with fail
  refine CK.out.mono ?_
  rintro e w1 ⟨rfl, rfl⟩
  go_wp2
  go_region_law (first
    | (refine step_call rfl rfl Try.call40 #[.slice X N c] (by simp [Act.eval, Act.put]) (CL.out _ (by (repeat (first | exact Ext.refl _ | exact Ext.drew _ | apply Ext.alloc | apply Ext.ext)))) ?_; rintro e w9 ⟨A, cap, rfl, hO, g9, rfl⟩; refine ⟨_, rfl, ?_⟩)
    | (refine step_one (base := base) (S := 65) (T := 79) (i0 := i0) (z := .agg #[.int .i64 0, .slice none 0 0]) (sz := 2) (v := .slice WA M wc) (n := M) (g := w1.heap.size + g9.blocks.size) (c := 1) (xs := S.wait.flatMap waitV) (cs := [.int .i64 (i : Int), .slice A N cap]) Try.underlying65 IW.out.1 IW.out.2.1 IW.out.2.2.1 rfl (by decide) (by rw [IW.out.2.2.2]; decide) rfl _ _ rfl (by simp [Act.eval, Act.put]) (by simp [Act.eval, Act.put]) (row_ext WR.out (by (repeat (first | exact Ext.refl _ | exact Ext.drew _ | apply Ext.alloc | apply Ext.ext)))) rfl
        (by intro j u hu; rcases j with _ | _ | j <;> simp at hu <;> subst hu <;> simp [go_sem]) (by intro u hu; simp at hu; rcases hu with rfl | rfl <;> rfl) (by omega) (by simp [go_sem]; omega) ?_
       intro v9 w9 hO9 hg9 _
       obtain ⟨A9, c9, rfl⟩ := own_slice hO9
       have hEa : Ext w1 ((w1.ext g9).alloc (.cells #[.int .i64 (i : Int), .slice A N cap] 79)) := ((Ext.refl w1).ext g9).alloc _
       have hOb : Own w1.heap.size (w1.ext g9) A b.length cap b := by rw [HN.out]; exact hO
       have hOc : SecOk base ((w1.ext g9).alloc (.cells #[.int .i64 (i : Int), .slice A N cap] 79)) (A, cap, b) := Own.mono (hOb.ext ((Ext.refl _).alloc _)) hbase
       obtain ⟨k0, k1, HD, HK⟩ := write_mem (i := i) (x := (A, cap, b)) H.out hEa hOc (by rw [HM.out]; exact hg9) (by rw [HM.out]; simpa only [waitV, secV, HN.out] using hO9)
       rw [HM.out] at k0 HD HK
       have HD := Lib.hid HD
       have HK := Lib.hid HK))
  all_goals (
    obtain ⟨wn, hwn⟩ : ∃ wn, w9.setCell ⟨D, 2, none⟩ (.slice A9 (M + 1) c9) = wn := ⟨_, rfl⟩
    rw [hwn] at HD HK ⊢
    clear hwn hO hg9 hO9 hEa hOb hOc k0 k1 c1 c2 cf
    go_wp2_with fail
    refine (command_any wn HD.out hl hd).mono ?_
    rintro e' w2 ⟨rfl, HD2, HK2⟩
    have HD2 := Lib.hid HD2
    have HK2 := Lib.hid HK2
    go_wp2
    go_ret
    exact ⟨A, cap, A9, c9, rfl, HD2.out, HK.out.tch HK2.out⟩)

end Go.Proofs.Ytbpdjekibcbaaaa
