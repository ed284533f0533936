import Derived.Test.YtncphiphgkjflaaRuns
import Derived.Test.YtncphiphgkjflaaFlowIn
namespace Go.Proofs.Ytncphiphgkjflaa
open Go.RowKit Go.Shelf
set_option linter.unusedVariables false
set_option linter.unusedSimpArgs false
attribute [local go_sem] Oper.semAt_some

theorem runsF_fuel : ∀ (f : Nat) (l : List Px), l.length ≤ f → runsF f l = runsF l.length l := by
  intro f
  induction f using Nat.strongRecOn with
  | _ f ih =>
    intro l h
    cases l with
    | nil => cases f <;> rfl
    | cons p l =>
      obtain ⟨g, rfl⟩ : ∃ g, f = g + 1 := ⟨f - 1, by simp at h; omega⟩
      simp only [runsF, List.length_cons]
      simp at h
      by_cases hg : g = l.length
      · subst hg; rfl
      · rw [ih g (by omega) _ (by simp; omega), ih l.length (by omega) (l.drop (runF p 255 l)) (by simp)]

def runsOf (l : List Px) : List (Nat × Px) := runsF l.length l
theorem runsOf_nil : runsOf [] = [] := rfl
theorem runsOf_cons (q : Px) (rest : List Px) : runsOf (q :: rest) = (1 + runF q 255 rest, q) :: runsOf (rest.drop (runF q 255 rest)) := by
  unfold runsOf
  rw [List.length_cons, runsF, runsF_fuel _ _ (by simp)]

theorem runs_bytes {l : List Px} {p : Nat} {q : Px} {rest : List Px} (h : l.drop p = q :: rest) : (runsOf (l.drop p)).flatMap runB = runB (1 + runF q 255 rest, q) ++ (runsOf (l.drop (p + (1 + runF q 255 rest)))).flatMap runB := by
  have e : l.drop (p + (1 + runF q 255 rest)) = rest.drop (runF q 255 rest) := by
    rw [← List.drop_drop, h, Nat.add_comm 1, List.drop_succ_cons]
  rw [e, h, runsOf_cons, List.flatMap_cons]

theorem runsOf_len (l : List Px) : ((runsOf l).flatMap runB).length ≤ 5 * l.length := by
  have : ∀ n (l : List Px), l.length ≤ n → ((runsOf l).flatMap runB).length ≤ 5 * l.length := by
    intro n
    induction n with
    | zero => intro l h; have : l = [] := List.eq_nil_of_length_eq_zero (by omega); subst this; simp [runsOf_nil]
    | succ n ih =>
      intro l h
      cases l with
      | nil => simp [runsOf_nil]
      | cons q rest =>
        rw [runsOf_cons, List.flatMap_cons, List.length_append]
        have := ih (rest.drop (runF q 255 rest)) (by simp at h ⊢; omega)
        simp [runB] at this ⊢
        omega
  exact this l.length l (Nat.le_refl _)

theorem wpListIn_app2 {F : Fence} {m0 : Nat} {base : Nat} {w : World} {A : Option Addr} {n cap : Nat} {l m : List Nat} {x : Value} {ops : Array Oper} {rest : List Oper} {o : Oper} {a : Act} {Q : Exit → Act → World → Prop} (hgd : o.guard = none) (s y : Operand)
    (ho : o.op = .call { callee := .builtin .append, args := #[s, y], argTypes := #[59, 59] }) (hs : a.eval s = .slice A n cap) (hy : a.eval y = x)
    (hv : Own base w A n cap l) (hx : Bytes w x m) (hlen : l.length + m.length ≤ 70368744177664) (hbase : base ≤ w.heap.size)
    (h : ∀ A' n' cap' w', Own base w' A' n' cap' (l ++ m) → w.grownBy w' (Value.ownBlock (.slice A n cap)) → (A' = A ∨ A' = some ⟨w.heap.size, 0, none⟩) → wpListIn F m0 Try.prog ops Q rest (a.put o.dst (.slice A' n' cap')) w') : wpListIn F m0 Try.prog ops Q (o :: rest) a w := by
  refine wpListIn_plain hgd fun K hK' => ?_
  obtain ⟨A', n', cap', w', hr, h1, h2, h3⟩ := run_app2 o.type hv hx hlen hbase
  unfold Oper.wpIn
  refine ⟨?_, ?_⟩
  · simp [Oper.about, ho, resolve, Target.leads, Sem.run_pure]
  · rw [Oper.semAt_plain F _ _ (by rw [ho]; intro c hc'; cases hc')]
    simp [execOp, ho, resolve, invoke, builtin, hs, hy, hr, Result.andThen]
    exact hK' _ _ (h A' n' cap' w' h1 h2 h3)

set_option maxHeartbeats 1600000 in
theorem runs_any (W H : Int) (X : Option Addr) (N c : Nat) (w : World) : Calls Try.prog 50 #[.agg #[.int .i64 W, .int .i64 H, .slice X N c]] w fun e w' => e = .returned (.func (.func 61) #[] #[.pointer (some ⟨w.heap.size, 0, none⟩)]) ∧ w' = w.alloc (.cells #[.int .i64 W, .int .i64 H, .slice X N c] 24) := by
  go_enter Try.func50, Try.ntmps50
  go_wp2
  go_ret
  exact ⟨rfl, rfl⟩

/-- what Bytes has made, between two runs: its box o, the bytes, the image's box B, the deferred D, the loop L -/
structure BSt (w W : World) (o B D L : Nat) (vi : Value) (L1 : Obj) (A : Option Addr) (n c : Nat) (bs : List Nat) : Prop where
  ext : Ext w W
  ord : w.heap.size ≤ o ∧ o < B ∧ B < D ∧ D < L ∧ L < W.heap.size
  co : W.cell? ⟨o, 0, none⟩ = some (.slice A n c)
  fo : W.frozen? ⟨o, 0, none⟩ = false
  cb : W.cell? ⟨B, 2, none⟩ = some vi
  own : Own w.heap.size W A n c bs
  far : ∀ k, Value.ownBlock (.slice A n c) = some k → k < o ∨ L < k
  dl : W.heap[D]? = some (.deferred (some []))
  ll : W.heap[L]? = some L1

theorem BSt.grow {w W W' : World} {o B D L : Nat} {vi : Value} {L1 : Obj} {A : Option Addr} {n c : Nat} {bs : List Nat} (h : BSt w W o B D L vi L1 A n c bs) (he : Ext W W') : BSt w W' o B D L vi L1 A n c bs := by
  obtain ⟨h1, ⟨o1, o2, o3, o4, o5⟩, h3, h4, h5, h6, h7, h8, h9⟩ := h
  exact ⟨h1.trans he, ⟨o1, o2, o3, o4, Nat.lt_of_lt_of_le o5 he.size⟩, (he.cell (by omega)).trans h3, (he.frozen (by omega)).trans h4, (he.cell (by omega)).trans h5, h6.ext he, h7, he.heapAt h8, he.heapAt h9⟩

/-- the loop's record is laid anew -/
theorem BSt.put {w W : World} {o B D L : Nat} {vi : Value} {L1 L2 : Obj} {A : Option Addr} {n c : Nat} {bs : List Nat} (h : BSt w W o B D L vi L1 A n c bs) : BSt w (W.putObj L L2) o B D L vi L2 A n c bs := by
  obtain ⟨h1, ⟨o1, o2, o3, o4, o5⟩, h3, h4, h5, h6, h7, h8, h9⟩ := h
  have K : Keep W (W.putObj L L2) (fun k => k = L) := Keep.putObj
  exact ⟨K.toExt h1 (fun k e => by omega), ⟨o1, o2, o3, o4, Nat.lt_of_lt_of_le o5 K.size⟩, (K.cell (by omega) (by omega)).trans h3, (K.frozen (by omega) (by omega)).trans h4, (K.cell (by omega) (by omega)).trans h5,
    h6.keep K (fun k hk e => by have := h7 k hk; omega), h7, (K.block D (by omega) (by omega)).trans h8, World.putObj_heap_same o5⟩

/-- bytes more -/
theorem BSt.more {w W W2 : World} {o B D L : Nat} {vi : Value} {L1 : Obj} {A A' : Option Addr} {n c n' c' : Nat} {bs bs' : List Nat} (h : BSt w W o B D L vi L1 A n c bs) (hg : W.grownBy W2 (Value.ownBlock (.slice A n c))) (hO : Own w.heap.size W2 A' n' c' bs') (hA : A' = A ∨ A' = some ⟨W.heap.size, 0, none⟩) :
    W2.cell? ⟨o, 0, none⟩ = some (.slice A n c) ∧ W2.frozen? ⟨o, 0, none⟩ = false ∧ BSt w (W2.setCell ⟨o, 0, none⟩ (.slice A' n' c')) o B D L vi L1 A' n' c' bs' := by
  obtain ⟨h1, ⟨o1, o2, o3, o4, o5⟩, h3, h4, h5, h6, h7, h8, h9⟩ := h
  have KG := Keep.grown hg
  have far : ∀ k, o ≤ k → k ≤ L → ¬ Value.ownBlock (.slice A n c) = some k := fun k a b e => by have := h7 k e; omega
  have c1 := (KG.cell (g := o) (i := 0) (by omega) (far o (by omega) (by omega))).trans h3
  have f1 := (KG.frozen (g := o) (i := 0) (by omega) (far o (by omega) (by omega))).trans h4
  have c2 := (KG.cell (g := B) (i := 2) (by omega) (far B (by omega) (by omega))).trans h5
  have E2 : Ext w W2 := h1.grown hg (fun k hk => h6.row k hk)
  have hsz := KG.size
  have KS : Keep W2 (W2.setCell ⟨o, 0, none⟩ (.slice A' n' c')) (fun k => k = o) := Keep.setCell
  have hfar : ∀ k, Value.ownBlock (.slice A' n' c') = some k → k < o ∨ L < k := fun k hk => by
    rcases hA with rfl | rfl
    · cases A' with
      | none => simp [Value.ownBlock] at hk
      | some a => exact h7 k (by simpa [Value.ownBlock] using hk)
    · simp [Value.ownBlock] at hk; omega
  refine ⟨c1, f1, KS.toExt E2 (fun k e => by omega), ⟨o1, o2, o3, o4, by have := KS.size; omega⟩, by simp [go_sem, c1], by simp [go_sem, f1], (KS.cell (by omega) (by omega)).trans c2, hO.keep KS (fun k hk e => by have := hfar k hk; omega), hfar, ?_, ?_⟩
  · exact (KS.block D (by omega) (by omega)).trans ((KG.block D (by omega) (far D (by omega) (by omega))).trans h8)
  · exact (KS.block L (by omega) (by omega)).trans ((KG.block L (by omega) (far L (by omega) (by omega))).trans h9)

set_option maxRecDepth 100000 in
set_option maxHeartbeats 6400000 in
theorem bytes_yes (W H : Int) (v : Value) (l : List Px) (w : World) (hl : Pix .u8 w v l) (hn : l.length ≤ 100000) (hr : rightI W H l = true) :
    Calls Try.prog 31 #[.agg #[.int .i64 W, .int .i64 H, v]] w fun e w' => ∃ A n c, e = .returned (.tuple #[.slice A n c, .int .i64 0]) ∧ Own w.heap.size w' A n c (bytesL W H l) ∧ Ext w w' := by
  have hside : sideB W = true ∧ sideB H = true := by
    unfold rightI at hr
    simp only [Bool.and_eq_true] at hr
    exact ⟨hr.1.1.1, hr.1.1.2⟩
  have hWb : 1 ≤ W ∧ W ≤ 256 := by have := hside.1; simpa [sideB] using this
  have hHb : 1 ≤ H ∧ H ≤ 256 := by have := hside.2; simpa [sideB] using this
  have CK := Lib.hid (fun wx (hx : Ext w wx) => check_any W H v l wx (by omega) (by omega) (hl.ext hx))
  rw [hr] at CK
  have P := Lib.hid hl
  obtain ⟨X, c, rfl, hc1, hc2, _⟩ := hl
  obtain ⟨N, hN⟩ : ∃ N, l.length = N := ⟨_, rfl⟩
  rw [hN] at P hn hc1 CK
  rw [hN]
  have HN := Lib.hid hN
  clear hN hr hside
  refine (callsIn_wide (n := 7)).1 ?_
  refine callsIn_of_wp_marks Try.func31 rfl trivial ?_ rfl
  simp only [Try.ntmps31, List.size_toArray, List.length_cons, List.length_nil, Nat.reduceAdd, Nat.reduceSub, Array.replicate_succ, Array.replicate_zero, List.push_toArray, List.append_toArray, List.nil_append, List.cons_append]
  gi_wp2
  refine ⟨trivial, (callsIn_wide.2 (CK.out _ (by exact (Ext.refl w).alloc _))).mono ?_⟩
  rintro e w1 ⟨rfl, g1, rfl⟩
  rw [show errB true = 0 from rfl]
  gi_wp2
  refine ⟨trivial, (callsIn_wide.2 (runs_any W H X N c _)).mono ?_⟩
  rintro e w1 ⟨rfl, rfl⟩
  gi_wp2
  refine range_enter rfl (by decide) (gf := 61) (lb := #[.pointer (some ⟨w.heap.size + (1 + (g1.blocks.size + 2)), 0, none⟩)]) (by simp [go_sem]) trivial (enters_of Try.func61 (by kernel_rfl) rfl) ?_
  intro fn hfn rec hrec
  have HR := Lib.hid hrec
  clear hrec
  simp only [World.size_alloc, ext_size, Nat.add_assoc, Nat.reduceAdd]
  obtain ⟨gz, hgz⟩ : ∃ gz, g1.blocks.size = gz := ⟨_, rfl⟩
  simp only [hgz]
  have HGZ := Lib.hid hgz
  refine (runs1_in (w.heap.size + (1 + (gz + 4))) (w.heap.size + (1 + (gz + 2))) W H (.slice X N c) l (by have := HN.out; omega)
    (fun p Wx => ∃ A n cc bs, BSt w Wx (w.heap.size + (1 + (gz + 1))) (w.heap.size + (1 + (gz + 2))) (w.heap.size + (1 + (gz + 3))) (w.heap.size + (1 + (gz + 4))) (.slice X N c) (.loop (rec .ready none)) A n cc bs ∧ bytesL W H l = bs ++ (runsOf (l.drop p)).flatMap runB)
    ?hJ ?hE ?hY _ ?h0).mono ?after
  case hJ =>
    rintro p Wx ⟨A, n, cc, bs, hS, _⟩
    exact ⟨hS.cb, P.out.ext hS.ext⟩
  case hE =>
    rintro p Wx W' ⟨A, n, cc, bs, hS, h1⟩ he
    exact ⟨A, n, cc, bs, hS.grow he, h1⟩
  case h0 =>
    subst hgz
    refine ⟨some ⟨w.heap.size + (1 + g1.blocks.size), 0, none⟩, 2, 2, [(W - 1).toNat, (H - 1).toNat], ⟨?_, ?_, ?_, ?_, ?_, ?_, ?_, ?_, ?_⟩, ?_⟩
    · (repeat (first | exact Ext.refl _ | apply Ext.alloc | apply Ext.ext))
    · simp; omega
    · simp [go_sem]
    · simp [go_sem]
    · simp [go_sem]
    · have h := Own.fresh (((Ext.refl w).alloc (.cells #[.int .i64 W, .int .i64 H, .slice X N c] 24)).ext g1) [(W - 1).toNat, (H - 1).toNat] (lt_of_all (by simp; omega)) (by simp)
      simp only [List.map_cons, List.map_nil, byteV, List.length_cons, List.length_nil] at h
      rw [show ((W - 1).toNat : Int) = W - 1 by omega, show ((H - 1).toNat : Int) = H - 1 by omega] at h
      simp only [World.size_alloc, ext_size, Nat.add_assoc] at h
      refine Own.ext h ?_
      (repeat (first | exact Ext.refl _ | apply Ext.alloc | apply Ext.ext))
    · intro k hk
      simp [Value.ownBlock] at hk
      omega
    · refine Ext.heapAt ((Ext.refl _).alloc _) ?_
      have h := World.alloc_heap_new (((((w.alloc (Obj.cells #[Value.int IntKind.i64 W, Value.int IntKind.i64 H, Value.slice X N c] 24)).ext g1).alloc (Obj.cells #[Value.int IntKind.u8 (W - 1), Value.int IntKind.u8 (H - 1)] 5)).alloc (Obj.cells #[Value.slice (some { block := w.heap.size + (1 + g1.blocks.size), off := 0 }) 2 2] 59)).alloc (Obj.cells #[Value.int IntKind.i64 W, Value.int IntKind.i64 H, Value.slice X N c] 24)) (.deferred (some []))
      simpa [Nat.add_assoc] using h
    · have h := World.alloc_heap_new ((((((w.alloc (Obj.cells #[Value.int IntKind.i64 W, Value.int IntKind.i64 H, Value.slice X N c] 24)).ext g1).alloc (Obj.cells #[Value.int IntKind.u8 (W - 1), Value.int IntKind.u8 (H - 1)] 5)).alloc (Obj.cells #[Value.slice (some { block := w.heap.size + (1 + g1.blocks.size), off := 0 }) 2 2] 59)).alloc (Obj.cells #[Value.int IntKind.i64 W, Value.int IntKind.i64 H, Value.slice X N c] 24)).alloc (.deferred (some []))) (.loop (rec .ready none))
      simpa [Nat.add_assoc] using h
    · unfold bytesL runsOf
      rw [List.drop_zero, Int.emod_eq_of_lt (by omega) (by omega), Int.emod_eq_of_lt (by omega) (by omega)]
  case hY =>
    rintro p q rest W0 Wx ⟨A, n, cc, bs, hS0, hEq⟩ hx hdr hok
    have hS := hS0.grow hx
    have HS := Lib.hid hS
    have HEQ := Lib.hid (hEq.trans (congrArg (bs ++ ·) (runs_bytes hdr)))
    obtain ⟨r, g, u, a⟩ := q
    have HOK : Hid (okP (r, g, u, a)) := Lib.hid hok
    have hok' : r ≤ 255 ∧ g ≤ 255 ∧ u ≤ 255 ∧ a ≤ 255 := hok
    have hrl := runF_len (r, g, u, a) 255 rest
    obtain ⟨k, hk⟩ : ∃ k, runF (r, g, u, a) 255 rest = k := ⟨_, rfl⟩
    rw [hk] at hrl HEQ
    rw [hk]
    have hk255 : k ≤ 255 := hrl.2
    have hl9 : Hid (bs.length ≤ 1000000) := Lib.hid (by
      have h1 := congrArg List.length hEq
      have h2 := runsOf_len l
      have h3 : (bytesL W H l).length = 2 + ((runsOf l).flatMap runB).length := by unfold bytesL runsOf; rw [List.length_append]; rfl
      rw [h3, List.length_append] at h1
      have := HN.out
      omega)
    refine yield_round rec HR.out trivial hS.ll rfl ?_
    clear hk hrl hS hS0 hEq hx hdr hok
    gi_wp2
    refine ⟨((Ext.refl Wx).alloc _).heapAt HS.out.ll, ?_⟩
    obtain ⟨W1, hW1⟩ : ∃ W1, World.putObj (Wx.alloc (Obj.cells #[Value.int IntKind.u8 ↑r, Value.int IntKind.u8 ↑g, Value.int IntKind.u8 ↑u, Value.int IntKind.u8 ↑a] 40)) (w.heap.size + (1 + (gz + 4))) (Obj.loop (rec LoopState.busy none)) = W1 := ⟨_, rfl⟩
    rw [hW1]
    have hS1 := (HS.out.grow ((Ext.refl Wx).alloc (Obj.cells #[Value.int IntKind.u8 ↑r, Value.int IntKind.u8 ↑g, Value.int IntKind.u8 ↑u, Value.int IntKind.u8 ↑a] 40))).put (L2 := Obj.loop (rec LoopState.busy none))
    rw [hW1] at hS1
    have hgc : Wx.heap.size ≠ w.heap.size + (1 + (gz + 4)) := by have := HS.out.ord; omega
    have K1 : Keep (Wx.alloc (Obj.cells #[Value.int IntKind.u8 ↑r, Value.int IntKind.u8 ↑g, Value.int IntKind.u8 ↑u, Value.int IntKind.u8 ↑a] 40)) W1 (fun k => k = w.heap.size + (1 + (gz + 4))) := hW1 ▸ Keep.putObj
    have q0 : W1.cell? ⟨Wx.heap.size, 0, none⟩ = some (.int .u8 (r : Int)) := by rw [K1.cell (by simp) hgc]; simp [go_sem]
    have q1 : W1.cell? ⟨Wx.heap.size, 1, none⟩ = some (.int .u8 (g : Int)) := by rw [K1.cell (by simp) hgc]; simp [go_sem]
    have q2 : W1.cell? ⟨Wx.heap.size, 2, none⟩ = some (.int .u8 (u : Int)) := by rw [K1.cell (by simp) hgc]; simp [go_sem]
    have q3 : W1.cell? ⟨Wx.heap.size, 3, none⟩ = some (.int .u8 (a : Int)) := by rw [K1.cell (by simp) hgc]; simp [go_sem]
    have hgz : Wx.heap.size < W1.heap.size := by have := K1.size; simp at this; omega
    have hgL : w.heap.size + (1 + (gz + 4)) < Wx.heap.size := HS.out.ord.2.2.2.2
    have hAlt : ∀ k, Value.ownBlock (.slice A n cc) = some k → k < Wx.heap.size := fun k hk => (HS.out.own.2.1.lt k hk).2
    clear hW1 K1 HS
    obtain ⟨gc, hgcc⟩ : ∃ gc, Wx.heap.size = gc := ⟨_, rfl⟩
    rw [hgcc] at q0 q1 q2 q3 hgc hgz hgL hAlt
    have HAL := Lib.hid hAlt
    clear hAlt
    rw [hgcc]
    clear hgcc
    have HQ4 := Lib.hid (And.intro q0 (And.intro q1 (And.intro q2 q3)))
    have S1 := Lib.hid hS1
    have hcs := hS1.co
    have hfs := hS1.fo
    clear hS1 q0 q1 q2 q3
    have S1a := Lib.hid (S1.out.grow ((Ext.refl W1).alloc (.cells #[.int .u8 (1 + (k : Int) - 1)] 5)))
    have Y1 : Hid (Bytes (W1.alloc (.cells #[.int .u8 (1 + (k : Int) - 1)] 5)) (.slice (some ⟨W1.heap.size, 0, none⟩) 1 1) [k]) := Lib.hid (by
      have h := bytes_lit W1 [k] W1.heap.size (0, 0) rfl (lt_of_all (by simp; omega)) (by simp)
      simp only [List.map_cons, List.map_nil, byteV] at h
      rw [show 1 + (k : Int) - 1 = (k : Int) by omega]
      exact h)
    have Z1 : Hid (bs.length + [k].length ≤ 70368744177664) := Lib.hid (by have := hl9.out; simp; omega)
    have SZ1 := Lib.hid S1a.out.ext.size
    have hcs' := S1a.out.co
    have O1 := Lib.hid S1a.out.own
    clear hcs'
    gi_wp2_with (gi_at_builtin; refine wpListIn_app2 rfl (.tmp 26) (.tmp 30) rfl rfl rfl O1.out Y1.out Z1.out SZ1.out ?_; intro A2 n2 c2 W2 hO2 hgr2 hA2; have MM := Lib.hid (S1a.out.more hgr2 hO2 hA2); have G2 := Lib.hid hgr2; clear hO2 hgr2 hA2 hcs hfs; have hcs := MM.out.1; have hfs := MM.out.2.1)
    have S3 := Lib.hid MM.out.2.2
    have hcs := S3.out.co
    have hfs := S3.out.fo
    have qq : ∀ j, (W2.setCell ⟨w.heap.size + (1 + (gz + 1)), 0, none⟩ (.slice A2 n2 c2)).cell? ⟨gc, j, none⟩ = W1.cell? ⟨gc, j, none⟩ := fun j => by
      rw [Keep.setCell.cell (g := gc) (i := j) (by have := (Keep.grown G2.out).size; simp at this; omega) (by omega), (Keep.grown G2.out).cell (by simp; omega) (fun e => by have := HAL.out gc e; omega)]
      exact ((Ext.refl W1).alloc _).cell hgz
    have hz3 : gc < (W2.setCell ⟨w.heap.size + (1 + (gz + 1)), 0, none⟩ (.slice A2 n2 c2)).heap.size := by have := (Keep.grown G2.out).size; simp [World.setCell] at this ⊢; omega
    have Y3 : Hid (Bytes (W2.setCell ⟨w.heap.size + (1 + (gz + 1)), 0, none⟩ (.slice A2 n2 c2)) (.slice (some ⟨gc, 0, none⟩) 4 4) [r, g, u, a]) := Lib.hid (by
      refine bytes_at (l := [r, g, u, a]) hz3 (lt_of_all (by simp; omega)) (by simp) fun i hi => ?_
      obtain ⟨q0, q1, q2, q3⟩ := HQ4.out
      match i, hi with
      | 0, _ => rw [qq, q0]; rfl
      | 1, _ => rw [qq, q1]; rfl
      | 2, _ => rw [qq, q2]; rfl
      | 3, _ => rw [qq, q3]; rfl)
    obtain ⟨W3, hW3⟩ : ∃ W3, W2.setCell ⟨w.heap.size + (1 + (gz + 1)), 0, none⟩ (.slice A2 n2 c2) = W3 := ⟨_, rfl⟩
    rw [hW3] at hcs hfs S3 Y3 ⊢
    clear qq hz3 hW3 MM G2 HQ4 S1a S1 O1 Y1 Z1 SZ1
    have hx : ∀ g, Ext W3 (W3.ext g) := fun g => ⟨g, rfl⟩
    have hbo : w.heap.size + (1 + (gz + 1)) < W3.heap.size := by have := S3.out.ord; omega
    have e0 : ∀ g', (W3.ext g').cell? ⟨w.heap.size + (1 + (gz + 1)), 0, none⟩ = some (.slice A2 n2 c2) := fun g' => ((hx g').cell hbo).trans hcs
    clear hx hcs hfs
    refine region_in (by kernel_rfl) (by kernel_rfl) ?hL (region_flow_any 2 [] (fun t v => False) (fun t v w' => True) (by kernel_rfl) ?hq ?hu ?hR ?h)
    case hL => rintro ⟨a', w', h⟩; exact h
    case hq => intro t v h; exact h.elim
    case hu => intro t h; exact h
    case hR => intros; trivial
    case h =>
      dsimp only [List.take, List.drop]
      repeat (refine Flow.plain rfl rfl ?_; go_big_quiet_step (fail); refine wpQuiet_nil ?_)
      refine Flow.nil fun w3 hx3 hf => ?_
      clear hf e0
      have S4 := Lib.hid (S3.out.grow hx3)
      have Y4 := Lib.hid (Y3.out.ext hx3)
      have Z4 : Hid ((bs ++ [k]).length + [r, g, u, a].length ≤ 70368744177664) := Lib.hid (by have := hl9.out; simp; omega)
      refine wpList_app2 rfl (.tmp 32) (.tmp 33) rfl rfl rfl S4.out.own Y4.out Z4.out S4.out.ext.size ?_
      intro A5 n5 c5 W5 hO5 hgr5 hA5
      have MM := Lib.hid (S4.out.more hgr5 hO5 hA5)
      clear hO5 hgr5 hA5
      have hcs := MM.out.1
      have hfs := MM.out.2.1
      have S6 := Lib.hid MM.out.2.2
      clear MM hx3
      go_wp2
      exact ⟨S6.out.ll, rfl, A5, n5, c5, _, S6.out.put, by rw [HEQ.out]; simp [runB]⟩
  case after =>
    rintro e Wf ⟨⟨v0, rfl⟩, A, n, cc, bs, hS, heq⟩
    refine ⟨⟨_, rfl⟩, .inl ⟨hS.ll, ?_⟩⟩
    rw [List.drop_eq_nil_of_le (Nat.le_refl _), runsOf_nil, List.flatMap_nil, List.append_nil] at heq
    have hS5 := hS.put (L2 := .loop (rec .exhausted none))
    obtain ⟨W5, hW5⟩ : ∃ W5, Wf.putObj (w.heap.size + (1 + (gz + 4))) (.loop (rec .exhausted none)) = W5 := ⟨_, rfl⟩
    rw [hW5] at hS5 ⊢
    have S5 := Lib.hid hS5
    have HEQ := Lib.hid heq
    have hcs := hS5.co
    clear hW5 hS hS5 heq
    gi_wp2
    have hord := S5.out.ord
    have K7 : Keep W5 (W5.putObj (w.heap.size + (1 + (gz + 3))) (.deferred none)) (fun k => k = w.heap.size + (1 + (gz + 3))) := Keep.putObj
    refine ⟨by simp, .inl ⟨_, _, rfl, run_takeDeferred S5.out.dl, ?_⟩⟩
    refine ⟨.tuple #[.slice A n cc, .int .i64 0], by simp [results, Try.results31, go_sem], A, n, cc, rfl, ?_, K7.toExt S5.out.ext (fun k e => by omega)⟩
    rw [HEQ.out]
    exact S5.out.own.keep K7 (fun k hk e => by have := S5.out.far k hk; omega)


set_option maxRecDepth 100000 in
set_option maxHeartbeats 1600000 in
theorem bytes_no (W H : Int) (v : Value) (l : List Px) (w : World) (hl : Pix .u8 w v l) (hW : -9223372036854775808 ≤ W ∧ W ≤ 9223372036854775807) (hH : -9223372036854775808 ≤ H ∧ H ≤ 9223372036854775807) (hr : rightI W H l = false) :
    Calls Try.prog 31 #[.agg #[.int .i64 W, .int .i64 H, v]] w fun e w' => e = .returned (.tuple #[.slice none 0 0, .int .i64 30]) ∧ Ext w w' := by
  have CK := Lib.hid (fun wx (hx : Ext w wx) => check_any W H v l wx hW hH (hl.ext hx))
  rw [hr] at CK
  obtain ⟨X, c, rfl, hc1, hc2, _⟩ := hl
  go_enter Try.func31, Try.ntmps31
  go_wp2_with fail
  refine (CK.out _ ((Ext.refl w).alloc _)).mono ?_
  rintro e w1 ⟨rfl, g1, rfl⟩
  rw [show errB false = 30 from rfl]
  go_wp2
  exact bodyPost_ret (v := .tuple #[.slice none 0 0, .int .i64 30]) (by simp [results, Try.results31, go_sem]) rfl ⟨rfl, ((Ext.refl w).alloc _).ext g1⟩

/-- how many pixels have a colour -/
def countP (q : Px) (l : List Px) : Nat := (l.filter fun p => decide (p = q)).length

theorem countP_snoc (q : Px) (l : List Px) (i : Nat) (hi : i < l.length) : countP q (l.take (i + 1)) = countP q (l.take i) + (if l.getD i noP = q then 1 else 0) := by
  rw [take_succ_getD l i noP hi]
  unfold countP
  rw [List.filter_append, List.length_append]
  generalize l.getD i noP = x
  by_cases h : x = q <;> simp [List.filter_cons, h]

theorem countP_le (q : Px) (l : List Px) : countP q l ≤ l.length := List.length_filter_le _ _

set_option maxRecDepth 100000 in
set_option maxHeartbeats 3200000 in
theorem count_any (W H : Int) (v : Value) (l : List Px) (r g u a : Nat) (w : World) (hl : Pix .u8 w v l) (hn : l.length ≤ 1000000) :
    Calls Try.prog 26 #[.agg #[.int .i64 W, .int .i64 H, v], .agg #[.int .u8 (r : Int), .int .u8 (g : Int), .int .u8 (u : Int), .int .u8 (a : Int)]] w fun e w' => e = .returned (.int .i64 ((countP (r, g, u, a) l : Nat) : Int)) ∧ Ext w w' := by
  have P := Lib.hid hl
  obtain ⟨X, c, rfl, hc1, hc2, _⟩ := hl
  obtain ⟨N, hN⟩ : ∃ N, l.length = N := ⟨_, rfl⟩
  rw [hN] at P hn hc1
  rw [hN]
  have HN := Lib.hid hN
  clear hN
  have F1 : Hid (∀ wr, Ext ((w.alloc (.cells #[.int .i64 W, .int .i64 H, .slice X N c] 24)).alloc (.cells #[.int .u8 (r : Int), .int .u8 (g : Int), .int .u8 (u : Int), .int .u8 (a : Int)] 40)) wr → wr.cell? ⟨w.heap.size + 1, 0, none⟩ = some (.int .u8 (r : Int)) ∧ wr.cell? ⟨w.heap.size + 1, 1, none⟩ = some (.int .u8 (g : Int)) ∧ wr.cell? ⟨w.heap.size + 1, 2, none⟩ = some (.int .u8 (u : Int)) ∧ wr.cell? ⟨w.heap.size + 1, 3, none⟩ = some (.int .u8 (a : Int)) ∧ w.heap.size + 1 < wr.heap.size ∧ Ext w wr) := Lib.hid (fun wr hx => by
    have hb : w.heap.size + 1 < ((w.alloc (.cells #[.int .i64 W, .int .i64 H, .slice X N c] 24)).alloc (.cells #[.int .u8 (r : Int), .int .u8 (g : Int), .int .u8 (u : Int), .int .u8 (a : Int)] 40)).heap.size := by simp
    refine ⟨(hx.cell hb).trans ?_, (hx.cell hb).trans ?_, (hx.cell hb).trans ?_, (hx.cell hb).trans ?_, Nat.lt_of_lt_of_le hb hx.size, (((Ext.refl w).alloc _).alloc _).trans hx⟩
    all_goals simp [go_sem])
  go_enter Try.func26, Try.ntmps26
  go_wp2
  go_loopw [5, 11] (fun t5 t11 wr => ∃ (i k : Nat), i ≤ N ∧ k ≤ i ∧ t5 = .int .i64 (k : Int) ∧ t11 = .int .i64 (i : Int) ∧ Hid (k = countP (r, g, u, a) (l.take i) ∧ Ext ((w.alloc (.cells #[.int .i64 W, .int .i64 H, .slice X N c] 24)).alloc (.cells #[.int .u8 (r : Int), .int .u8 (g : Int), .int .u8 (u : Int), .int .u8 (a : Int)] 40)) wr)) (fun _ t11 _ => N - (intOf t11).toNat)
  case atStart => exact ⟨0, 0, by omega, by omega, rfl, rfl, Lib.hid ⟨by simp [countP], Ext.refl _⟩⟩
  case round =>
    obtain ⟨i, k, hi, hk, rfl, rfl, ST⟩ := hrel
    obtain ⟨k0, k1, k2, k3, hz, hE⟩ := F1.out _ ST.out.2
    have E := Lib.hid hE
    clear hE
    by_cases hlt : i < N
    · have hlt' : (i : Int) < (N : Int) := by omega
      obtain ⟨b, off, r', g', u', a', rfl, hbs, hp, hpb, c0, c1, c2, c3⟩ := (P.out.ext E.out).at hlt
      have HS := Lib.hid (countP_snoc (r, g, u, a) l i (by have := HN.out; omega))
      have HP := Lib.hid hp
      clear hp hpb
      by_cases heq : (r', g', u', a') = (r, g, u, a)
      · have HS2 : Hid (k + 1 = countP (r, g, u, a) (l.take (i + 1))) := Lib.hid (by rw [HS.out, HP.out, if_pos heq, ← ST.out.1])
        simp only [Prod.mk.injEq] at heq
        obtain ⟨rfl, rfl, rfl, rfl⟩ := heq
        go_wp2
        go_roundw
        case rel => exact ⟨i + 1, k + 1, by omega, by omega, by go_num, by go_num, Lib.hid ⟨HS2.out, ST.out.2.alloc _⟩⟩
        case measure => simp [intOf]; omega
      · have HS2 : Hid (k = countP (r, g, u, a) (l.take (i + 1))) := Lib.hid (by rw [HS.out, HP.out, if_neg heq, ← ST.out.1]; rfl)
        have hcmp : ((r' : Int) == (r : Int) && ((g' : Int) == (g : Int) && ((u' : Int) == (u : Int) && (a' : Int) == (a : Int)))) = false := by
          simp only [Prod.mk.injEq] at heq
          simp
          omega
        have hneq : ∀ wx, (binOp .eql 40 (.agg #[.int .u8 (r' : Int), .int .u8 (g' : Int), .int .u8 (u' : Int), .int .u8 (a' : Int)]) (.agg #[.int .u8 (r : Int), .int .u8 (g : Int), .int .u8 (u : Int), .int .u8 (a : Int)])).run Try.prog wx = .ok (.bool false) wx := fun wx => by
          simp [go_sem, hcmp]
        clear heq hcmp
        go_wp2
        go_roundw
        case rel => exact ⟨i + 1, k, by omega, by omega, rfl, by go_num, Lib.hid ⟨HS2.out, ST.out.2.alloc _⟩⟩
        case measure => simp [intOf]; omega
    · have hlt' : ¬ (i : Int) < (N : Int) := by omega
      go_wp2
      go_ret
      exact ⟨ret_int (by rw [ST.out.1, List.take_of_length_le (by have := HN.out; omega)]), E.out⟩

end Go.Proofs.Ytncphiphgkjflaa
