import Derived.Test.YtbpdjekibcbaaaaSSync
import Derived.Laws.CopyRow
namespace Go.Proofs.Ytbpdjekibcbaaaa
open Go.RowKit
set_option linter.unusedVariables false
set_option linter.unusedSimpArgs false

theorem run_nilCheck {P : Program} {o : Oper} {a : Act} {w : World} (x : Operand) (p : Addr) (ho : o.op = .nilCheck x) (hx : a.eval x = .pointer (some p)) : (execOp a.eval o).run P w = .ok (.value (.pointer (some p))) w := by
  unfold execOp
  simp [ho, hx]

/-- how many bytes of the k-th write a crash lays -/
def crN (size : Nat) (keep : List Bool) (torn cut : Int) (k : Nat) : Nat := if (k : Int) = torn then (min (max cut 0) (size : Int)).toNat else if k < keep.length ∧ keep.getD k false = true then size else 0
/-- the sectors behind a crash -/
def crB (f : Nat → Nat) (l : List (List Nat)) : List (Nat × List Nat) → Nat → List (List Nat)
  | [], _ => l
  | (i, b) :: r, k => crB f (l.set i (b.take (f k) ++ (l.getD i []).drop (f k))) r (k + 1)
def DS.bytes (S : DS) : List (List Nat) := S.safe.map (·.2.2)
def DS.wbytes (S : DS) : List (Nat × List Nat) := S.wait.map fun y => (y.1, y.2.2.2)

theorem crB_snoc (f : Nat → Nat) : ∀ (r : List (Nat × List Nat)) (l : List (List Nat)) (k : Nat) (y : Nat × List Nat), crB f l (r ++ [y]) k = (crB f l r k).set y.1 (y.2.take (f (k + r.length)) ++ ((crB f l r k).getD y.1 []).drop (f (k + r.length))) := by
  intro r
  induction r with
  | nil => intro l k y; obtain ⟨i, b⟩ := y; simp [crB]
  | cons z r ih =>
    intro l k y
    obtain ⟨i, b⟩ := z
    simp only [List.cons_append, crB, List.length_cons]
    rw [ih, show k + 1 + r.length = k + (r.length + 1) by omega]
theorem crB_len (f : Nat → Nat) : ∀ (r : List (Nat × List Nat)) (l : List (List Nat)) (k : Nat), (crB f l r k).length = l.length := by
  intro r
  induction r with
  | nil => intro l k; rfl
  | cons z r ih => intro l k; obtain ⟨i, b⟩ := z; simp only [crB]; rw [ih, List.length_set]
theorem crB_size (f : Nat → Nat) (n : Nat) (hf : ∀ k, f k ≤ n) : ∀ (r : List (Nat × List Nat)) (l : List (List Nat)) (k : Nat), (∀ b ∈ l, b.length = n) → (∀ y ∈ r, y.2.length = n ∧ y.1 < l.length) → ∀ b ∈ crB f l r k, b.length = n := by
  intro r
  induction r with
  | nil => intro l k h _; exact h
  | cons z r ih =>
    intro l k h hr
    obtain ⟨i, b⟩ := z
    have hz := hr (i, b) (by simp)
    simp only [crB]
    refine ih _ _ (fun c hc => ?_) (fun y hy => by rw [List.length_set]; exact hr y (by simp [hy]))
    rcases List.mem_or_eq_of_mem_set hc with hc | rfl
    · exact h c hc
    · have hm : l.getD i [] ∈ l := by rw [List.getD_eq_getElem?_getD, List.getElem?_eq_getElem hz.2]; exact List.getElem_mem hz.2
      have := h _ hm
      have := hf k
      simp only [List.length_append, List.length_take, List.length_drop]
      have := hz.1
      simp only at this
      omega

theorem Own.caps {base : Nat} {w : World} {A : Option Addr} {n cap : Nat} {l : List Nat} (h : Own base w A n cap l) : l.length ≤ cap ∧ cap ≤ 9223372036854775807 := by
  obtain ⟨A', cap', e, g1, g2, _⟩ := h.bytes
  have e2 : cap = cap' := by injection e
  subst e2
  exact ⟨g1, g2⟩

/-- a slice of bools, in a block that no disk touches -/
def Bools (base : Nat) (w : World) (v : Value) (l : List Bool) : Prop :=
  ∃ A c, v = .slice A l.length c ∧ l.length ≤ c ∧ (0 < l.length → ∃ b off, A = some ⟨b, off, none⟩ ∧ b < w.heap.size ∧ ¬ Tch base w b ∧ ∀ i, i < l.length → w.cell? ⟨b, off + i, none⟩ = some (.bool (l.getD i false)))
theorem Bools.keep {base : Nat} {w w' : World} {v : Value} {l : List Bool} (h : Bools base w v l) (hk : Keep w w' (Tch base w)) : Bools base w' v l := by
  obtain ⟨A, c, e, h1, h2⟩ := h
  refine ⟨A, c, e, h1, fun h0 => ?_⟩
  obtain ⟨b, off, e1, e2, e3, e4⟩ := h2 h0
  have hb := hk.block b e2 e3
  refine ⟨b, off, e1, Nat.lt_of_lt_of_le e2 hk.size, fun ht => ?_, fun i hi => (hk.cell e2 e3).trans (e4 i hi)⟩
  obtain ⟨g1, cc, t, f, g2, g3⟩ := ht
  exact e3 ⟨g1, cc, t, f, by rw [← hb]; exact g2, g3⟩

structure Crashed (S S' : DS) (keep : List Bool) (torn cut : Int) : Prop where
  bytes : S'.bytes = crB (crN S.size keep torn cut) S.bytes S.wbytes 0
  size : S'.size = S.size
  wait : S'.wait = []
  reads : S'.reads = List.replicate S.reads.length 0
  left : S'.left = -1
  done : S'.done = S.done
  down : S'.down = false

theorem clear_mem {base : Nat} {w : World} {D : Nat} {SA : Option Addr} {sc : Nat} {WA : Option Addr} {wc : Nat} {RA : Option Addr} {rc : Nat} {S : DS} (h : DiskAt base w D SA sc WA wc RA rc S) (hr : 0 < S.reads.length) :
    ∃ g w', RA = some ⟨g, 0, none⟩ ∧ (∀ ty, (Builtin.clear_ #[64] ty #[.slice (some ⟨g, 0, none⟩) S.reads.length rc]).run Try.prog w = .ok (.tuple #[]) w') ∧ DiskAt base w' D SA sc WA wc RA rc { S with reads := List.replicate S.reads.length 0 } ∧ Keep w w' (Tch base w) := by
  obtain ⟨g, rfl⟩ := own_some h.rds hr
  obtain ⟨n, hn⟩ : ∃ n, S.reads.length = n := ⟨_, rfl⟩
  have hrds := h.rds
  rcases hrds.2 with ⟨e, _⟩ | ⟨g', cap, cur, e, hb, hg, h1, h2, h3, h4⟩
  · simp at e
  · simp only [Value.slice.injEq, Option.some.injEq, Addr.mk.injEq, and_true, true_and] at e
    obtain ⟨rfl, rfl⟩ := e
    rw [hn] at hr h1 ⊢
    have K : Keep w (w.setRow g ((List.replicate n (Value.int .i64 0)) ++ cur.toList.drop n).toArray) (fun k => k = g) :=
      ⟨rfl, rfl, rfl, by simp [World.setRow], fun k hk hn => by
        simp only [World.setRow]
        rw [Array.getElem?_modify, if_neg (fun h => hn h.symm)]⟩
    have own : Value.ownBlock (.slice (some ⟨g, 0, none⟩) S.reads.length rc) = some g := rfl
    have ne : ∀ {e size : Nat} {v : Value} {n : Nat} {xs : List Value}, w.ownsRow base e size v n xs → e ≠ 3 → ∀ k, v.ownBlock = some k → ¬ k = g := fun hr hne k hk e => by
      subst e
      obtain ⟨c, hc⟩ := row_type hr hk
      exact hne (type_ne hc hg)
    have hDg : ¬ D = g := fun e => by subst e; exact absurd (type_ne h.blk hg) (by decide)
    refine ⟨g, _, rfl, fun ty => ?_, ⟨?_, h.lo, row_keep h.rows K (ne h.rows (by decide)), row_keep h.waits K (ne h.waits (by decide)), ?_, fun y hy => Own.keep (h.oks y hy) K (ne (h.oks y hy).2.1 (by decide)), fun y hy => Own.keep (h.okw y hy) K (ne (h.okw y hy).2.1 (by decide))⟩, K.mono fun k e => by subst e; exact ⟨hb, _, _, _, hg, .inr (.inr (.inr rfl))⟩⟩
    · have hst := run_storeCells_at Try.prog g 0 3 (List.replicate n (Value.int .i64 0)) 0 cur w hg (by simp; omega) (by intro v hv; rw [List.eq_of_mem_replicate hv]; rfl)
      have hzc : (Builtin.zeroCells (Value.int .i64 0).cells n).toList = List.replicate n (Value.int .i64 0) := by
        simp [Builtin.zeroCells, Value.cells]
        apply List.ext_getElem
        · simp
        · intro i h1 h2
          simp [Nat.mod_one]
      have hv : ∀ w, (zeroValue 3).run Try.prog w = .ok (.int .i64 0) w := fun w => by kernel_rfl
      obtain ⟨m, rfl⟩ : ∃ m, n = m + 1 := ⟨n - 1, by omega⟩
      simp [Builtin.clear_, run_underlying Try.underlying64, hv, hzc, hst]
    · rw [K.block D h.lt hDg, h.blk]
      simp [fields, hn]
    · refine ⟨by simp, .inr ⟨g, rc, _, ?_, hb, setRow_heap _ _ _ _ _ _ hg, by simpa using h1, h2, ?_, ?_⟩⟩
      · simp [hn]
      · simp; omega
      · simp [natV]

set_option maxRecDepth 100000 in
set_option maxHeartbeats 12800000 in
theorem crash_any {base : Nat} {D : Nat} {SA : Option Addr} {sc : Nat} {WA : Option Addr} {wc : Nat} {RA : Option Addr} {rc : Nat} {S : DS} (kv : Value) (kl : List Bool) (torn cut : Int) (w : World) (h : DiskAt base w D SA sc WA wc RA rc S) (hbase : base ≤ w.heap.size) (hkv : Bools base w kv kl)
    (hkl : kl.length ≤ 1000) (ht : -9223372036854775808 ≤ torn ∧ torn ≤ 9223372036854775807) (hc : -9223372036854775808 ≤ cut ∧ cut ≤ 9223372036854775807)
    (hw : S.wait.length ≤ 1000) (hin : ∀ x ∈ S.wait, x.1 < S.safe.length ∧ x.2.2.2.length = S.size) (hss : S.safe.length ≤ 10000) (hsz : ∀ x ∈ S.safe, x.2.2.length = S.size) (hs : 1 ≤ S.size ∧ S.size ≤ 1000) (hrd : S.reads.length ≤ 10000) (hrp : 0 < S.reads.length) :
    Calls Try.prog 22 #[.pointer (some ⟨D, 0, none⟩), kv, .int .i64 torn, .int .i64 cut] w fun e w' => (∃ v, e = .returned v) ∧ (∃ WA' wc' S', DiskAt base w' D SA sc WA' wc' RA rc S' ∧ Crashed S S' kl torn cut) ∧ Keep w w' (Tch base w) := by
  have KV := Lib.hid hkv
  obtain ⟨KA, kc, rfl, hkc, _⟩ := hkv
  have c2 := h.cell 2
  simp only [fields, List.getElem?_toArray, List.getElem?_cons_zero, List.getElem?_cons_succ] at c2
  obtain ⟨M, hM⟩ : ∃ M, S.wait.length = M := ⟨_, rfl⟩
  rw [hM] at c2 hw
  have HM := Lib.hid hM
  have HIN := Lib.hid hin
  have HSZ := Lib.hid hsz
  have H := Lib.hid h
  clear hM hin hsz h
  go_enter Try.func22, Try.ntmps22
  go_wp2
  clear c2
  obtain ⟨f, hf⟩ : ∃ f, crN S.size kl torn cut = f := ⟨_, rfl⟩
  have HF := Lib.hid hf
  have hfs : ∀ k, f k ≤ S.size := fun k => by rw [← hf]; unfold crN; split <;> (try split) <;> omega
  have HFS := Lib.hid hfs
  have HBS : Hid (∀ k b, b ∈ crB f S.bytes (S.wbytes.take k) 0 → b.length = S.size) := Lib.hid (fun k b hb => by
    refine crB_size f S.size hfs (S.wbytes.take k) S.bytes 0 (fun c hc => ?_) (fun y hy => ?_) b hb
    · obtain ⟨z, hz, rfl⟩ := List.mem_map.1 hc
      exact HSZ.out z hz
    · obtain ⟨z, hz, rfl⟩ := List.mem_map.1 (List.mem_of_mem_take hy)
      have := HIN.out z hz
      exact ⟨this.2, by simp only [DS.bytes, List.length_map]; exact this.1⟩)
  clear hf hfs
  go_loopw [16] (fun t16 wr => ∃ (k : Nat) (safe' : List Sec), k ≤ M ∧ t16 = .int .i64 (k : Int) ∧ Hid (DiskAt base wr D SA sc WA wc RA rc { S with safe := safe' } ∧ safe'.map (·.2.2) = crB f S.bytes (S.wbytes.take k) 0 ∧ Keep w wr (Tch base w))) (fun t16 _ => M - (intOf t16).toNat)
  case atStart => exact ⟨0, S.safe, by omega, rfl, Lib.hid ⟨H.out, rfl, Keep.refl _ _⟩⟩
  case round =>
    obtain ⟨k, safe', hk, rfl, ST⟩ := hrel
    have hsl : safe'.length = S.safe.length := by
      have := congrArg List.length ST.out.2.1
      rwa [crB_len, List.length_map, DS.bytes, List.length_map] at this
    by_cases hlt : k < M
    · have hlt' : (k : Int) < (M : Int) := by omega
      have hkl' : k < S.wait.length := by have := HM.out; omega
      obtain ⟨y, hy⟩ : ∃ y, S.wait[k] = y := ⟨_, rfl⟩
      obtain ⟨f0, f1⟩ := flat2 S.wait k hkl'
      rw [hy] at f0 f1
      obtain ⟨gw, rfl⟩ := own_some ST.out.1.waits (show 0 < S.wait.length by omega)
      have w0 := ST.out.1.waits.cellAt (k * 2) (show k * 2 < S.wait.length * 2 by omega)
      have w1 := ST.out.1.waits.cellAt (k * 2 + 1) (show k * 2 + 1 < S.wait.length * 2 by omega)
      simp only at w0 w1
      rw [f0] at w0
      rw [f1] at w1
      have hym : y ∈ S.wait := by rw [← hy]; exact List.getElem_mem hkl'
      have hyi := HIN.out y hym
      have hyo : SecOk base wr y.2 := ST.out.1.okw y hym
      obtain ⟨i, ax, cx, bx⟩ := y
      simp only at hyi w0 w1 hyo
      obtain ⟨hi, hbx⟩ := hyi
      -- the sector
      have hi' : i < safe'.length := by rw [hsl]; exact hi
      obtain ⟨z, hz⟩ : ∃ z, safe'[i] = z := ⟨_, rfl⟩
      have hzm : z ∈ safe' := by rw [← hz]; exact List.getElem_mem hi'
      have hzo : SecOk base wr z := ST.out.1.oks z hzm
      have hbz : z.2.2.length = S.size := HBS.out k z.2.2 (by rw [← ST.out.2.1]; exact List.mem_map.2 ⟨z, hzm, rfl⟩)
      obtain ⟨gs, rfl⟩ := own_some ST.out.1.rows (show 0 < safe'.length by omega)
      have s0 := ST.out.1.rows.cellAt i (show i < safe'.length * 1 by omega)
      simp only [List.getElem?_map, List.getElem?_eq_getElem hi', hz, Option.map_some] at s0
      have hgs := (ST.out.1.rows.lt gs rfl).2
      have hsf := ST.out.1.rows.frozenAt i
      obtain ⟨az, cz, bz⟩ := z
      simp only at hbz hzo s0
      obtain ⟨gx, rfl⟩ := own_some (show wr.ownsRow base 5 1 (.slice ax bx.length cx) bx.length _ from hyo.2.1) (by omega)
      obtain ⟨gz, rfl⟩ := own_some (show wr.ownsRow base 5 1 (.slice az bz.length cz) bz.length _ from hzo.2.1) (by omega)
      unfold secV at w1 s0
      simp only at w1 s0
      obtain ⟨N, hN⟩ : ∃ N, S.size = N := ⟨_, rfl⟩
      rw [hN] at hbx hbz hs
      rw [hbx] at w1
      rw [hbz] at s0
      have HBX := Lib.hid hbx
      have HBZ := Lib.hid hbz
      have OX := Lib.hid hyo
      have OZ := Lib.hid hzo
      have HNS := Lib.hid hN
      obtain ⟨hcx, hcx'⟩ := hyo.caps
      obtain ⟨hcz, hcz'⟩ := hzo.caps
      simp only at hcx hcx' hcz hcz'
      rw [hbx] at hcx
      rw [hbz] at hcz
      have c0 := ST.out.1.cell 0
      have c1 := ST.out.1.cell 1
      simp only [fields, List.getElem?_toArray, List.getElem?_cons_zero, List.getElem?_cons_succ] at c0 c1
      rw [hN] at c1
      obtain ⟨n, hn⟩ : ∃ n, safe'.length = n := ⟨_, rfl⟩
      rw [hn] at c0 hi' hsl
      have HNN := Lib.hid hn
      have hi'' : (i : Int) < (n : Int) := by omega
      have hn4 : n ≤ 10000 := by omega
      have hDl := ST.out.1.lt
      have hgl := (ST.out.1.waits.lt gw rfl).2
      obtain ⟨nn, hnn'⟩ : ∃ nn, f k = nn := ⟨_, rfl⟩
      have hnn : nn ≤ N := by rw [← hnn', ← hN]; exact HFS.out k
      have HNF := Lib.hid hnn'
      have hnc1 : nn ≤ cx := by omega
      have HTA : Hid (∀ wx, Ext wr wx → cz = nn → Bytes wx (.slice (some ⟨gz, 0, none⟩) (N - nn) 0) (bz.drop nn)) := Lib.hid (fun wx hx e => by
        have p := ((OZ.out.ext hx).bytes.drop nn (by rw [HBZ.out]; exact hnn)).2 e
        rwa [HBZ.out] at p)
      have HTB : Hid (∀ wx, Ext wr wx → Bytes wx (.slice (some ⟨gz, nn, none⟩) (N - nn) (cz - nn)) (bz.drop nn)) := Lib.hid (fun wx hx => by
        have p := ((OZ.out.ext hx).bytes.drop nn (by rw [HBZ.out]; exact hnn)).1
        rwa [HBZ.out, Nat.zero_add] at p)
      have HST := Lib.hid ST.out
      have HWK : Hid (∀ h : k < S.wait.length, S.wait[k] = (i, some ⟨gx, 0, none⟩, cx, bx)) := Lib.hid (fun _ => hy)
      have HZ : Hid ((safe'.map (·.2.2)).getD i [] = bz) := Lib.hid (by
        rw [List.getD_eq_getElem?_getD, List.getElem?_map, List.getElem?_eq_getElem (by rw [hn]; exact hi'), hz]
        rfl)
      have hKV := Lib.hid (KV.out.keep ST.out.2.2)
      clear hN hbx hbz hyo hzo hz hzm hy hym f0 f1 hn hnn' ST hkl' hi hsl
      have hcase : ((k : Int) = torn ∧ min (max cut 0) (N : Int) = (nn : Int)) ∨ (¬ (k : Int) = torn ∧ (k : Int) < (kl.length : Int) ∧ kl.getD k false = true ∧ nn = N) ∨ (¬ (k : Int) = torn ∧ (k : Int) < (kl.length : Int) ∧ kl.getD k false = false ∧ nn = 0) ∨ (¬ (k : Int) = torn ∧ ¬ (k : Int) < (kl.length : Int) ∧ nn = 0) := by
        have h := HNF.out
        rw [← HF.out] at h
        unfold crN at h
        rw [HNS.out] at h
        by_cases e : (k : Int) = torn
        · rw [if_pos e] at h
          have h9 : ((min (max cut 0) (N : Int)).toNat : Int) = (nn : Int) := congrArg Int.ofNat h
          rw [Int.toNat_of_nonneg (by omega)] at h9
          exact .inl ⟨e, h9⟩
        · rw [if_neg e] at h
          by_cases e2 : k < kl.length
          · cases e3 : kl.getD k false with
            | true => rw [if_pos ⟨e2, e3⟩] at h; exact .inr (.inl ⟨e, by omega, rfl, h.symm⟩)
            | false => rw [if_neg (by rw [e3]; simp)] at h; exact .inr (.inr (.inl ⟨e, by omega, rfl, h.symm⟩))
          · rw [if_neg (fun h => e2 h.1)] at h
            exact .inr (.inr (.inr ⟨e, by omega, h.symm⟩))
      rcases hcase with ⟨e1, e2⟩ | ⟨e1, e2, e3, e4⟩ | ⟨e1, e2, e3, e4⟩ | ⟨e1, e2, e4⟩
      · have hb : ((k : Int) == torn) = true := by simpa using e1
        clear e1
        by_cases hcn : cz = nn
        · have hcn' := hcn
          go_wp2
          obtain ⟨wb, hwb⟩ : ∃ wb, wr.alloc (.cells #[.int .i64 (i : Int), .slice (some ⟨gx, 0, none⟩) N cx] 79) = wb := ⟨_, rfl⟩
          obtain ⟨q, hq⟩ : ∃ q, wr.heap.size = q := ⟨_, rfl⟩
          have EB : Ext wr wb := by rw [← hwb]; exact (Ext.refl wr).alloc _
          have b0 : wb.cell? ⟨q, 0, none⟩ = some (.int .i64 (i : Int)) := by rw [← hwb, ← hq]; simp [go_sem]
          have b1 : wb.cell? ⟨q, 1, none⟩ = some (.slice (some ⟨gx, 0, none⟩) N cx) := by rw [← hwb, ← hq]; simp [go_sem]
          have hqs : q < wb.heap.size := by rw [← hwb, ← hq]; simp
          rw [hwb, hq]
          have hyy : ∀ g, Ext wb (wb.ext g) := fun g => ⟨g, rfl⟩
          have k0 := fun g => ((hyy g).cell hqs).trans b0
          have k1 := fun g => ((hyy g).cell hqs).trans b1
          have k2 := fun g => ((EB.trans (hyy g)).cell hDl).trans c0
          have k3 := fun g => ((EB.trans (hyy g)).cell hgs).trans s0
          have EBH := Lib.hid EB
          clear hwb hq hyy b0 b1 EB hqs
          refine region_flow 23 [67, 68] (fun t v => match t with | 67 => ∃ g, v = .slice (some ⟨g, 0, none⟩) 2 2 | 68 => ∃ A c, v = .slice A N c | _ => False) (fun t v w' => match t with | 67 => ∃ g, v = .slice (some ⟨g, 0, none⟩) 2 2 ∧ g < w'.heap.size ∧ w'.cell? ⟨g, 0, none⟩ = some (.slice (some ⟨gx, 0, none⟩) nn cx) ∧ w'.cell? ⟨g, 1, none⟩ = some ((.slice (some ⟨gz, 0, none⟩) (N - nn) 0)) | 68 => ∃ A c, v = .slice A N c ∧ Own base w' A N c (bx.take nn ++ bz.drop nn) | _ => True) (by kernel_rfl) (by kernel_rfl) ?hq9 ?hu9 ?hR9 ?h9
          case hq9 => intro t v h; split at h <;> simp_all
          case hu9 => intro t h; split at h <;> simp_all [undef]
          case hR9 =>
            intro t v w w' h1 h2 h3
            split at h1
            · obtain ⟨g, e, z1, z2, z3⟩ := h2
              exact ⟨g, e, Nat.lt_of_lt_of_le z1 h3.size, (h3.cell z1).trans z2, (h3.cell z1).trans z3⟩
            · obtain ⟨A, c, e, h⟩ := h2; exact ⟨A, c, e, h.ext h3⟩
            · trivial
          case h9 =>
            dsimp only [List.take, List.drop]
            repeat (first | (refine Flow.skip rfl ?_; simp only [Act.put, List.setIfInBounds_toArray, List.set_cons_zero, List.set_cons_succ]) | (refine Flow.use (.pointer (some ⟨D, 0, none⟩)) rfl rfl (fun wx hx hf => run_nilCheck _ ⟨D, 0, none⟩ rfl rfl) ?_; simp only [Act.put, List.setIfInBounds_toArray, List.set_cons_zero, List.set_cons_succ]) | (refine Flow.plain rfl rfl ?_; go_big_quiet_step (fail); refine wpQuiet_nil ?_))
            refine Flow.make 67 rfl rfl rfl ⟨.slice (some ⟨0, 0, none⟩) 2 2, 0, rfl⟩ (fun wx hx hf => ⟨.slice (some ⟨wx.heap.size, 0, none⟩) 2 2, wx.alloc (.cells #[.slice (some ⟨gx, 0, none⟩) nn cx, (.slice (some ⟨gz, 0, none⟩) (N - nn) 0)] 24), by kernel_rfl, (Ext.refl wx).alloc _, ⟨_, rfl⟩, ⟨_, rfl, by simp, by simp [go_sem], by simp [go_sem]⟩⟩) ?_
            rintro _ ⟨g5, rfl⟩
            simp only [Act.put, List.setIfInBounds_toArray, List.set_cons_zero, List.set_cons_succ]
            refine Flow.call Try.call39 [.slice (some ⟨g5, 0, none⟩) 2 2] rfl rfl rfl ?_ (fun wx hx hf => ?_) ?_
            · exact ⟨_, none, 0, rfl⟩
            · obtain ⟨g6, e6, z1, z2, z3⟩ := hf.at 67 (by kernel_rfl) ⟨g5, rfl⟩
              have e7 : (Value.slice (some ⟨g5, 0, none⟩) 2 2) = .slice (some ⟨g6, 0, none⟩) 2 2 := e6
              simp only [Value.slice.injEq, Option.some.injEq, Addr.mk.injEq, and_true] at e7
              subst e7
              have hE0 : Ext wr wx := EBH.out.trans hx
              have hx1 : Bytes wx (.slice (some ⟨gx, 0, none⟩) nn cx) (bx.take nn) := ((OX.out.bytes.ext hE0).take nn (by rw [HBX.out]; exact hnn)).cap cx (by rw [List.length_take]; exact Nat.le_trans (Nat.min_le_left _ _) hnc1) hcx' (by simp)
              refine (concat2 g5 wx _ _ nn (N - nn) cx 0 (bx.take nn) (bz.drop nn) z2 z3 z1 hx1 (HTA.out wx hE0 hcn) (by omega) (by omega) (by omega)).mono ?_
              rintro e w' ⟨A, n9, cap, he, hO, hE⟩
              have hn9 := hO.1
              have : (bx.take nn ++ bz.drop nn).length = N := by rw [List.length_append, List.length_take, List.length_drop, HBX.out, HBZ.out]; omega
              rw [this] at hn9
              subst hn9
              exact ⟨_, he, hE, ⟨_, _, rfl⟩, ⟨_, _, rfl, hO.mono (Nat.le_trans (Nat.le_trans hbase HST.out.2.2.size) hE0.size)⟩⟩
            rintro v ⟨A, cap, rfl⟩
            simp only [Act.put, List.setIfInBounds_toArray, List.set_cons_zero, List.set_cons_succ]
            repeat (first | (refine Flow.skip rfl ?_; simp only [Act.put, List.setIfInBounds_toArray, List.set_cons_zero, List.set_cons_succ]) | (refine Flow.use (.pointer (some ⟨D, 0, none⟩)) rfl rfl (fun wx hx hf => run_nilCheck _ ⟨D, 0, none⟩ rfl rfl) ?_; simp only [Act.put, List.setIfInBounds_toArray, List.set_cons_zero, List.set_cons_succ]) | (refine Flow.plain rfl rfl ?_; go_big_quiet_step (fail); refine wpQuiet_nil ?_))
            refine Flow.nil fun w6 hx6 hf => ?_
            obtain ⟨A9, c9, e9, hO9⟩ := hf 68 (by simp) ⟨A, cap, rfl⟩
            have e10 : (Value.slice A N cap) = .slice A9 N c9 := e9
            simp only [Value.slice.injEq, true_and] at e10
            obtain ⟨rfl, rfl⟩ := e10
            have hE6 := EBH.out.trans hx6
            have HD6 := HST.out.1.ext hE6
            have hNB : (bx.take nn ++ bz.drop nn).length = N := by rw [List.length_append, List.length_take, List.length_drop, HBX.out, HBZ.out]; omega
            have hsec : SecOk base w6 (A, cap, bx.take nn ++ bz.drop nn) := by
              unfold SecOk
              simp only [hNB]
              exact hO9
            obtain ⟨g8, eg8, hsm, hfz8, HL, HKL⟩ := lay_mem (i := i) HD6 (by simp only [HNN.out]; omega) hsec
            simp only [Option.some.injEq, Addr.mk.injEq, and_true] at eg8
            subst eg8
            obtain ⟨u0, hu0⟩ := Option.isSome_iff_exists.1 hsm
            have hgs6 : gs < w6.heap.size := Nat.lt_of_lt_of_le hgs hE6.size
            unfold secV at HL HKL
            simp only [hNB] at HL HKL
            have HX := Lib.hid (And.intro HL ((HST.out.2.2.tch (Keep.ofExt hE6 _)).tch HKL))
            have HBY : Hid ((safe'.set i (A, cap, bx.take nn ++ bz.drop nn)).map (·.2.2) = crB f S.bytes (S.wbytes.take (k + 1)) 0) := Lib.hid (by
              have hk1 : k < S.wbytes.length := by unfold DS.wbytes; rw [List.length_map]; have := HM.out; omega
              have hwk : S.wbytes[k] = (i, bx) := by simp only [DS.wbytes, List.getElem_map]; rw [HWK.out]
              rw [List.take_succ_eq_append_getElem hk1, hwk, crB_snoc, List.map_set, HST.out.2.1]
              have hl9 : (S.wbytes.take k).length = k := by rw [List.length_take]; omega
              simp only [hl9, Nat.zero_add, HNF.out]
              congr 2
              rw [← HST.out.2.1, HZ.out])
            clear hf hx6 hE6 HD6 hNB hsec HL HKL hsm k0 k1 k2 k3
            go_wp2
            obtain ⟨wn, hwn⟩ : ∃ wn, w6.setCell ⟨gs, i, none⟩ (.slice A N cap) = wn := ⟨_, rfl⟩
            rw [hwn] at HX ⊢
            go_wp2
            go_roundw
            case rel => exact ⟨k + 1, _, by omega, by go_num, Lib.hid ⟨HX.out.1, HBY.out, HX.out.2⟩⟩
            case measure => simp [intOf]; omega
        · have hnc : ¬ nn = cz := fun e => hcn e.symm
          go_wp2
          obtain ⟨wb, hwb⟩ : ∃ wb, wr.alloc (.cells #[.int .i64 (i : Int), .slice (some ⟨gx, 0, none⟩) N cx] 79) = wb := ⟨_, rfl⟩
          obtain ⟨q, hq⟩ : ∃ q, wr.heap.size = q := ⟨_, rfl⟩
          have EB : Ext wr wb := by rw [← hwb]; exact (Ext.refl wr).alloc _
          have b0 : wb.cell? ⟨q, 0, none⟩ = some (.int .i64 (i : Int)) := by rw [← hwb, ← hq]; simp [go_sem]
          have b1 : wb.cell? ⟨q, 1, none⟩ = some (.slice (some ⟨gx, 0, none⟩) N cx) := by rw [← hwb, ← hq]; simp [go_sem]
          have hqs : q < wb.heap.size := by rw [← hwb, ← hq]; simp
          rw [hwb, hq]
          have hyy : ∀ g, Ext wb (wb.ext g) := fun g => ⟨g, rfl⟩
          have k0 := fun g => ((hyy g).cell hqs).trans b0
          have k1 := fun g => ((hyy g).cell hqs).trans b1
          have k2 := fun g => ((EB.trans (hyy g)).cell hDl).trans c0
          have k3 := fun g => ((EB.trans (hyy g)).cell hgs).trans s0
          have EBH := Lib.hid EB
          clear hwb hq hyy b0 b1 EB hqs
          refine region_flow 23 [67, 68] (fun t v => match t with | 67 => ∃ g, v = .slice (some ⟨g, 0, none⟩) 2 2 | 68 => ∃ A c, v = .slice A N c | _ => False) (fun t v w' => match t with | 67 => ∃ g, v = .slice (some ⟨g, 0, none⟩) 2 2 ∧ g < w'.heap.size ∧ w'.cell? ⟨g, 0, none⟩ = some (.slice (some ⟨gx, 0, none⟩) nn cx) ∧ w'.cell? ⟨g, 1, none⟩ = some ((.slice (some ⟨gz, nn, none⟩) (N - nn) (cz - nn))) | 68 => ∃ A c, v = .slice A N c ∧ Own base w' A N c (bx.take nn ++ bz.drop nn) | _ => True) (by kernel_rfl) (by kernel_rfl) ?hq9 ?hu9 ?hR9 ?h9
          case hq9 => intro t v h; split at h <;> simp_all
          case hu9 => intro t h; split at h <;> simp_all [undef]
          case hR9 =>
            intro t v w w' h1 h2 h3
            split at h1
            · obtain ⟨g, e, z1, z2, z3⟩ := h2
              exact ⟨g, e, Nat.lt_of_lt_of_le z1 h3.size, (h3.cell z1).trans z2, (h3.cell z1).trans z3⟩
            · obtain ⟨A, c, e, h⟩ := h2; exact ⟨A, c, e, h.ext h3⟩
            · trivial
          case h9 =>
            dsimp only [List.take, List.drop]
            repeat (first | (refine Flow.skip rfl ?_; simp only [Act.put, List.setIfInBounds_toArray, List.set_cons_zero, List.set_cons_succ]) | (refine Flow.use (.pointer (some ⟨D, 0, none⟩)) rfl rfl (fun wx hx hf => run_nilCheck _ ⟨D, 0, none⟩ rfl rfl) ?_; simp only [Act.put, List.setIfInBounds_toArray, List.set_cons_zero, List.set_cons_succ]) | (refine Flow.plain rfl rfl ?_; go_big_quiet_step (fail); refine wpQuiet_nil ?_))
            refine Flow.make 67 rfl rfl rfl ⟨.slice (some ⟨0, 0, none⟩) 2 2, 0, rfl⟩ (fun wx hx hf => ⟨.slice (some ⟨wx.heap.size, 0, none⟩) 2 2, wx.alloc (.cells #[.slice (some ⟨gx, 0, none⟩) nn cx, (.slice (some ⟨gz, nn, none⟩) (N - nn) (cz - nn))] 24), by kernel_rfl, (Ext.refl wx).alloc _, ⟨_, rfl⟩, ⟨_, rfl, by simp, by simp [go_sem], by simp [go_sem]⟩⟩) ?_
            rintro _ ⟨g5, rfl⟩
            simp only [Act.put, List.setIfInBounds_toArray, List.set_cons_zero, List.set_cons_succ]
            refine Flow.call Try.call39 [.slice (some ⟨g5, 0, none⟩) 2 2] rfl rfl rfl ?_ (fun wx hx hf => ?_) ?_
            · exact ⟨_, none, 0, rfl⟩
            · obtain ⟨g6, e6, z1, z2, z3⟩ := hf.at 67 (by kernel_rfl) ⟨g5, rfl⟩
              have e7 : (Value.slice (some ⟨g5, 0, none⟩) 2 2) = .slice (some ⟨g6, 0, none⟩) 2 2 := e6
              simp only [Value.slice.injEq, Option.some.injEq, Addr.mk.injEq, and_true] at e7
              subst e7
              have hE0 : Ext wr wx := EBH.out.trans hx
              have hx1 : Bytes wx (.slice (some ⟨gx, 0, none⟩) nn cx) (bx.take nn) := ((OX.out.bytes.ext hE0).take nn (by rw [HBX.out]; exact hnn)).cap cx (by rw [List.length_take]; exact Nat.le_trans (Nat.min_le_left _ _) hnc1) hcx' (by simp)
              refine (concat2 g5 wx _ _ nn (N - nn) cx (cz - nn) (bx.take nn) (bz.drop nn) z2 z3 z1 hx1 (HTB.out wx hE0) (by omega) (by omega) (by omega)).mono ?_
              rintro e w' ⟨A, n9, cap, he, hO, hE⟩
              have hn9 := hO.1
              have : (bx.take nn ++ bz.drop nn).length = N := by rw [List.length_append, List.length_take, List.length_drop, HBX.out, HBZ.out]; omega
              rw [this] at hn9
              subst hn9
              exact ⟨_, he, hE, ⟨_, _, rfl⟩, ⟨_, _, rfl, hO.mono (Nat.le_trans (Nat.le_trans hbase HST.out.2.2.size) hE0.size)⟩⟩
            rintro v ⟨A, cap, rfl⟩
            simp only [Act.put, List.setIfInBounds_toArray, List.set_cons_zero, List.set_cons_succ]
            repeat (first | (refine Flow.skip rfl ?_; simp only [Act.put, List.setIfInBounds_toArray, List.set_cons_zero, List.set_cons_succ]) | (refine Flow.use (.pointer (some ⟨D, 0, none⟩)) rfl rfl (fun wx hx hf => run_nilCheck _ ⟨D, 0, none⟩ rfl rfl) ?_; simp only [Act.put, List.setIfInBounds_toArray, List.set_cons_zero, List.set_cons_succ]) | (refine Flow.plain rfl rfl ?_; go_big_quiet_step (fail); refine wpQuiet_nil ?_))
            refine Flow.nil fun w6 hx6 hf => ?_
            obtain ⟨A9, c9, e9, hO9⟩ := hf 68 (by simp) ⟨A, cap, rfl⟩
            have e10 : (Value.slice A N cap) = .slice A9 N c9 := e9
            simp only [Value.slice.injEq, true_and] at e10
            obtain ⟨rfl, rfl⟩ := e10
            have hE6 := EBH.out.trans hx6
            have HD6 := HST.out.1.ext hE6
            have hNB : (bx.take nn ++ bz.drop nn).length = N := by rw [List.length_append, List.length_take, List.length_drop, HBX.out, HBZ.out]; omega
            have hsec : SecOk base w6 (A, cap, bx.take nn ++ bz.drop nn) := by
              unfold SecOk
              simp only [hNB]
              exact hO9
            obtain ⟨g8, eg8, hsm, hfz8, HL, HKL⟩ := lay_mem (i := i) HD6 (by simp only [HNN.out]; omega) hsec
            simp only [Option.some.injEq, Addr.mk.injEq, and_true] at eg8
            subst eg8
            obtain ⟨u0, hu0⟩ := Option.isSome_iff_exists.1 hsm
            have hgs6 : gs < w6.heap.size := Nat.lt_of_lt_of_le hgs hE6.size
            unfold secV at HL HKL
            simp only [hNB] at HL HKL
            have HX := Lib.hid (And.intro HL ((HST.out.2.2.tch (Keep.ofExt hE6 _)).tch HKL))
            have HBY : Hid ((safe'.set i (A, cap, bx.take nn ++ bz.drop nn)).map (·.2.2) = crB f S.bytes (S.wbytes.take (k + 1)) 0) := Lib.hid (by
              have hk1 : k < S.wbytes.length := by unfold DS.wbytes; rw [List.length_map]; have := HM.out; omega
              have hwk : S.wbytes[k] = (i, bx) := by simp only [DS.wbytes, List.getElem_map]; rw [HWK.out]
              rw [List.take_succ_eq_append_getElem hk1, hwk, crB_snoc, List.map_set, HST.out.2.1]
              have hl9 : (S.wbytes.take k).length = k := by rw [List.length_take]; omega
              simp only [hl9, Nat.zero_add, HNF.out]
              congr 2
              rw [← HST.out.2.1, HZ.out])
            clear hf hx6 hE6 HD6 hNB hsec HL HKL hsm k0 k1 k2 k3
            go_wp2
            obtain ⟨wn, hwn⟩ : ∃ wn, w6.setCell ⟨gs, i, none⟩ (.slice A N cap) = wn := ⟨_, rfl⟩
            rw [hwn] at HX ⊢
            go_wp2
            go_roundw
            case rel => exact ⟨k + 1, _, by omega, by go_num, Lib.hid ⟨HX.out.1, HBY.out, HX.out.2⟩⟩
            case measure => simp [intOf]; omega
      · have hb : ((k : Int) == torn) = false := by simpa using e1
        obtain ⟨KA', kc', ek, _, hkb⟩ := hKV.out
        simp only [Value.slice.injEq, true_and] at ek
        obtain ⟨rfl, rfl⟩ := ek
        obtain ⟨kb, ko, rfl, kb2, _, kcell⟩ := hkb (by omega)
        have kc0 := kcell k (by omega)
        rw [e3] at kc0
        clear kcell hkb
        have E4 := Lib.hid e4
        clear e1 e4
        by_cases hcn : cz = N
        · have hcn' := hcn
          go_wp2
          obtain ⟨wb, hwb⟩ : ∃ wb, wr.alloc (.cells #[.int .i64 (i : Int), .slice (some ⟨gx, 0, none⟩) N cx] 79) = wb := ⟨_, rfl⟩
          obtain ⟨q, hq⟩ : ∃ q, wr.heap.size = q := ⟨_, rfl⟩
          have EB : Ext wr wb := by rw [← hwb]; exact (Ext.refl wr).alloc _
          have b0 : wb.cell? ⟨q, 0, none⟩ = some (.int .i64 (i : Int)) := by rw [← hwb, ← hq]; simp [go_sem]
          have b1 : wb.cell? ⟨q, 1, none⟩ = some (.slice (some ⟨gx, 0, none⟩) N cx) := by rw [← hwb, ← hq]; simp [go_sem]
          have hqs : q < wb.heap.size := by rw [← hwb, ← hq]; simp
          rw [hwb, hq]
          have hyy : ∀ g, Ext wb (wb.ext g) := fun g => ⟨g, rfl⟩
          have k0 := fun g => ((hyy g).cell hqs).trans b0
          have k1 := fun g => ((hyy g).cell hqs).trans b1
          have k2 := fun g => ((EB.trans (hyy g)).cell hDl).trans c0
          have k3 := fun g => ((EB.trans (hyy g)).cell hgs).trans s0
          have EBH := Lib.hid EB
          clear hwb hq hyy b0 b1 EB hqs
          refine region_flow 23 [67, 68] (fun t v => match t with | 67 => ∃ g, v = .slice (some ⟨g, 0, none⟩) 2 2 | 68 => ∃ A c, v = .slice A N c | _ => False) (fun t v w' => match t with | 67 => ∃ g, v = .slice (some ⟨g, 0, none⟩) 2 2 ∧ g < w'.heap.size ∧ w'.cell? ⟨g, 0, none⟩ = some (.slice (some ⟨gx, 0, none⟩) N cx) ∧ w'.cell? ⟨g, 1, none⟩ = some ((.slice (some ⟨gz, 0, none⟩) 0 0)) | 68 => ∃ A c, v = .slice A N c ∧ Own base w' A N c (bx.take nn ++ bz.drop nn) | _ => True) (by kernel_rfl) (by kernel_rfl) ?hq9 ?hu9 ?hR9 ?h9
          case hq9 => intro t v h; split at h <;> simp_all
          case hu9 => intro t h; split at h <;> simp_all [undef]
          case hR9 =>
            intro t v w w' h1 h2 h3
            split at h1
            · obtain ⟨g, e, z1, z2, z3⟩ := h2
              exact ⟨g, e, Nat.lt_of_lt_of_le z1 h3.size, (h3.cell z1).trans z2, (h3.cell z1).trans z3⟩
            · obtain ⟨A, c, e, h⟩ := h2; exact ⟨A, c, e, h.ext h3⟩
            · trivial
          case h9 =>
            dsimp only [List.take, List.drop]
            repeat (first | (refine Flow.skip rfl ?_; simp only [Act.put, List.setIfInBounds_toArray, List.set_cons_zero, List.set_cons_succ]) | (refine Flow.use (.pointer (some ⟨D, 0, none⟩)) rfl rfl (fun wx hx hf => run_nilCheck _ ⟨D, 0, none⟩ rfl rfl) ?_; simp only [Act.put, List.setIfInBounds_toArray, List.set_cons_zero, List.set_cons_succ]) | (refine Flow.plain rfl rfl ?_; go_big_quiet_step (fail); refine wpQuiet_nil ?_))
            refine Flow.make 67 rfl rfl rfl ⟨.slice (some ⟨0, 0, none⟩) 2 2, 0, rfl⟩ (fun wx hx hf => ⟨.slice (some ⟨wx.heap.size, 0, none⟩) 2 2, wx.alloc (.cells #[.slice (some ⟨gx, 0, none⟩) N cx, (.slice (some ⟨gz, 0, none⟩) 0 0)] 24), by kernel_rfl, (Ext.refl wx).alloc _, ⟨_, rfl⟩, ⟨_, rfl, by simp, by simp [go_sem], by simp [go_sem]⟩⟩) ?_
            rintro _ ⟨g5, rfl⟩
            simp only [Act.put, List.setIfInBounds_toArray, List.set_cons_zero, List.set_cons_succ]
            refine Flow.call Try.call39 [.slice (some ⟨g5, 0, none⟩) 2 2] rfl rfl rfl ?_ (fun wx hx hf => ?_) ?_
            · exact ⟨_, none, 0, rfl⟩
            · obtain ⟨g6, e6, z1, z2, z3⟩ := hf.at 67 (by kernel_rfl) ⟨g5, rfl⟩
              have e7 : (Value.slice (some ⟨g5, 0, none⟩) 2 2) = .slice (some ⟨g6, 0, none⟩) 2 2 := e6
              simp only [Value.slice.injEq, Option.some.injEq, Addr.mk.injEq, and_true] at e7
              subst e7
              have hE0 : Ext wr wx := EBH.out.trans hx
              have hx0 : ∀ n', n' = nn → Bytes wx (.slice (some ⟨gx, 0, none⟩) n' cx) (bx.take nn) := by
                intro n' hn'
                rw [hn']
                exact ((OX.out.bytes.ext hE0).take nn (by rw [HBX.out]; exact hnn)).cap cx (by rw [List.length_take]; exact Nat.le_trans (Nat.min_le_left _ _) hnc1) hcx' (by simp)
              have hx1 := hx0 (N) E4.out.symm
              have hx2 : ∀ a' b' c', a' = 0 → b' = N - nn → c' = 0 → Bytes wx (.slice (some ⟨gz, a', none⟩) b' c') (bz.drop nn) := by
                intro a' b' c' ha hb' hc'
                rw [ha, hb', hc']
                exact HTA.out wx hE0 (by have := E4.out; omega)
              have hx3 := hx2 (0) (0) (0) (by have := E4.out; omega) (by have := E4.out; omega) (by have := E4.out; omega)
              refine (concat2 g5 wx _ _ (N) (0) cx (0) (bx.take nn) (bz.drop nn) z2 z3 z1 hx1 hx3 (by omega) (by omega) (by omega)).mono ?_
              rintro e w' ⟨A, n9, cap, he, hO, hE⟩
              have hn9 := hO.1
              have : (bx.take nn ++ bz.drop nn).length = N := by rw [List.length_append, List.length_take, List.length_drop, HBX.out, HBZ.out]; omega
              rw [this] at hn9
              subst hn9
              exact ⟨_, he, hE, ⟨_, _, rfl⟩, ⟨_, _, rfl, hO.mono (Nat.le_trans (Nat.le_trans hbase HST.out.2.2.size) hE0.size)⟩⟩
            rintro v ⟨A, cap, rfl⟩
            simp only [Act.put, List.setIfInBounds_toArray, List.set_cons_zero, List.set_cons_succ]
            repeat (first | (refine Flow.skip rfl ?_; simp only [Act.put, List.setIfInBounds_toArray, List.set_cons_zero, List.set_cons_succ]) | (refine Flow.use (.pointer (some ⟨D, 0, none⟩)) rfl rfl (fun wx hx hf => run_nilCheck _ ⟨D, 0, none⟩ rfl rfl) ?_; simp only [Act.put, List.setIfInBounds_toArray, List.set_cons_zero, List.set_cons_succ]) | (refine Flow.plain rfl rfl ?_; go_big_quiet_step (fail); refine wpQuiet_nil ?_))
            refine Flow.nil fun w6 hx6 hf => ?_
            obtain ⟨A9, c9, e9, hO9⟩ := hf 68 (by simp) ⟨A, cap, rfl⟩
            have e10 : (Value.slice A N cap) = .slice A9 N c9 := e9
            simp only [Value.slice.injEq, true_and] at e10
            obtain ⟨rfl, rfl⟩ := e10
            have hE6 := EBH.out.trans hx6
            have HD6 := HST.out.1.ext hE6
            have hNB : (bx.take nn ++ bz.drop nn).length = N := by rw [List.length_append, List.length_take, List.length_drop, HBX.out, HBZ.out]; omega
            have hsec : SecOk base w6 (A, cap, bx.take nn ++ bz.drop nn) := by
              unfold SecOk
              simp only [hNB]
              exact hO9
            obtain ⟨g8, eg8, hsm, hfz8, HL, HKL⟩ := lay_mem (i := i) HD6 (by simp only [HNN.out]; omega) hsec
            simp only [Option.some.injEq, Addr.mk.injEq, and_true] at eg8
            subst eg8
            obtain ⟨u0, hu0⟩ := Option.isSome_iff_exists.1 hsm
            have hgs6 : gs < w6.heap.size := Nat.lt_of_lt_of_le hgs hE6.size
            unfold secV at HL HKL
            simp only [hNB] at HL HKL
            have HX := Lib.hid (And.intro HL ((HST.out.2.2.tch (Keep.ofExt hE6 _)).tch HKL))
            have HBY : Hid ((safe'.set i (A, cap, bx.take nn ++ bz.drop nn)).map (·.2.2) = crB f S.bytes (S.wbytes.take (k + 1)) 0) := Lib.hid (by
              have hk1 : k < S.wbytes.length := by unfold DS.wbytes; rw [List.length_map]; have := HM.out; omega
              have hwk : S.wbytes[k] = (i, bx) := by simp only [DS.wbytes, List.getElem_map]; rw [HWK.out]
              rw [List.take_succ_eq_append_getElem hk1, hwk, crB_snoc, List.map_set, HST.out.2.1]
              have hl9 : (S.wbytes.take k).length = k := by rw [List.length_take]; omega
              simp only [hl9, Nat.zero_add, HNF.out]
              congr 2
              rw [← HST.out.2.1, HZ.out])
            clear hf hx6 hE6 HD6 hNB hsec HL HKL hsm k0 k1 k2 k3
            go_wp2
            obtain ⟨wn, hwn⟩ : ∃ wn, w6.setCell ⟨gs, i, none⟩ (.slice A N cap) = wn := ⟨_, rfl⟩
            rw [hwn] at HX ⊢
            go_wp2
            go_roundw
            case rel => exact ⟨k + 1, _, by omega, by go_num, Lib.hid ⟨HX.out.1, HBY.out, HX.out.2⟩⟩
            case measure => simp [intOf]; omega
        · have hnc : ¬ N = cz := fun e => hcn e.symm
          go_wp2
          obtain ⟨wb, hwb⟩ : ∃ wb, wr.alloc (.cells #[.int .i64 (i : Int), .slice (some ⟨gx, 0, none⟩) N cx] 79) = wb := ⟨_, rfl⟩
          obtain ⟨q, hq⟩ : ∃ q, wr.heap.size = q := ⟨_, rfl⟩
          have EB : Ext wr wb := by rw [← hwb]; exact (Ext.refl wr).alloc _
          have b0 : wb.cell? ⟨q, 0, none⟩ = some (.int .i64 (i : Int)) := by rw [← hwb, ← hq]; simp [go_sem]
          have b1 : wb.cell? ⟨q, 1, none⟩ = some (.slice (some ⟨gx, 0, none⟩) N cx) := by rw [← hwb, ← hq]; simp [go_sem]
          have hqs : q < wb.heap.size := by rw [← hwb, ← hq]; simp
          rw [hwb, hq]
          have hyy : ∀ g, Ext wb (wb.ext g) := fun g => ⟨g, rfl⟩
          have k0 := fun g => ((hyy g).cell hqs).trans b0
          have k1 := fun g => ((hyy g).cell hqs).trans b1
          have k2 := fun g => ((EB.trans (hyy g)).cell hDl).trans c0
          have k3 := fun g => ((EB.trans (hyy g)).cell hgs).trans s0
          have EBH := Lib.hid EB
          clear hwb hq hyy b0 b1 EB hqs
          refine region_flow 23 [67, 68] (fun t v => match t with | 67 => ∃ g, v = .slice (some ⟨g, 0, none⟩) 2 2 | 68 => ∃ A c, v = .slice A N c | _ => False) (fun t v w' => match t with | 67 => ∃ g, v = .slice (some ⟨g, 0, none⟩) 2 2 ∧ g < w'.heap.size ∧ w'.cell? ⟨g, 0, none⟩ = some (.slice (some ⟨gx, 0, none⟩) N cx) ∧ w'.cell? ⟨g, 1, none⟩ = some ((.slice (some ⟨gz, N, none⟩) 0 (cz - N))) | 68 => ∃ A c, v = .slice A N c ∧ Own base w' A N c (bx.take nn ++ bz.drop nn) | _ => True) (by kernel_rfl) (by kernel_rfl) ?hq9 ?hu9 ?hR9 ?h9
          case hq9 => intro t v h; split at h <;> simp_all
          case hu9 => intro t h; split at h <;> simp_all [undef]
          case hR9 =>
            intro t v w w' h1 h2 h3
            split at h1
            · obtain ⟨g, e, z1, z2, z3⟩ := h2
              exact ⟨g, e, Nat.lt_of_lt_of_le z1 h3.size, (h3.cell z1).trans z2, (h3.cell z1).trans z3⟩
            · obtain ⟨A, c, e, h⟩ := h2; exact ⟨A, c, e, h.ext h3⟩
            · trivial
          case h9 =>
            dsimp only [List.take, List.drop]
            repeat (first | (refine Flow.skip rfl ?_; simp only [Act.put, List.setIfInBounds_toArray, List.set_cons_zero, List.set_cons_succ]) | (refine Flow.use (.pointer (some ⟨D, 0, none⟩)) rfl rfl (fun wx hx hf => run_nilCheck _ ⟨D, 0, none⟩ rfl rfl) ?_; simp only [Act.put, List.setIfInBounds_toArray, List.set_cons_zero, List.set_cons_succ]) | (refine Flow.plain rfl rfl ?_; go_big_quiet_step (fail); refine wpQuiet_nil ?_))
            refine Flow.make 67 rfl rfl rfl ⟨.slice (some ⟨0, 0, none⟩) 2 2, 0, rfl⟩ (fun wx hx hf => ⟨.slice (some ⟨wx.heap.size, 0, none⟩) 2 2, wx.alloc (.cells #[.slice (some ⟨gx, 0, none⟩) N cx, (.slice (some ⟨gz, N, none⟩) 0 (cz - N))] 24), by kernel_rfl, (Ext.refl wx).alloc _, ⟨_, rfl⟩, ⟨_, rfl, by simp, by simp [go_sem], by simp [go_sem]⟩⟩) ?_
            rintro _ ⟨g5, rfl⟩
            simp only [Act.put, List.setIfInBounds_toArray, List.set_cons_zero, List.set_cons_succ]
            refine Flow.call Try.call39 [.slice (some ⟨g5, 0, none⟩) 2 2] rfl rfl rfl ?_ (fun wx hx hf => ?_) ?_
            · exact ⟨_, none, 0, rfl⟩
            · obtain ⟨g6, e6, z1, z2, z3⟩ := hf.at 67 (by kernel_rfl) ⟨g5, rfl⟩
              have e7 : (Value.slice (some ⟨g5, 0, none⟩) 2 2) = .slice (some ⟨g6, 0, none⟩) 2 2 := e6
              simp only [Value.slice.injEq, Option.some.injEq, Addr.mk.injEq, and_true] at e7
              subst e7
              have hE0 : Ext wr wx := EBH.out.trans hx
              have hx0 : ∀ n', n' = nn → Bytes wx (.slice (some ⟨gx, 0, none⟩) n' cx) (bx.take nn) := by
                intro n' hn'
                rw [hn']
                exact ((OX.out.bytes.ext hE0).take nn (by rw [HBX.out]; exact hnn)).cap cx (by rw [List.length_take]; exact Nat.le_trans (Nat.min_le_left _ _) hnc1) hcx' (by simp)
              have hx1 := hx0 (N) E4.out.symm
              have hx2 : ∀ a' b' c', a' = nn → b' = N - nn → c' = cz - nn → Bytes wx (.slice (some ⟨gz, a', none⟩) b' c') (bz.drop nn) := by
                intro a' b' c' ha hb' hc'
                rw [ha, hb', hc']
                exact HTB.out wx hE0
              have hx3 := hx2 (N) (0) ((cz - N)) (by have := E4.out; omega) (by have := E4.out; omega) (by have := E4.out; omega)
              refine (concat2 g5 wx _ _ (N) (0) cx ((cz - N)) (bx.take nn) (bz.drop nn) z2 z3 z1 hx1 hx3 (by omega) (by omega) (by omega)).mono ?_
              rintro e w' ⟨A, n9, cap, he, hO, hE⟩
              have hn9 := hO.1
              have : (bx.take nn ++ bz.drop nn).length = N := by rw [List.length_append, List.length_take, List.length_drop, HBX.out, HBZ.out]; omega
              rw [this] at hn9
              subst hn9
              exact ⟨_, he, hE, ⟨_, _, rfl⟩, ⟨_, _, rfl, hO.mono (Nat.le_trans (Nat.le_trans hbase HST.out.2.2.size) hE0.size)⟩⟩
            rintro v ⟨A, cap, rfl⟩
            simp only [Act.put, List.setIfInBounds_toArray, List.set_cons_zero, List.set_cons_succ]
            repeat (first | (refine Flow.skip rfl ?_; simp only [Act.put, List.setIfInBounds_toArray, List.set_cons_zero, List.set_cons_succ]) | (refine Flow.use (.pointer (some ⟨D, 0, none⟩)) rfl rfl (fun wx hx hf => run_nilCheck _ ⟨D, 0, none⟩ rfl rfl) ?_; simp only [Act.put, List.setIfInBounds_toArray, List.set_cons_zero, List.set_cons_succ]) | (refine Flow.plain rfl rfl ?_; go_big_quiet_step (fail); refine wpQuiet_nil ?_))
            refine Flow.nil fun w6 hx6 hf => ?_
            obtain ⟨A9, c9, e9, hO9⟩ := hf 68 (by simp) ⟨A, cap, rfl⟩
            have e10 : (Value.slice A N cap) = .slice A9 N c9 := e9
            simp only [Value.slice.injEq, true_and] at e10
            obtain ⟨rfl, rfl⟩ := e10
            have hE6 := EBH.out.trans hx6
            have HD6 := HST.out.1.ext hE6
            have hNB : (bx.take nn ++ bz.drop nn).length = N := by rw [List.length_append, List.length_take, List.length_drop, HBX.out, HBZ.out]; omega
            have hsec : SecOk base w6 (A, cap, bx.take nn ++ bz.drop nn) := by
              unfold SecOk
              simp only [hNB]
              exact hO9
            obtain ⟨g8, eg8, hsm, hfz8, HL, HKL⟩ := lay_mem (i := i) HD6 (by simp only [HNN.out]; omega) hsec
            simp only [Option.some.injEq, Addr.mk.injEq, and_true] at eg8
            subst eg8
            obtain ⟨u0, hu0⟩ := Option.isSome_iff_exists.1 hsm
            have hgs6 : gs < w6.heap.size := Nat.lt_of_lt_of_le hgs hE6.size
            unfold secV at HL HKL
            simp only [hNB] at HL HKL
            have HX := Lib.hid (And.intro HL ((HST.out.2.2.tch (Keep.ofExt hE6 _)).tch HKL))
            have HBY : Hid ((safe'.set i (A, cap, bx.take nn ++ bz.drop nn)).map (·.2.2) = crB f S.bytes (S.wbytes.take (k + 1)) 0) := Lib.hid (by
              have hk1 : k < S.wbytes.length := by unfold DS.wbytes; rw [List.length_map]; have := HM.out; omega
              have hwk : S.wbytes[k] = (i, bx) := by simp only [DS.wbytes, List.getElem_map]; rw [HWK.out]
              rw [List.take_succ_eq_append_getElem hk1, hwk, crB_snoc, List.map_set, HST.out.2.1]
              have hl9 : (S.wbytes.take k).length = k := by rw [List.length_take]; omega
              simp only [hl9, Nat.zero_add, HNF.out]
              congr 2
              rw [← HST.out.2.1, HZ.out])
            clear hf hx6 hE6 HD6 hNB hsec HL HKL hsm k0 k1 k2 k3
            go_wp2
            obtain ⟨wn, hwn⟩ : ∃ wn, w6.setCell ⟨gs, i, none⟩ (.slice A N cap) = wn := ⟨_, rfl⟩
            rw [hwn] at HX ⊢
            go_wp2
            go_roundw
            case rel => exact ⟨k + 1, _, by omega, by go_num, Lib.hid ⟨HX.out.1, HBY.out, HX.out.2⟩⟩
            case measure => simp [intOf]; omega
      · have hb : ((k : Int) == torn) = false := by simpa using e1
        obtain ⟨KA', kc', ek, _, hkb⟩ := hKV.out
        simp only [Value.slice.injEq, true_and] at ek
        obtain ⟨rfl, rfl⟩ := ek
        obtain ⟨kb, ko, rfl, kb2, _, kcell⟩ := hkb (by omega)
        have kc0 := kcell k (by omega)
        rw [e3] at kc0
        clear kcell hkb
        have E4 := Lib.hid e4
        have hnc : ¬ cz = 0 := by omega
        have hnc2 : ¬ 0 = cz := by omega
        clear e1 e4
        go_wp2
        obtain ⟨wb, hwb⟩ : ∃ wb, wr.alloc (.cells #[.int .i64 (i : Int), .slice (some ⟨gx, 0, none⟩) N cx] 79) = wb := ⟨_, rfl⟩
        obtain ⟨q, hq⟩ : ∃ q, wr.heap.size = q := ⟨_, rfl⟩
        have EB : Ext wr wb := by rw [← hwb]; exact (Ext.refl wr).alloc _
        have b0 : wb.cell? ⟨q, 0, none⟩ = some (.int .i64 (i : Int)) := by rw [← hwb, ← hq]; simp [go_sem]
        have b1 : wb.cell? ⟨q, 1, none⟩ = some (.slice (some ⟨gx, 0, none⟩) N cx) := by rw [← hwb, ← hq]; simp [go_sem]
        have hqs : q < wb.heap.size := by rw [← hwb, ← hq]; simp
        rw [hwb, hq]
        have hyy : ∀ g, Ext wb (wb.ext g) := fun g => ⟨g, rfl⟩
        have k0 := fun g => ((hyy g).cell hqs).trans b0
        have k1 := fun g => ((hyy g).cell hqs).trans b1
        have k2 := fun g => ((EB.trans (hyy g)).cell hDl).trans c0
        have k3 := fun g => ((EB.trans (hyy g)).cell hgs).trans s0
        have EBH := Lib.hid EB
        clear hwb hq hyy b0 b1 EB hqs
        refine region_flow 23 [67, 68] (fun t v => match t with | 67 => ∃ g, v = .slice (some ⟨g, 0, none⟩) 2 2 | 68 => ∃ A c, v = .slice A N c | _ => False) (fun t v w' => match t with | 67 => ∃ g, v = .slice (some ⟨g, 0, none⟩) 2 2 ∧ g < w'.heap.size ∧ w'.cell? ⟨g, 0, none⟩ = some (.slice (some ⟨gx, 0, none⟩) 0 cx) ∧ w'.cell? ⟨g, 1, none⟩ = some ((.slice (some ⟨gz, 0, none⟩) N cz)) | 68 => ∃ A c, v = .slice A N c ∧ Own base w' A N c (bx.take nn ++ bz.drop nn) | _ => True) (by kernel_rfl) (by kernel_rfl) ?hq9 ?hu9 ?hR9 ?h9
        case hq9 => intro t v h; split at h <;> simp_all
        case hu9 => intro t h; split at h <;> simp_all [undef]
        case hR9 =>
          intro t v w w' h1 h2 h3
          split at h1
          · obtain ⟨g, e, z1, z2, z3⟩ := h2
            exact ⟨g, e, Nat.lt_of_lt_of_le z1 h3.size, (h3.cell z1).trans z2, (h3.cell z1).trans z3⟩
          · obtain ⟨A, c, e, h⟩ := h2; exact ⟨A, c, e, h.ext h3⟩
          · trivial
        case h9 =>
          dsimp only [List.take, List.drop]
          repeat (first | (refine Flow.skip rfl ?_; simp only [Act.put, List.setIfInBounds_toArray, List.set_cons_zero, List.set_cons_succ]) | (refine Flow.use (.pointer (some ⟨D, 0, none⟩)) rfl rfl (fun wx hx hf => run_nilCheck _ ⟨D, 0, none⟩ rfl rfl) ?_; simp only [Act.put, List.setIfInBounds_toArray, List.set_cons_zero, List.set_cons_succ]) | (refine Flow.plain rfl rfl ?_; go_big_quiet_step (fail); refine wpQuiet_nil ?_))
          refine Flow.make 67 rfl rfl rfl ⟨.slice (some ⟨0, 0, none⟩) 2 2, 0, rfl⟩ (fun wx hx hf => ⟨.slice (some ⟨wx.heap.size, 0, none⟩) 2 2, wx.alloc (.cells #[.slice (some ⟨gx, 0, none⟩) 0 cx, (.slice (some ⟨gz, 0, none⟩) N cz)] 24), by kernel_rfl, (Ext.refl wx).alloc _, ⟨_, rfl⟩, ⟨_, rfl, by simp, by simp [go_sem], by simp [go_sem]⟩⟩) ?_
          rintro _ ⟨g5, rfl⟩
          simp only [Act.put, List.setIfInBounds_toArray, List.set_cons_zero, List.set_cons_succ]
          refine Flow.call Try.call39 [.slice (some ⟨g5, 0, none⟩) 2 2] rfl rfl rfl ?_ (fun wx hx hf => ?_) ?_
          · exact ⟨_, none, 0, rfl⟩
          · obtain ⟨g6, e6, z1, z2, z3⟩ := hf.at 67 (by kernel_rfl) ⟨g5, rfl⟩
            have e7 : (Value.slice (some ⟨g5, 0, none⟩) 2 2) = .slice (some ⟨g6, 0, none⟩) 2 2 := e6
            simp only [Value.slice.injEq, Option.some.injEq, Addr.mk.injEq, and_true] at e7
            subst e7
            have hE0 : Ext wr wx := EBH.out.trans hx
            have hx0 : ∀ n', n' = nn → Bytes wx (.slice (some ⟨gx, 0, none⟩) n' cx) (bx.take nn) := by
              intro n' hn'
              rw [hn']
              exact ((OX.out.bytes.ext hE0).take nn (by rw [HBX.out]; exact hnn)).cap cx (by rw [List.length_take]; exact Nat.le_trans (Nat.min_le_left _ _) hnc1) hcx' (by simp)
            have hx1 := hx0 (0) E4.out.symm
            have hx2 : ∀ a' b' c', a' = nn → b' = N - nn → c' = cz - nn → Bytes wx (.slice (some ⟨gz, a', none⟩) b' c') (bz.drop nn) := by
              intro a' b' c' ha hb' hc'
              rw [ha, hb', hc']
              exact HTB.out wx hE0
            have hx3 := hx2 (0) (N) (cz) (by have := E4.out; omega) (by have := E4.out; omega) (by have := E4.out; omega)
            refine (concat2 g5 wx _ _ (0) (N) cx (cz) (bx.take nn) (bz.drop nn) z2 z3 z1 hx1 hx3 (by omega) (by omega) (by omega)).mono ?_
            rintro e w' ⟨A, n9, cap, he, hO, hE⟩
            have hn9 := hO.1
            have : (bx.take nn ++ bz.drop nn).length = N := by rw [List.length_append, List.length_take, List.length_drop, HBX.out, HBZ.out]; omega
            rw [this] at hn9
            subst hn9
            exact ⟨_, he, hE, ⟨_, _, rfl⟩, ⟨_, _, rfl, hO.mono (Nat.le_trans (Nat.le_trans hbase HST.out.2.2.size) hE0.size)⟩⟩
          rintro v ⟨A, cap, rfl⟩
          simp only [Act.put, List.setIfInBounds_toArray, List.set_cons_zero, List.set_cons_succ]
          repeat (first | (refine Flow.skip rfl ?_; simp only [Act.put, List.setIfInBounds_toArray, List.set_cons_zero, List.set_cons_succ]) | (refine Flow.use (.pointer (some ⟨D, 0, none⟩)) rfl rfl (fun wx hx hf => run_nilCheck _ ⟨D, 0, none⟩ rfl rfl) ?_; simp only [Act.put, List.setIfInBounds_toArray, List.set_cons_zero, List.set_cons_succ]) | (refine Flow.plain rfl rfl ?_; go_big_quiet_step (fail); refine wpQuiet_nil ?_))
          refine Flow.nil fun w6 hx6 hf => ?_
          obtain ⟨A9, c9, e9, hO9⟩ := hf 68 (by simp) ⟨A, cap, rfl⟩
          have e10 : (Value.slice A N cap) = .slice A9 N c9 := e9
          simp only [Value.slice.injEq, true_and] at e10
          obtain ⟨rfl, rfl⟩ := e10
          have hE6 := EBH.out.trans hx6
          have HD6 := HST.out.1.ext hE6
          have hNB : (bx.take nn ++ bz.drop nn).length = N := by rw [List.length_append, List.length_take, List.length_drop, HBX.out, HBZ.out]; omega
          have hsec : SecOk base w6 (A, cap, bx.take nn ++ bz.drop nn) := by
            unfold SecOk
            simp only [hNB]
            exact hO9
          obtain ⟨g8, eg8, hsm, hfz8, HL, HKL⟩ := lay_mem (i := i) HD6 (by simp only [HNN.out]; omega) hsec
          simp only [Option.some.injEq, Addr.mk.injEq, and_true] at eg8
          subst eg8
          obtain ⟨u0, hu0⟩ := Option.isSome_iff_exists.1 hsm
          have hgs6 : gs < w6.heap.size := Nat.lt_of_lt_of_le hgs hE6.size
          unfold secV at HL HKL
          simp only [hNB] at HL HKL
          have HX := Lib.hid (And.intro HL ((HST.out.2.2.tch (Keep.ofExt hE6 _)).tch HKL))
          have HBY : Hid ((safe'.set i (A, cap, bx.take nn ++ bz.drop nn)).map (·.2.2) = crB f S.bytes (S.wbytes.take (k + 1)) 0) := Lib.hid (by
            have hk1 : k < S.wbytes.length := by unfold DS.wbytes; rw [List.length_map]; have := HM.out; omega
            have hwk : S.wbytes[k] = (i, bx) := by simp only [DS.wbytes, List.getElem_map]; rw [HWK.out]
            rw [List.take_succ_eq_append_getElem hk1, hwk, crB_snoc, List.map_set, HST.out.2.1]
            have hl9 : (S.wbytes.take k).length = k := by rw [List.length_take]; omega
            simp only [hl9, Nat.zero_add, HNF.out]
            congr 2
            rw [← HST.out.2.1, HZ.out])
          clear hf hx6 hE6 HD6 hNB hsec HL HKL hsm k0 k1 k2 k3
          go_wp2
          obtain ⟨wn, hwn⟩ : ∃ wn, w6.setCell ⟨gs, i, none⟩ (.slice A N cap) = wn := ⟨_, rfl⟩
          rw [hwn] at HX ⊢
          go_wp2
          go_roundw
          case rel => exact ⟨k + 1, _, by omega, by go_num, Lib.hid ⟨HX.out.1, HBY.out, HX.out.2⟩⟩
          case measure => simp [intOf]; omega
      · have hb : ((k : Int) == torn) = false := by simpa using e1
        have E4 := Lib.hid e4
        have e2' : decide ((k : Int) < (kl.length : Int)) = false := by simp; omega
        have hnc : ¬ cz = 0 := by omega
        have hnc2 : ¬ 0 = cz := by omega
        clear e1 e4
        go_wp2
        obtain ⟨wb, hwb⟩ : ∃ wb, wr.alloc (.cells #[.int .i64 (i : Int), .slice (some ⟨gx, 0, none⟩) N cx] 79) = wb := ⟨_, rfl⟩
        obtain ⟨q, hq⟩ : ∃ q, wr.heap.size = q := ⟨_, rfl⟩
        have EB : Ext wr wb := by rw [← hwb]; exact (Ext.refl wr).alloc _
        have b0 : wb.cell? ⟨q, 0, none⟩ = some (.int .i64 (i : Int)) := by rw [← hwb, ← hq]; simp [go_sem]
        have b1 : wb.cell? ⟨q, 1, none⟩ = some (.slice (some ⟨gx, 0, none⟩) N cx) := by rw [← hwb, ← hq]; simp [go_sem]
        have hqs : q < wb.heap.size := by rw [← hwb, ← hq]; simp
        rw [hwb, hq]
        have hyy : ∀ g, Ext wb (wb.ext g) := fun g => ⟨g, rfl⟩
        have k0 := fun g => ((hyy g).cell hqs).trans b0
        have k1 := fun g => ((hyy g).cell hqs).trans b1
        have k2 := fun g => ((EB.trans (hyy g)).cell hDl).trans c0
        have k3 := fun g => ((EB.trans (hyy g)).cell hgs).trans s0
        have EBH := Lib.hid EB
        clear hwb hq hyy b0 b1 EB hqs
        refine region_flow 23 [67, 68] (fun t v => match t with | 67 => ∃ g, v = .slice (some ⟨g, 0, none⟩) 2 2 | 68 => ∃ A c, v = .slice A N c | _ => False) (fun t v w' => match t with | 67 => ∃ g, v = .slice (some ⟨g, 0, none⟩) 2 2 ∧ g < w'.heap.size ∧ w'.cell? ⟨g, 0, none⟩ = some (.slice (some ⟨gx, 0, none⟩) 0 cx) ∧ w'.cell? ⟨g, 1, none⟩ = some ((.slice (some ⟨gz, 0, none⟩) N cz)) | 68 => ∃ A c, v = .slice A N c ∧ Own base w' A N c (bx.take nn ++ bz.drop nn) | _ => True) (by kernel_rfl) (by kernel_rfl) ?hq9 ?hu9 ?hR9 ?h9
        case hq9 => intro t v h; split at h <;> simp_all
        case hu9 => intro t h; split at h <;> simp_all [undef]
        case hR9 =>
          intro t v w w' h1 h2 h3
          split at h1
          · obtain ⟨g, e, z1, z2, z3⟩ := h2
            exact ⟨g, e, Nat.lt_of_lt_of_le z1 h3.size, (h3.cell z1).trans z2, (h3.cell z1).trans z3⟩
          · obtain ⟨A, c, e, h⟩ := h2; exact ⟨A, c, e, h.ext h3⟩
          · trivial
        case h9 =>
          dsimp only [List.take, List.drop]
          repeat (first | (refine Flow.skip rfl ?_; simp only [Act.put, List.setIfInBounds_toArray, List.set_cons_zero, List.set_cons_succ]) | (refine Flow.use (.pointer (some ⟨D, 0, none⟩)) rfl rfl (fun wx hx hf => run_nilCheck _ ⟨D, 0, none⟩ rfl rfl) ?_; simp only [Act.put, List.setIfInBounds_toArray, List.set_cons_zero, List.set_cons_succ]) | (refine Flow.plain rfl rfl ?_; go_big_quiet_step (fail); refine wpQuiet_nil ?_))
          refine Flow.make 67 rfl rfl rfl ⟨.slice (some ⟨0, 0, none⟩) 2 2, 0, rfl⟩ (fun wx hx hf => ⟨.slice (some ⟨wx.heap.size, 0, none⟩) 2 2, wx.alloc (.cells #[.slice (some ⟨gx, 0, none⟩) 0 cx, (.slice (some ⟨gz, 0, none⟩) N cz)] 24), by kernel_rfl, (Ext.refl wx).alloc _, ⟨_, rfl⟩, ⟨_, rfl, by simp, by simp [go_sem], by simp [go_sem]⟩⟩) ?_
          rintro _ ⟨g5, rfl⟩
          simp only [Act.put, List.setIfInBounds_toArray, List.set_cons_zero, List.set_cons_succ]
          refine Flow.call Try.call39 [.slice (some ⟨g5, 0, none⟩) 2 2] rfl rfl rfl ?_ (fun wx hx hf => ?_) ?_
          · exact ⟨_, none, 0, rfl⟩
          · obtain ⟨g6, e6, z1, z2, z3⟩ := hf.at 67 (by kernel_rfl) ⟨g5, rfl⟩
            have e7 : (Value.slice (some ⟨g5, 0, none⟩) 2 2) = .slice (some ⟨g6, 0, none⟩) 2 2 := e6
            simp only [Value.slice.injEq, Option.some.injEq, Addr.mk.injEq, and_true] at e7
            subst e7
            have hE0 : Ext wr wx := EBH.out.trans hx
            have hx0 : ∀ n', n' = nn → Bytes wx (.slice (some ⟨gx, 0, none⟩) n' cx) (bx.take nn) := by
              intro n' hn'
              rw [hn']
              exact ((OX.out.bytes.ext hE0).take nn (by rw [HBX.out]; exact hnn)).cap cx (by rw [List.length_take]; exact Nat.le_trans (Nat.min_le_left _ _) hnc1) hcx' (by simp)
            have hx1 := hx0 (0) E4.out.symm
            have hx2 : ∀ a' b' c', a' = nn → b' = N - nn → c' = cz - nn → Bytes wx (.slice (some ⟨gz, a', none⟩) b' c') (bz.drop nn) := by
              intro a' b' c' ha hb' hc'
              rw [ha, hb', hc']
              exact HTB.out wx hE0
            have hx3 := hx2 (0) (N) (cz) (by have := E4.out; omega) (by have := E4.out; omega) (by have := E4.out; omega)
            refine (concat2 g5 wx _ _ (0) (N) cx (cz) (bx.take nn) (bz.drop nn) z2 z3 z1 hx1 hx3 (by omega) (by omega) (by omega)).mono ?_
            rintro e w' ⟨A, n9, cap, he, hO, hE⟩
            have hn9 := hO.1
            have : (bx.take nn ++ bz.drop nn).length = N := by rw [List.length_append, List.length_take, List.length_drop, HBX.out, HBZ.out]; omega
            rw [this] at hn9
            subst hn9
            exact ⟨_, he, hE, ⟨_, _, rfl⟩, ⟨_, _, rfl, hO.mono (Nat.le_trans (Nat.le_trans hbase HST.out.2.2.size) hE0.size)⟩⟩
          rintro v ⟨A, cap, rfl⟩
          simp only [Act.put, List.setIfInBounds_toArray, List.set_cons_zero, List.set_cons_succ]
          repeat (first | (refine Flow.skip rfl ?_; simp only [Act.put, List.setIfInBounds_toArray, List.set_cons_zero, List.set_cons_succ]) | (refine Flow.use (.pointer (some ⟨D, 0, none⟩)) rfl rfl (fun wx hx hf => run_nilCheck _ ⟨D, 0, none⟩ rfl rfl) ?_; simp only [Act.put, List.setIfInBounds_toArray, List.set_cons_zero, List.set_cons_succ]) | (refine Flow.plain rfl rfl ?_; go_big_quiet_step (fail); refine wpQuiet_nil ?_))
          refine Flow.nil fun w6 hx6 hf => ?_
          obtain ⟨A9, c9, e9, hO9⟩ := hf 68 (by simp) ⟨A, cap, rfl⟩
          have e10 : (Value.slice A N cap) = .slice A9 N c9 := e9
          simp only [Value.slice.injEq, true_and] at e10
          obtain ⟨rfl, rfl⟩ := e10
          have hE6 := EBH.out.trans hx6
          have HD6 := HST.out.1.ext hE6
          have hNB : (bx.take nn ++ bz.drop nn).length = N := by rw [List.length_append, List.length_take, List.length_drop, HBX.out, HBZ.out]; omega
          have hsec : SecOk base w6 (A, cap, bx.take nn ++ bz.drop nn) := by
            unfold SecOk
            simp only [hNB]
            exact hO9
          obtain ⟨g8, eg8, hsm, hfz8, HL, HKL⟩ := lay_mem (i := i) HD6 (by simp only [HNN.out]; omega) hsec
          simp only [Option.some.injEq, Addr.mk.injEq, and_true] at eg8
          subst eg8
          obtain ⟨u0, hu0⟩ := Option.isSome_iff_exists.1 hsm
          have hgs6 : gs < w6.heap.size := Nat.lt_of_lt_of_le hgs hE6.size
          unfold secV at HL HKL
          simp only [hNB] at HL HKL
          have HX := Lib.hid (And.intro HL ((HST.out.2.2.tch (Keep.ofExt hE6 _)).tch HKL))
          have HBY : Hid ((safe'.set i (A, cap, bx.take nn ++ bz.drop nn)).map (·.2.2) = crB f S.bytes (S.wbytes.take (k + 1)) 0) := Lib.hid (by
            have hk1 : k < S.wbytes.length := by unfold DS.wbytes; rw [List.length_map]; have := HM.out; omega
            have hwk : S.wbytes[k] = (i, bx) := by simp only [DS.wbytes, List.getElem_map]; rw [HWK.out]
            rw [List.take_succ_eq_append_getElem hk1, hwk, crB_snoc, List.map_set, HST.out.2.1]
            have hl9 : (S.wbytes.take k).length = k := by rw [List.length_take]; omega
            simp only [hl9, Nat.zero_add, HNF.out]
            congr 2
            rw [← HST.out.2.1, HZ.out])
          clear hf hx6 hE6 HD6 hNB hsec HL HKL hsm k0 k1 k2 k3
          go_wp2
          obtain ⟨wn, hwn⟩ : ∃ wn, w6.setCell ⟨gs, i, none⟩ (.slice A N cap) = wn := ⟨_, rfl⟩
          rw [hwn] at HX ⊢
          go_wp2
          go_roundw
          case rel => exact ⟨k + 1, _, by omega, by go_num, Lib.hid ⟨HX.out.1, HBY.out, HX.out.2⟩⟩
          case measure => simp [intOf]; omega
    · have hlt' : ¬ (k : Int) < (M : Int) := by omega
      have e : S.wbytes.take k = S.wbytes := List.take_of_length_le (by unfold DS.wbytes; rw [List.length_map]; have := HM.out; omega)
      have HD := ST.out.1
      have HBQ := Lib.hid ST.out.2.1
      rw [e] at HBQ
      obtain ⟨HP, KP⟩ := HD.put 2 (.slice none 0 0) { S with safe := safe', wait := [] } SA sc none 0 RA rc (by simp [fields]) HD.rows (World.ownsRow_nil wr base 79 2) HD.rds HD.oks (fun x hx => by simp at hx)
      obtain ⟨HP2, KP2⟩ := HP.put 4 (.int .i64 (-1)) { S with safe := safe', wait := [], left := -1 } SA sc none 0 RA rc (by simp [fields]) HP.rows HP.waits HP.rds HP.oks HP.okw
      obtain ⟨HP3, KP3⟩ := HP2.put 6 (.bool false) { S with safe := safe', wait := [], left := -1, down := false } SA sc none 0 RA rc (by simp [fields]) HP2.rows HP2.waits HP2.rds HP2.oks HP2.okw
      obtain ⟨w3, hw3⟩ : ∃ w3, ((wr.setCell ⟨D, 2, none⟩ (.slice none 0 0)).setCell ⟨D, 4, none⟩ (.int .i64 (-1))).setCell ⟨D, 6, none⟩ (.bool false) = w3 := ⟨_, rfl⟩
      rw [hw3] at HP3 KP3
      obtain ⟨gr, w4, rfl, hclr, HP4, KP4⟩ := clear_mem HP3 hrp
      have c2 := HD.cell 2
      have c4 := HD.cell 4
      have c6 := HD.cell 6
      have cf := HD.frozen
      have c3 := HP3.cell 3
      simp only [fields, List.getElem?_toArray, List.getElem?_cons_zero, List.getElem?_cons_succ] at c2 c3 c4 c6
      simp only at hclr
      have HX := Lib.hid (And.intro HP4 ((ST.out.2.2.tch KP).tch (KP2.tch (KP3.tch KP4))))
      clear HP KP HP2 KP2 HP3 KP3 HP4 KP4 HD ST e
      go_wp2
      go_end0
      exact ⟨⟨_, rfl⟩, ⟨none, 0, _, HX.out.1, ⟨by
        show safe'.map (·.2.2) = _
        rw [HBQ.out, HF.out], rfl, rfl, rfl, rfl, rfl, rfl⟩⟩, HX.out.2⟩

end Go.Proofs.Ytbpdjekibcbaaaa
