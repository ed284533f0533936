import Derived.Test.YtbpdjekibcbaaaaSSave
namespace Go.Proofs.Ytbpdjekibcbaaaa
open Go.RowKit
set_option linter.unusedVariables false
set_option linter.unusedSimpArgs false

/-- a store at rest on a disk without faults -/
structure StOk (base : Nat) (w : World) (s D : Nat) (m : DM) (h : Hd) (b : List Nat) (n : Nat) : Prop where
  dk : DK base w D m
  st : ∃ A k cap, StAt base w s D h A k cap b false
  r : Rest m n
  len : b.length = h.snap + h.log
  fit : b.length ≤ m.hs * m.sz
  half : h.half ≤ 1
  gen : h.gen ≤ n
  lo : base ≤ w.heap.size

theorem StOk.ext {base : Nat} {w w' : World} {s D : Nat} {m : DM} {h : Hd} {b : List Nat} {n : Nat} (H : StOk base w s D m h b n) (he : Ext w w') : StOk base w' s D m h b n := by
  obtain ⟨A, k, cap, hs⟩ := H.st
  exact ⟨H.dk.ext he, ⟨A, k, cap, hs.ext he⟩, H.r, H.len, H.fit, H.half, H.gen, Nat.le_trans H.lo he.size⟩
theorem Rest.bounds {m : DM} {n : Nat} (R : Rest m n) : 32 ≤ m.sz ∧ m.sz ≤ 512 ∧ 4 ≤ m.B.length ∧ m.B.length ≤ 60 ∧ m.hs ≤ 29 ∧ m.cap = m.hs * m.sz ∧ m.hs * m.sz ≤ 14848 := by
  have h1 := R.sz
  have h2 := R.ok.sz.2
  have h3 := R.nb
  have h4 : m.hs ≤ 29 := by unfold DM.hs; omega
  refine ⟨h1, h2, h3.1, h3.2, h4, ?_, Nat.mul_le_mul h4 h2⟩
  unfold DM.cap; rw [if_neg (by omega)]

def Hd.app (h : Hd) (k : Nat) : Hd := ⟨h.gen + 1, h.half, h.snap, h.log + k⟩
def DM.app (m : DM) (h : Hd) (b l : List Nat) : DM := m.saved (h.app l.length) (b ++ l) (b.length / m.sz) (cnt (b ++ l).length m.sz (b.length / m.sz))
def Hd.com (h : Hd) (k : Nat) : Hd := ⟨h.gen + 1, 1 - h.half, k, 0⟩
def DM.com (m : DM) (h : Hd) (l : List Nat) : DM := m.saved (h.com l.length) l 0 (cnt l.length m.sz 0)

/-- the indices that a save writes are on the disk -/
theorem Rest.cnt_ok {m : DM} {n : Nat} (R : Rest m n) {half len fr : Nat} (hh : half ≤ 1) (hl : len ≤ m.hs * m.sz) (hf : fr * m.sz ≤ len) :
    cnt len m.sz fr ≤ 40 ∧ ∀ j, j < cnt len m.sz fr → 2 + half * m.hs + (fr + j) < m.B.length := by
  have hb := R.bounds
  have hhb : 2 + 2 * m.hs ≤ m.B.length := by unfold DM.hs; omega
  have hhm : half * m.hs ≤ m.hs := by have := Nat.mul_le_mul hh (Nat.le_refl m.hs); omega
  have hj : ∀ j, j < cnt len m.sz fr → fr + j < m.hs := fun j hj => Nat.lt_of_mul_lt_mul_right (Nat.lt_of_lt_of_le ((cnt_lt (by omega) hf (Nat.le_of_lt hj)).1 hj) hl)
  refine ⟨?_, fun j h => by have := hj j h; omega⟩
  rcases Nat.eq_zero_or_pos (cnt len m.sz fr) with h1 | h1
  · omega
  · have := hj (cnt len m.sz fr - 1) (by omega); omega

set_option maxRecDepth 100000 in
set_option maxHeartbeats 6400000 in
theorem append_no {base : Nat} {w : World} {s D : Nat} {m : DM} {h : Hd} {b : List Nat} {n : Nat} (v : Value) (l : List Nat) (H : StOk base w s D m h b n) (hn : n ≤ 700000) (hv : Bytes w v l) (hl : l.length ≤ 100000) (hno : m.hs * m.sz < b.length + l.length) :
    Calls Try.prog 18 #[.pointer (some ⟨s, 0, none⟩), v] w fun e w' => e = .returned (.int .i64 42) ∧ Ext w w' := by
  obtain ⟨A, k, cap, hs⟩ := H.st
  have hb := H.r.bounds
  have hfit := H.fit
  have hlen := H.len
  have RO := room_any hs H.dk (by omega) (by omega) (by omega) (by rw [hb.2.2.2.2.2.1]; omega)
  obtain ⟨R, hR⟩ : ∃ R : Int, (m.cap : Int) - ((h.snap + h.log : Nat) : Int) = R := ⟨_, rfl⟩
  rw [hR] at RO
  have hRl : R < (l.length : Int) := by rw [← hR, hb.2.2.2.2.2.1]; omega
  have ROH := Lib.hid RO
  obtain ⟨Av, cv, rfl, _⟩ := hv
  obtain ⟨N, hN⟩ : ∃ N, l.length = N := ⟨_, rfl⟩
  rw [hN] at hRl ⊢
  clear RO hR hN hl hno hs H hb hfit hlen
  go_enter Try.func18, Try.ntmps18
  go_wp2_with fail
  refine ROH.out.mono ?_
  rintro e w1 ⟨rfl, hE⟩
  have E1 := Lib.hid hE
  clear hE
  go_wp2
  go_ret
  exact ⟨rfl, E1.out⟩

set_option maxRecDepth 100000 in
set_option maxHeartbeats 6400000 in
theorem append_yes {base : Nat} {w : World} {s D : Nat} {m : DM} {h : Hd} {b : List Nat} {n : Nat} (v : Value) (l : List Nat) (H : StOk base w s D m h b n) (hn : n ≤ 700000) (hv : Bytes w v l) (hyes : b.length + l.length ≤ m.hs * m.sz) :
    Calls Try.prog 18 #[.pointer (some ⟨s, 0, none⟩), v] w fun e w' => e = .returned (.int .i64 0) ∧ StOk base w' s D (m.app h b l) (h.app l.length) (b ++ l) (n + 100) ∧ Keep w w' (TchS base w) := by
  obtain ⟨A, k, cap, hs⟩ := H.st
  have hb := H.r.bounds
  have hfit := H.fit
  have hlen := H.len
  have hgen := H.gen
  have RO := room_any hs H.dk (by omega) (by omega) (by omega) (by rw [hb.2.2.2.2.2.1]; omega)
  obtain ⟨R, hR⟩ : ∃ R : Int, (m.cap : Int) - ((h.snap + h.log : Nat) : Int) = R := ⟨_, rfl⟩
  rw [hR] at RO
  have hRl : ¬ R < (l.length : Int) := by rw [← hR, hb.2.2.2.2.2.1]; omega
  have ROH := Lib.hid RO
  have VB := Lib.hid hv
  obtain ⟨Av, cv, rfl, _⟩ := hv
  obtain ⟨N, hN⟩ : ∃ N, l.length = N := ⟨_, rfl⟩
  have hNb : N ≤ 14848 := by omega
  have hfr : b.length / m.sz * m.sz ≤ (b ++ l).length := by have := Nat.div_mul_le_self b.length m.sz; simp; omega
  have CO := H.r.cnt_ok (half := h.half) (len := (b ++ l).length) (fr := b.length / m.sz) H.half (by simp; omega) hfr
  have POST : Hid (∀ w', DK base w' D (m.app h b l) → (∃ A k cap, StAt base w' s D (h.app l.length) A k cap (b ++ l) false) → base ≤ w'.heap.size → StOk base w' s D (m.app h b l) (h.app l.length) (b ++ l) (n + 100)) := Lib.hid fun w' h1 h2 h3 =>
    ⟨h1, h2, H.r.saved (h.app l.length) (b ++ l) _ _ CO.1 CO.2, by simp [Hd.app]; omega, by
      have e1 : (m.app h b l).hs = m.hs := by unfold DM.app DM.saved DM.hs; simp only [List.length_set, layB_len]
      have e2 : (m.app h b l).sz = m.sz := rfl
      rw [e1, e2]; simp; omega, H.half, by show h.gen + 1 ≤ n + 100; omega, h3⟩
  have SAV : Hid (∀ wx, Ext w wx → ∀ Ab nb cb, Own base wx Ab nb cb (b ++ l) → Calls Try.prog 34 #[.pointer (some ⟨s, 0, none⟩), .agg #[.int .i64 ((h.gen + 1 : Nat) : Int), .int .i64 (h.half : Int), .int .i64 (h.snap : Int), .int .i64 ((h.log + l.length : Nat) : Int)], .slice Ab nb cb, .int .i64 ((b.length / m.sz : Nat) : Int)] wx fun e w' =>
      e = .returned (.int .i64 0) ∧ StAt base w' s D (h.app l.length) Ab nb cb (b ++ l) false ∧ DK base w' D (m.app h b l) ∧ Keep wx w' (TchS base wx)) := Lib.hid fun wx he Ab nb cb O =>
    save_any s D m h (h.app l.length) A k cap b Ab nb cb (b ++ l) (b.length / m.sz) n wx (hs.ext he) (H.dk.ext he) H.r (by omega) O (Nat.le_trans H.lo he.size) (by show h.gen + 1 ≤ _; omega) H.half (by show h.snap ≤ _; omega) (by show h.log + l.length ≤ _; omega) (by simp; omega) hfr
  have US : Hid (∀ wx, Ext w wx → Calls Try.prog 36 #[.pointer (some ⟨s, 0, none⟩)] wx fun e w' => e = .returned (.int .i64 (b.length : Int)) ∧ Ext wx w') := Lib.hid fun wx he => by
    rw [H.len]; exact used_any (hs.ext he) (by omega)
  have SZ : Hid (∀ wx, Ext w wx → Calls Try.prog 30 #[.pointer (some ⟨D, 0, none⟩)] wx fun e w' => e = .returned (.int .i64 (m.sz : Int)) ∧ Ext wx w') := Lib.hid fun wx he => dsize_any (H.dk.ext he)
  have HOW := Lib.hid hs
  have HLO := Lib.hid H.lo
  have hk : k = b.length := hs.own.1
  obtain ⟨c0, c1, c2, c3, c4, c5, c6, cf, cl⟩ := hs.cells
  have hq : (b.length : Int).tdiv (m.sz : Int) = ((b.length / m.sz : Nat) : Int) := by rw [Int.tdiv_eq_ediv_of_nonneg (by omega)]; rfl
  obtain ⟨Q, hQ⟩ : ∃ Q, b.length / m.sz = Q := ⟨_, rfl⟩
  rw [hQ] at hq SAV
  obtain ⟨sz, hsz⟩ : ∃ x, m.sz = x := ⟨_, rfl⟩
  rw [hsz] at hq SZ hb
  obtain ⟨bn, hbn⟩ : ∃ x, b.length = x := ⟨_, rfl⟩
  rw [hbn] at hq US
  have hkb : k ≤ 14848 := by omega
  have hbnb : bn ≤ 14848 := by omega
  obtain ⟨LG, hLG⟩ : ∃ x, h.log + l.length = x := ⟨_, rfl⟩
  rw [hLG] at SAV
  have hlg : (h.log : Int) + (N : Int) = (LG : Int) := by omega
  have hlb : h.log ≤ 100000 := by omega
  have hszp : (sz : Int) ≠ 0 := by omega
  have hq2 : Q ≤ 100000 := by rw [← hQ]; have := Nat.div_le_self b.length m.sz; omega
  rw [hN] at hRl ⊢
  rw [hN] at VB
  have HNN := Lib.hid hN
  clear RO hR hN hyes hs H hb hfit hlen hfr CO hQ hsz hbn hLG hk
  go_enter Try.func18, Try.ntmps18
  go_wp2_with fail
  refine ROH.out.mono ?_
  rintro e w1 ⟨rfl, hE⟩
  have E1 := Lib.hid hE
  have d1 := (hE.cell cl).trans c1
  have d2 := (hE.cell cl).trans c2
  have d3 := (hE.cell cl).trans c3
  have d4 := (hE.cell cl).trans c4
  have hs1 : s < w1.heap.size := Nat.lt_of_lt_of_le cl hE.size
  clear hE
  go_wp2_with fail
  obtain ⟨q, hq1⟩ : ∃ q, w1.heap.size = q := ⟨_, rfl⟩
  obtain ⟨w2, hw2⟩ : ∃ w2, w1.alloc (.cells #[.int .i64 ((h.gen : Int) + 1), .int .i64 (h.half : Int), .int .i64 (h.snap : Int), .int .i64 (LG : Int)] 23) = w2 := ⟨_, rfl⟩
  have E2 : Hid (Ext w w2) := Lib.hid (by rw [← hw2]; exact E1.out.alloc _)
  have hq2s : q < w2.heap.size := by rw [← hw2, ← hq1]; simp
  have i0 : w2.cell? ⟨q, 0, none⟩ = some (.int .i64 ((h.gen : Int) + 1)) := by rw [← hw2, ← hq1]; simp [go_sem]
  have i1 : w2.cell? ⟨q, 1, none⟩ = some (.int .i64 (h.half : Int)) := by rw [← hw2, ← hq1]; simp [go_sem]
  have i2 : w2.cell? ⟨q, 2, none⟩ = some (.int .i64 (h.snap : Int)) := by rw [← hw2, ← hq1]; simp [go_sem]
  have i3 : w2.cell? ⟨q, 3, none⟩ = some (.int .i64 (LG : Int)) := by rw [← hw2, ← hq1]; simp [go_sem]
  rw [hw2, hq1]
  clear hw2 hq1 d1 d2 d3 d4 hs1 E1
  have e0 : ∀ g', (w2.ext g').cell? ⟨q, 0, none⟩ = some (.int .i64 ((h.gen : Int) + 1)) := fun g' => (Ext.cell (⟨g', rfl⟩ : Ext w2 (w2.ext g')) hq2s).trans i0
  have e1 : ∀ g', (w2.ext g').cell? ⟨q, 1, none⟩ = some (.int .i64 (h.half : Int)) := fun g' => (Ext.cell (⟨g', rfl⟩ : Ext w2 (w2.ext g')) hq2s).trans i1
  have e2 : ∀ g', (w2.ext g').cell? ⟨q, 2, none⟩ = some (.int .i64 (h.snap : Int)) := fun g' => (Ext.cell (⟨g', rfl⟩ : Ext w2 (w2.ext g')) hq2s).trans i2
  have e3 : ∀ g', (w2.ext g').cell? ⟨q, 3, none⟩ = some (.int .i64 (LG : Int)) := fun g' => (Ext.cell (⟨g', rfl⟩ : Ext w2 (w2.ext g')) hq2s).trans i3
  have e4 : ∀ g', (w2.ext g').cell? ⟨s, 0, none⟩ = some (.pointer (some ⟨D, 0, none⟩)) := fun g' => ((E2.out.trans ⟨g', rfl⟩).cell cl).trans c0
  have e5 : ∀ g', (w2.ext g').cell? ⟨s, 5, none⟩ = some (.slice A k cap) := fun g' => ((E2.out.trans ⟨g', rfl⟩).cell cl).trans c5
  clear i0 i1 i2 i3 c0 c1 c2 c3 c4 c5 c6 cf
  refine region_flow 17 [32, 33, 35, 40] (fun t v => match t with | 32 => ∃ g, v = .slice (some ⟨g, 0, none⟩) 2 2 | 33 => ∃ A9 k9 c9, v = .slice A9 k9 c9 | 35 => v = .int .i64 (bn : Int) | 40 => v = .int .i64 (sz : Int) | _ => False)
    (fun t v w' => match t with | 32 => ∃ g, v = .slice (some ⟨g, 0, none⟩) 2 2 ∧ g < w'.heap.size ∧ w'.cell? ⟨g, 0, none⟩ = some (.slice A k cap) ∧ w'.cell? ⟨g, 1, none⟩ = some (.slice Av N cv) | 33 => ∃ A9 k9 c9, v = .slice A9 k9 c9 ∧ Own base w' A9 k9 c9 (b ++ l) | _ => True) (by kernel_rfl) (by kernel_rfl) ?hq ?hu ?hR ?h
  case hq => intro t v h; split at h <;> simp_all
  case hu => intro t h; split at h <;> simp_all [undef]
  case hR =>
    intro t v wx wy _ hR he
    split at hR
    · obtain ⟨g, e, z1, z2, z3⟩ := hR
      exact ⟨g, e, Nat.lt_of_lt_of_le z1 he.size, (he.cell z1).trans z2, (he.cell z1).trans z3⟩
    · obtain ⟨A9, k9, c9, e, h1⟩ := hR; exact ⟨A9, k9, c9, e, h1.ext he⟩
    · trivial
  case h =>
    dsimp only [List.take, List.drop]
    iterate 7 (refine Flow.plain rfl rfl ?_; go_big_quiet_step (fail); refine wpQuiet_nil ?_)
    refine Flow.make 32 rfl rfl rfl ⟨.slice (some ⟨0, 0, none⟩) 2 2, 0, rfl⟩ (fun wx hx hf => ⟨.slice (some ⟨wx.heap.size, 0, none⟩) 2 2, wx.alloc (.cells #[.slice A k cap, .slice Av N cv] 24), by kernel_rfl, (Ext.refl wx).alloc _, ⟨_, rfl⟩, ⟨_, rfl, by simp, by simp [go_sem], by simp [go_sem]⟩⟩) ?_
    rintro _ ⟨g5, rfl⟩
    simp only [Act.put, List.setIfInBounds_toArray, List.set_cons_zero, List.set_cons_succ]
    refine Flow.call Try.call39 [.slice (some ⟨g5, 0, none⟩) 2 2] rfl rfl rfl ?_ (fun wx hx hf => ?_) ?_
    · exact ⟨.slice none 0 0, none, 0, 0, rfl⟩
    · obtain ⟨g6, e6, z1, z2, z3⟩ := hf.at 32 (by kernel_rfl) ⟨g5, rfl⟩
      have e7 : (Value.slice (some ⟨g5, 0, none⟩) 2 2) = .slice (some ⟨g6, 0, none⟩) 2 2 := e6
      simp only [Value.slice.injEq, Option.some.injEq, Addr.mk.injEq, and_true] at e7
      subst e7
      have hE0 : Ext w wx := E2.out.trans hx
      refine (concat_any g5 wx A Av k N cap cv b l z2 z3 z1 (HOW.out.own.bytes.ext hE0) (VB.out.ext hE0) (by omega) (by omega)).mono ?_
      rintro e w' ⟨A9, n9, c9, he, hO, hE⟩
      exact ⟨_, he, hE, ⟨_, _, _, rfl⟩, ⟨_, _, _, rfl, hO.mono (Nat.le_trans HLO.out hE0.size)⟩⟩
    rintro v ⟨A9, k9, c9, rfl⟩
    simp only [Act.put, List.setIfInBounds_toArray, List.set_cons_zero, List.set_cons_succ]
    iterate 1 (refine Flow.plain rfl rfl ?_; go_big_quiet_step (fail); refine wpQuiet_nil ?_)
    refine Flow.call Try.call36 [.pointer (some ⟨s, 0, none⟩)] rfl rfl rfl ⟨_, rfl⟩ (fun wx hx hf => (US.out wx (E2.out.trans hx)).mono ?_) ?_
    · rintro e w' ⟨rfl, hE⟩; exact ⟨_, rfl, hE, rfl, trivial⟩
    rintro v rfl
    simp only [Act.put, List.setIfInBounds_toArray, List.set_cons_zero, List.set_cons_succ]
    iterate 4 (refine Flow.plain rfl rfl ?_; go_big_quiet_step (fail); refine wpQuiet_nil ?_)
    refine Flow.call Try.call30 [.pointer (some ⟨D, 0, none⟩)] rfl rfl rfl ⟨_, rfl⟩ (fun wx hx hf => (SZ.out wx (E2.out.trans hx)).mono ?_) ?_
    · rintro e w' ⟨rfl, hE⟩; exact ⟨_, rfl, hE, rfl, trivial⟩
    rintro v rfl
    simp only [Act.put, List.setIfInBounds_toArray, List.set_cons_zero, List.set_cons_succ]
    iterate 1 (refine Flow.plain rfl rfl ?_; go_big_quiet_step (fail); refine wpQuiet_nil ?_)
    refine Flow.nil fun w5 hx5 hf => ?_
    obtain ⟨A8, k8, c8, e9, hO9⟩ := hf 33 (by simp) ⟨A9, k9, c9, rfl⟩
    have e10 : (Value.slice A9 k9 c9) = .slice A8 k8 c8 := e9
    simp only [Value.slice.injEq] at e10
    obtain ⟨rfl, rfl, rfl⟩ := e10
    have E5 := Lib.hid (E2.out.trans hx5)
    have SV := SAV.out w5 E5.out A9 k9 c9 hO9
    have SVH := Lib.hid SV
    clear hf hO9 e9 SV SAV e0 e1 e2 e3 e4 e5 hx5 E2
    go_wp2_with fail
    refine SVH.out.mono ?_
    rintro e w6 ⟨rfl, h1, h2, h3⟩
    have P := Lib.hid (POST.out w6 h2 ⟨_, _, _, h1⟩ (Nat.le_trans HLO.out (Nat.le_trans E5.out.size h3.size)))
    have K := Lib.hid ((Keep.ofExt E5.out (TchS base w)).tchS h3)
    clear h1 h2 h3
    go_wp2
    go_ret
    rw [HNN.out] at P
    exact ⟨rfl, P.out, K.out⟩

end Go.Proofs.Ytbpdjekibcbaaaa
