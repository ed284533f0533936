import Derived.RangeFuncNested
import Derived.RangeFuncBound
import Derived.RangeFuncCalls
import Derived.RangeFuncLeaves
import Derived.Shelf.Abstract
import Derived.Shelf.RegionOpen
import Derived.WalkKit
import Derived.OwnWalkIn
import Derived.TacticsInMore
import Derived.LoopNIn
import Derived.LoopIn
import Derived.Test.YtobnbdoehobigaaDoorRng
namespace Go.Proofs.YtobnbdoehobigaaDoor
open Go.RowKit Go.Shelf
set_option linter.unusedVariables false
set_option linter.unusedSimpArgs false
attribute [local go_sem] Oper.semAt_some

theorem Bytes.from {w : World} {X : Option Addr} {N c p : Nat} {l : List Nat} (h : Bytes w (.slice X N c) l) (hp : p ≤ N) (hc : ¬ c = p) : Bytes w (.slice (X.map fun a => a.add p) (N - p) (c - p)) (l.drop p) := by
  have hN := h.len
  obtain ⟨A, cap, e, h2, h3, h4, h5, h6⟩ := h
  simp only [Value.slice.injEq] at e
  obtain ⟨rfl, _, rfl⟩ := e
  have hb : ∀ i, (l.drop p).getD i 0 < 256 := fun i => by rw [getD_drop]; exact h5 _
  refine ⟨_, c - p, by rw [List.length_drop, hN], by simp; omega, by omega, fun hn => ?_, hb, fun hpos => ?_⟩
  · cases X with
    | none => have := h4 rfl; omega
    | some a => simp at hn
  · simp only [List.length_drop] at hpos
    obtain ⟨b, off, rfl, q1, q2⟩ := h6 (by omega)
    refine ⟨b, off + p, by simp [Addr.add], q1, fun i hi => ?_⟩
    simp only [List.length_drop] at hi
    rw [Nat.add_assoc, q2 (p + i) (by omega), getD_drop]

theorem one_len {b : List Nat} {s k : Nat} {d : List Nat} (h : oneL b = some (s, k, d)) : d.length + 17 ≤ b.length := by
  unfold oneL at h
  split at h
  · cases h
  · split at h
    · cases h
    · split at h
      · cases h
      · simp only [Option.some.injEq, Prod.mk.injEq] at h
        obtain ⟨_, _, rfl⟩ := h
        simp
        omega

theorem one_nil : oneL [] = none := by unfold oneL; rw [if_pos (by decide)]

set_option maxRecDepth 100000 in
set_option maxHeartbeats 3200000 in
/-- what goes through the records of bytes -/
theorem all1_in (l Bn : Nat) (v : Value) (b : List Nat) (hl : b.length ≤ 1000000) (J : Nat → World → Prop) (Jx : World → Prop)
    (hJ : ∀ p W, J p W → W.cell? ⟨Bn, 0, none⟩ = some v ∧ Bytes W v b ∧ Tab W)
    (hE : ∀ p W W', J p W → Ext W W' → J p W')
    (hY : ∀ p s k d A n c W0 W, J p W0 → Ext W0 W → (∀ a, A = some a → W0.heap.size ≤ a.block ∧ a.block < W.heap.size) → oneL (b.drop p) = some (s, k, d) → Bytes W (.slice A n c) d → YieldAt Fence.wide 5 Tryd.prog l #[.int .i64 ((p + (d.length + 17) : Nat) : Int), .agg #[.int .i64 (wrap64 s), .int .i64 k, .slice A n c]] W fun e W' =>
      (e = .returned (.bool true) ∧ J (p + (d.length + 17)) W') ∨ (e = .returned (.bool false) ∧ Jx W'))
    (W : World) (h0 : J 0 W) :
    CallsIn Fence.wide 6 Tryd.prog 35 #[.func (.yield l) #[] #[], .pointer (some ⟨Bn, 0, none⟩)] W fun e W' => (∃ v, e = .returned v) ∧
      ((∃ p, p ≤ b.length ∧ oneL (b.drop p) = none ∧ J p W') ∨ Jx W') := by
  have HJ := Lib.hid hJ
  have HE := Lib.hid hE
  have HY := Lib.hid hY
  have H0 := Lib.hid h0
  obtain ⟨N, hN⟩ : ∃ N, b.length = N := ⟨_, rfl⟩
  have HN := Lib.hid hN
  obtain ⟨_, ⟨X, c, rfl, c2, c3, _⟩, _⟩ := hJ 0 W h0
  rw [hN] at hl c2 HJ
  clear hJ hE hY h0 hN
  refine callsIn_of_wp Tryd.func35 rfl trivial ?_ rfl
  simp only [Tryd.ntmps35, List.size_toArray, List.length_cons, List.length_nil, Nat.reduceAdd, Nat.reduceSub, Array.replicate_succ, Array.replicate_zero, List.push_toArray, List.append_toArray, List.nil_append, List.cons_append]
  gi_wp2
  gi_loopw [3] (fun t3 wr => ∃ (p : Nat), p ≤ N ∧ t3 = .int .i64 (p : Int) ∧ J p wr) (fun t3 _ => N - (intOf t3).toNat)
  case atStart => exact ⟨0, by omega, rfl, H0.out⟩
  case round =>
    obtain ⟨p, hp, rfl, hJp⟩ := hrel
    have JP := Lib.hid hJp
    obtain ⟨hcell, hB, hTb⟩ := HJ.out p wr hJp
    have BB := Lib.hid hB
    have TB := Lib.hid hTb
    clear hJp hB hTb
    by_cases hc : c = p
    · obtain rfl : N = p := by omega
      obtain rfl : c = N := hc
      have hd : b.drop c = [] := by rw [List.drop_eq_nil_of_le]; have := HN.out; omega
      have HO := Lib.hid (show oneL (b.drop c) = none by rw [hd]; exact one_nil)
      have HB := Lib.hid (show Bytes wr (.slice X 0 0) [] from ⟨X, 0, rfl, by simp, by omega, fun _ => rfl, fun i => by simp, fun h => by simp at h⟩)
      clear hd
      gi_wp2
      refine ⟨trivial, (callsIn_wide.2 (one_any _ _ _ HB.out TB.out (by simp))).mono ?_⟩
      intro e w2 hp
      rw [one_nil] at hp
      obtain ⟨rfl, hx⟩ := hp
      have J2 := Lib.hid (HE.out c wr w2 JP.out hx)
      clear hx
      gi_wp2
      refine ⟨trivial, (callsIn_wide.2 (size_any 0 _ (by omega) (by omega))).mono ?_⟩
      rintro e w3 ⟨rfl, rfl⟩
      gi_wp2
      refine ⟨fun _ h => (by cases h), ?_⟩
      gi_wp2
      refine bodyPost_ret (results_none rfl _ _ _) rfl ?_
      exact ⟨⟨_, rfl⟩, .inl ⟨c, by have := HN.out; omega, HO.out, HE.out _ _ _ J2.out ((Ext.refl w2).alloc _)⟩⟩
    · have HB := Lib.hid (BB.out.from hp hc)
      gi_wp2
      refine ⟨trivial, (callsIn_wide.2 (one_any _ _ _ HB.out TB.out (by simp; have := HN.out; omega))).mono ?_⟩
      intro e w2 hp
      obtain ⟨D, hD⟩ : ∃ D, oneL (b.drop p) = D := ⟨_, rfl⟩
      rw [hD] at hp
      have HD := Lib.hid hD
      clear hD
      cases D with
      | none =>
        obtain ⟨rfl, hx⟩ := hp
        have J2 := Lib.hid (HE.out p wr w2 JP.out hx)
        clear hx
        gi_wp2
        refine ⟨trivial, (callsIn_wide.2 (size_any 0 _ (by omega) (by omega))).mono ?_⟩
        rintro e w3 ⟨rfl, rfl⟩
        gi_wp2
        refine ⟨fun _ h => (by cases h), ?_⟩
        gi_wp2
        refine bodyPost_ret (results_none rfl _ _ _) rfl ?_
        exact ⟨⟨_, rfl⟩, .inl ⟨p, by have := HN.out; omega, HD.out, HE.out _ _ _ J2.out ((Ext.refl w2).alloc _)⟩⟩
      | some q =>
        obtain ⟨s, k, d⟩ := q
        obtain ⟨A, n, c', rfl, hO, hx⟩ := hp
        have J2 := Lib.hid (HE.out p wr w2 JP.out hx)
        have hn := hO.bytes.len
        subst hn
        have O2 := Lib.hid hO
        have EX := Lib.hid hx
        have hdl : d.length + 17 ≤ N - p := by have := one_len HD.out; simp at this; have := HN.out; omega
        have hdl1 : (d.length : Int) ≤ 1000000 := by omega
        clear hx hO
        gi_wp2
        refine ⟨trivial, (callsIn_wide.2 (size_any (d.length : Int) _ (by omega) (by omega))).mono ?_⟩
        rintro e w3 ⟨rfl, rfl⟩
        obtain ⟨fn, tmps, assign, body, hy, hR⟩ := HY.out p s k d A d.length c' wr (w2.alloc (Obj.cells #[Value.int IntKind.i64 (wrap64 ↑s), Value.int IntKind.i64 ↑k, Value.slice A d.length c'] 46)) JP.out (EX.out.alloc _) (fun a e => by subst e; have := O2.out.2.1.lt a.block rfl; exact ⟨this.1, by simp; omega⟩) HD.out (O2.out.bytes.ext ((Ext.refl w2).alloc _))
        rw [show ((p + (d.length + 17) : Nat) : Int) = (p : Int) + ((d.length : Int) + 17) by omega] at hy
        gi_wp2
        refine hR.mono ?_
        rintro e W3 (⟨rfl, hJ3⟩ | ⟨rfl, hJx3⟩)
        · gi_wp2
          go_roundw
          case rel => exact ⟨p + (d.length + 17), by omega, by go_num, hJ3⟩
          case measure => simp [intOf]; omega
        · gi_wp2
          refine bodyPost_ret (results_none rfl _ _ _) rfl ?_
          exact ⟨⟨_, rfl⟩, .inr hJx3⟩

end Go.Proofs.YtobnbdoehobigaaDoor
