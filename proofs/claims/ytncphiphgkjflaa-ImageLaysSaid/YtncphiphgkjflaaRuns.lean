import Derived.RangeFuncNested
import Derived.RangeFuncBound
import Derived.RangeFuncCalls
import Derived.RangeFuncLeaves
import Derived.Shelf.Abstract
import Derived.Shelf.RegionOpen
import Derived.WalkKit
import Derived.OwnWalkIn
import Derived.TacticsInMore
import Derived.LoopNIn
import Derived.LoopIn
import Derived.Test.YtncphiphgkjflaaRng
import Derived.Test.YtncphiphgkjflaaImgB
namespace Go.Proofs.Ytncphiphgkjflaa
open Go.RowKit Go.Shelf
set_option linter.unusedVariables false
set_option linter.unusedSimpArgs false
attribute [local go_sem] Oper.semAt_some

/-- how many of a list are p at its beginning, f at most -/
def runF (p : Px) : Nat → List Px → Nat
  | f + 1, x :: l => if x = p then 1 + runF p f l else 0
  | _, _ => 0

theorem runF_len (p : Px) : ∀ (f : Nat) (l : List Px), runF p f l ≤ l.length ∧ runF p f l ≤ f := by
  intro f
  induction f with
  | zero => intro l; simp [runF]
  | succ f ih =>
    intro l
    cases l with
    | nil => simp [runF]
    | cons x l =>
      simp only [runF]
      split
      · have := ih l; simp; omega
      · simp

/-- the runs of pixels -/
def runsF : Nat → List Px → List (Nat × Px)
  | f + 1, p :: l => (1 + runF p 255 l, p) :: runsF f (l.drop (runF p 255 l))
  | _, _ => []
def runB (x : Nat × Px) : List Nat := [x.1 - 1, x.2.1, x.2.2.1, x.2.2.2.1, x.2.2.2.2]
def bytesL (W H : Int) (l : List Px) : List Nat := [((W - 1) % 256).toNat, ((H - 1) % 256).toNat] ++ (runsF l.length l).flatMap runB

theorem Pix.from {w : World} {X : Option Addr} {N c p : Nat} {l : List Px} (h : Pix .u8 w (.slice X N c) l) (hp : p ≤ N) (hc : ¬ c = p) : Pix .u8 w (.slice (X.map fun a => a.add (p * 4)) (N - p) (c - p)) (l.drop p) := by
  have hN := h.len
  obtain ⟨A, cap, e, h2, h3, h4, h5, h6⟩ := h
  simp only [Value.slice.injEq] at e
  obtain ⟨rfl, _, rfl⟩ := e
  have hb : ∀ i, okP ((l.drop p).getD i noP) := fun i => by rw [List.getD_eq_getElem?_getD, List.getElem?_drop, ← List.getD_eq_getElem?_getD]; exact h5 _
  refine ⟨_, c - p, by rw [List.length_drop, hN], by simp; omega, by omega, fun hn => ?_, hb, fun hpos => ?_⟩
  · cases X with
    | none => have := h4 rfl; omega
    | some a => simp at hn
  · simp only [List.length_drop] at hpos
    obtain ⟨b, off, rfl, q1, q2⟩ := h6 (by omega)
    refine ⟨b, off + p * 4, by simp [Addr.add], q1, fun i hi j hj => ?_⟩
    simp only [List.length_drop] at hi
    have := q2 (p + i) (by omega) j hj
    rw [show off + p * 4 + (i * 4 + j) = off + ((p + i) * 4 + j) by omega, this]
    rw [List.getD_eq_getElem?_getD, List.getD_eq_getElem?_getD, List.getElem?_drop]

theorem pix_end {w : World} (X : Option Addr) (h : X = none → True) : Pix .u8 w (.slice X 0 0) [] :=
  ⟨X, 0, rfl, by simp, by omega, fun _ => rfl, fun i => by simp [okP, noP], fun h => by simp at h⟩

set_option maxRecDepth 100000 in
set_option maxHeartbeats 6400000 in
/-- what goes through the runs -/
theorem runs1_in (lb Bn : Nat) (W0 H0 : Int) (v : Value) (l : List Px) (hl : l.length ≤ 1000000) (J : Nat → World → Prop)
    (hJ : ∀ p W, J p W → W.cell? ⟨Bn, 2, none⟩ = some v ∧ Pix .u8 W v l)
    (hE : ∀ p W W', J p W → Ext W W' → J p W')
    (hY : ∀ p q rest W0 W, J p W0 → Ext W0 W → l.drop p = q :: rest → okP q → YieldAt Fence.wide 5 Try.prog lb #[.int .i64 ((1 + runF q 255 rest : Nat) : Int), .agg #[.int .u8 (q.1 : Int), .int .u8 (q.2.1 : Int), .int .u8 (q.2.2.1 : Int), .int .u8 (q.2.2.2 : Int)]] W fun e W' =>
      e = .returned (.bool true) ∧ J (p + (1 + runF q 255 rest)) W')
    (W : World) (h0 : J 0 W) :
    CallsIn Fence.wide 6 Try.prog 61 #[.func (.yield lb) #[] #[], .pointer (some ⟨Bn, 0, none⟩)] W fun e W' => (∃ v, e = .returned v) ∧ J l.length W' := by
  have HJ := Lib.hid hJ
  have HE := Lib.hid hE
  have HY := Lib.hid hY
  have H0 := Lib.hid h0
  obtain ⟨k0, P0⟩ := hJ 0 W h0
  have P0' := Lib.hid P0
  obtain ⟨X0, c0, rfl, cc1, cc2, _⟩ := P0
  obtain ⟨N, hN⟩ : ∃ N, l.length = N := ⟨_, rfl⟩
  rw [hN] at hl cc1 k0 P0'
  rw [hN]
  have HN := Lib.hid hN
  have HJ2 : Hid (∀ p W, J p W → Pix .u8 W (.slice X0 N c0) l) := Lib.hid (fun p W h => by have := (hJ p W h).2; rwa [hN] at this)
  clear hJ hE hY h0 hN HJ
  refine callsIn_of_wp Try.func61 rfl trivial ?_ rfl
  simp only [Try.ntmps61, List.size_toArray, List.length_cons, List.length_nil, Nat.reduceAdd, Nat.reduceSub, Array.replicate_succ, Array.replicate_zero, List.push_toArray, List.append_toArray, List.nil_append, List.cons_append]
  gi_wp2
  gi_loopw [3] (fun t3 wr => ∃ (p : Nat) (X : Option Addr) (c : Nat), p ≤ N ∧ N - p ≤ c ∧ c ≤ 9223372036854775807 ∧ t3 = .slice X (N - p) c ∧ Hid (J p wr ∧ ∀ p' W', J p' W' → Pix .u8 W' (.slice X (N - p) c) (l.drop p))) (fun t3 _ => (match t3 with | .slice _ n _ => n | _ => 0))
  case atStart => exact ⟨0, X0, c0, by omega, by omega, cc2, rfl, Lib.hid ⟨H0.out, fun p' W' h => by simpa using (HJ2.out p' W' h)⟩⟩
  case round =>
    obtain ⟨p, X, c, hp, hMc, hc9, rfl, ST⟩ := hrel
    obtain ⟨M, hM⟩ : ∃ M, N - p = M := ⟨_, rfl⟩
    rw [hM] at hMc ST
    rw [hM]
    have HMp := Lib.hid hM
    have hMN : p + M ≤ N ∧ N ≤ p + M := by omega
    clear hM
    by_cases hpos : 0 < M
    · have hpos' : (0 : Int) < (M : Int) := by omega
      have PX := Lib.hid (ST.out.2 p wr ST.out.1)
      obtain ⟨b, off, r, g, u, a, rfl, hbs, hq, hqb, c0, c1, c2, c3⟩ := PX.out.at hpos
      have hdr := drop_cons l p noP (by have := HN.out; omega)
      have hq0 : l.getD p noP = (r, g, u, a) := by
        rw [← hq, List.getD_eq_getElem?_getD, List.getD_eq_getElem?_getD, List.getElem?_drop]; simp
      rw [hq0] at hdr
      obtain ⟨rest, hrest⟩ : ∃ rest, l.drop (p + 1) = rest := ⟨_, rfl⟩
      rw [hrest] at hdr
      have HD := Lib.hid hdr
      have HQ : Hid (okP (r, g, u, a)) := Lib.hid hqb
      have HML : Hid ((l.drop p).length = M) := Lib.hid (by simp; have := HN.out; omega)
      simp only [Nat.zero_mul, Nat.zero_add, Nat.add_zero] at c0 c1 c2 c3
      have C0 := Lib.hid (And.intro c0 (And.intro c1 (And.intro c2 c3)))
      clear hdr hq hq0 hrest hqb
      obtain ⟨wo, rfl⟩ : ∃ wo : World, wo = wr := ⟨_, rfl⟩
      gi_wp2
      gi_loopw [4] (fun t4 wx => ∃ n : Nat, 1 ≤ n ∧ n ≤ M ∧ n ≤ 256 ∧ t4 = .int .i64 (n : Int) ∧ Hid (1 + runF (r, g, u, a) 255 rest = n + runF (r, g, u, a) (256 - n) ((l.drop p).drop n) ∧ Ext wo wx)) (fun t4 _ => M - (intOf t4).toNat)
      case atStart => exact ⟨1, by omega, by omega, by omega, rfl, Lib.hid ⟨by rw [HD.out]; rfl, Ext.refl _⟩⟩
      case round =>
        obtain ⟨n, hn1, hnM, hn256, rfl, RT⟩ := hrel
        have PX2 := Lib.hid (PX.out.ext RT.out.2)
        have hzz : b < wr.heap.size := Nat.lt_of_lt_of_le hbs RT.out.2.size
        have k0 := (RT.out.2.cell hbs).trans c0
        have k1 := (RT.out.2.cell hbs).trans c1
        have k2 := (RT.out.2.cell hbs).trans c2
        have k3 := (RT.out.2.cell hbs).trans c3
        have hx : ∀ g, Ext wr (wr.ext g) := fun g => ⟨g, rfl⟩
        have u0 : ∀ g', (wr.ext g').cell? ⟨b, off, none⟩ = some (.int .u8 (r : Int)) := fun g' => ((hx g').cell hzz).trans k0
        have u1 : ∀ g', (wr.ext g').cell? ⟨b, off + 1, none⟩ = some (.int .u8 (g : Int)) := fun g' => ((hx g').cell hzz).trans k1
        have u2 : ∀ g', (wr.ext g').cell? ⟨b, off + 2, none⟩ = some (.int .u8 (u : Int)) := fun g' => ((hx g').cell hzz).trans k2
        have u3 : ∀ g', (wr.ext g').cell? ⟨b, off + 3, none⟩ = some (.int .u8 (a : Int)) := fun g' => ((hx g').cell hzz).trans k3
        clear k0 k1 k2 k3 hx c0 c1 c2 c3
        have done : ∀ (wx : World), Ext wo wx → True := fun _ _ => trivial
        clear done
        by_cases hgo : n < M ∧ n < 256
        · obtain ⟨hgM, hg256⟩ := hgo
          have hlt : (n : Int) < min (M : Int) 256 := by omega
          have hgM' : (n : Int) < (M : Int) := by omega
          obtain ⟨b9, off9, r', g', u', a', e9, _, hx0, hxb, d0, d1, d2, d3⟩ := PX2.out.at hgM
          simp only [Option.some.injEq, Addr.mk.injEq, and_true] at e9
          obtain ⟨rfl, rfl⟩ := e9
          have hx : ∀ g, Ext wr (wr.ext g) := fun g => ⟨g, rfl⟩
          have y0 : ∀ g', (wr.ext g').cell? ⟨b, off + n * 4, none⟩ = some (.int .u8 (r' : Int)) := fun g' => ((hx g').cell hzz).trans d0
          have y1 : ∀ g2, (wr.ext g2).cell? ⟨b, off + (n * 4 + 1), none⟩ = some (.int .u8 (g' : Int)) := fun g' => ((hx g').cell hzz).trans d1
          have y2 : ∀ g2, (wr.ext g2).cell? ⟨b, off + (n * 4 + 2), none⟩ = some (.int .u8 (u' : Int)) := fun g' => ((hx g').cell hzz).trans d2
          have y3 : ∀ g2, (wr.ext g2).cell? ⟨b, off + (n * 4 + 3), none⟩ = some (.int .u8 (a' : Int)) := fun g' => ((hx g').cell hzz).trans d3
          have HXX := Lib.hid (And.intro hx0 hxb)
          have HDD := Lib.hid (drop_cons (l.drop p) n noP (by rw [HML.out]; omega))
          clear hx hx0 hxb d0 d1 d2 d3
          by_cases heq : (r', g', u', a') = (r, g, u, a)
          · simp only [Prod.mk.injEq] at heq
            obtain ⟨rfl, rfl, rfl, rfl⟩ := heq
            have HS : Hid (1 + runF (r', g', u', a') 255 rest = (n + 1) + runF (r', g', u', a') (256 - (n + 1)) ((l.drop p).drop (n + 1))) := Lib.hid (by
              rw [RT.out.1, HDD.out, HXX.out.1]
              obtain ⟨f, hf⟩ : ∃ f, 256 - n = f + 1 := ⟨255 - n, by omega⟩
              rw [hf, runF, if_pos rfl, show 256 - (n + 1) = f by omega]
              omega)
            gi_wp2
            rw [wpIn_wide]
            refine region_flow 15 [] (fun t v => False) (fun t v w' => True) (by kernel_rfl) (by kernel_rfl) ?hq ?hu ?hR ?h
            case hq => intro t v h; exact h.elim
            case hu => intro t h; exact h
            case hR => intros; trivial
            case h =>
              dsimp only [List.take, List.drop]
              repeat (refine Flow.plain rfl rfl ?_; go_big_quiet_step (fail); refine wpQuiet_nil ?_)
              refine Flow.nil fun w3 hx3 hf => ?_
              clear hf
              have E3 := Lib.hid (RT.out.2.trans hx3)
              dsimp only [wpList, Exit.then]
              gi_wp2
              go_roundw
              case rel => exact ⟨n + 1, by omega, by omega, by omega, by go_num, Lib.hid ⟨HS.out, E3.out⟩⟩
              case measure => simp [intOf]; omega
          · have HK : Hid (1 + runF (r, g, u, a) 255 rest = n) := Lib.hid (by
              rw [RT.out.1, HDD.out, HXX.out.1]
              obtain ⟨f, hf⟩ : ∃ f, 256 - n = f + 1 := ⟨255 - n, by omega⟩
              rw [hf, runF, if_neg heq]
              rfl)
            have hcmp : ((r' : Int) == (r : Int) && ((g' : Int) == (g : Int) && ((u' : Int) == (u : Int) && (a' : Int) == (a : Int)))) = false := by
              simp only [Prod.mk.injEq] at heq
              simp
              omega
            have hneq : ∀ wx, (binOp .eql 40 (.agg #[.int .u8 (r' : Int), .int .u8 (g' : Int), .int .u8 (u' : Int), .int .u8 (a' : Int)]) (.agg #[.int .u8 (r : Int), .int .u8 (g : Int), .int .u8 (u : Int), .int .u8 (a : Int)])).run Try.prog wx = .ok (.bool false) wx := fun wx => by
              simp [go_sem, hcmp]
            clear heq hcmp
            gi_wp2
            rw [wpIn_wide]
            refine region_flow 15 [] (fun t v => False) (fun t v w' => True) (by kernel_rfl) (by kernel_rfl) ?hq ?hu ?hR ?h
            case hq => intro t v h; exact h.elim
            case hu => intro t h; exact h
            case hR => intros; trivial
            case h =>
              dsimp only [List.take, List.drop]
              repeat (refine Flow.plain rfl rfl ?_; go_big_quiet_step (fail); refine wpQuiet_nil ?_)
              refine Flow.nil fun w3 hx3 hf => ?_
              clear hf
              have E3 := Lib.hid (RT.out.2.trans hx3)
              dsimp only [wpList, Exit.then]
              have PX3 := Lib.hid (PX.out.ext E3.out)
              have z0 := (E3.out.cell hbs).trans C0.out.1
              have z1 := (E3.out.cell hbs).trans C0.out.2.1
              have z2 := (E3.out.cell hbs).trans C0.out.2.2.1
              have z3 := (E3.out.cell hbs).trans C0.out.2.2.2
              obtain ⟨fn, tmps, assign, body, hy, hR⟩ := HY.out p (r, g, u, a) rest wo w3 ST.out.1 E3.out HD.out HQ.out
              rw [HK.out] at hy hR
              gi_wp2
              refine hR.mono ?_
              rintro e W3 ⟨rfl, hJ3⟩
              have J3 := Lib.hid hJ3
              clear hJ3 hR hy z0 z1 z2 z3
              by_cases hcn : c = n
              · obtain rfl : M = n := by omega
                subst hcn
                gi_wp2
                go_roundw
                case rel => exact ⟨p + c, some ⟨b, off, none⟩, 0, by omega, by omega, by omega, by (congr 1; omega), Lib.hid ⟨J3.out, fun p' W' h => by
                  have e1 : N - (p + c) = 0 := by omega
                  have e2 : l.drop (p + c) = [] := List.drop_eq_nil_of_le (by have := HN.out; omega)
                  rw [e1, e2]; exact pix_end _ (fun _ => trivial)⟩⟩
                case measure => simp; omega
              · gi_wp2
                go_roundw
                case rel => exact ⟨p + n, some ⟨b, off + n * 4, none⟩, c - n, by omega, by omega, by omega, by (congr 1; omega), Lib.hid ⟨J3.out, fun p' W' h => by
                  have h1 := (ST.out.2 p' W' h).from (p := n) (by omega) hcn
                  rw [List.drop_drop, show M - n = N - (p + n) by omega] at h1
                  have hn0 : ¬ n * 4 = 0 := by omega
                  simpa [Addr.add, hn0] using h1⟩⟩
                case measure => simp; omega
        · have hlt : decide ((n : Int) < min (M : Int) 256) = false := by simp; omega
          have HK : Hid (1 + runF (r, g, u, a) 255 rest = n) := Lib.hid (by
            rw [RT.out.1]
            by_cases h : n < M
            · rw [show 256 - n = 0 by omega]; rfl
            · rw [List.drop_eq_nil_of_le (by rw [HML.out]; omega)]
              cases 256 - n <;> rfl)
          clear hgo
          gi_wp2
          rw [wpIn_wide]
          refine region_flow 15 [] (fun t v => False) (fun t v w' => True) (by kernel_rfl) (by kernel_rfl) ?hq ?hu ?hR ?h
          case hq => intro t v h; exact h.elim
          case hu => intro t h; exact h
          case hR => intros; trivial
          case h =>
            dsimp only [List.take, List.drop]
            repeat (refine Flow.plain rfl rfl ?_; go_big_quiet_step (fail); refine wpQuiet_nil ?_)
            refine Flow.nil fun w3 hx3 hf => ?_
            clear hf
            have E3 := Lib.hid (RT.out.2.trans hx3)
            dsimp only [wpList, Exit.then]
            have PX3 := Lib.hid (PX.out.ext E3.out)
            have z0 := (E3.out.cell hbs).trans C0.out.1
            have z1 := (E3.out.cell hbs).trans C0.out.2.1
            have z2 := (E3.out.cell hbs).trans C0.out.2.2.1
            have z3 := (E3.out.cell hbs).trans C0.out.2.2.2
            obtain ⟨fn, tmps, assign, body, hy, hR⟩ := HY.out p (r, g, u, a) rest wo w3 ST.out.1 E3.out HD.out HQ.out
            rw [HK.out] at hy hR
            gi_wp2
            refine hR.mono ?_
            rintro e W3 ⟨rfl, hJ3⟩
            have J3 := Lib.hid hJ3
            clear hJ3 hR hy z0 z1 z2 z3
            by_cases hcn : c = n
            · obtain rfl : M = n := by omega
              subst hcn
              gi_wp2
              go_roundw
              case rel => exact ⟨p + c, some ⟨b, off, none⟩, 0, by omega, by omega, by omega, by (congr 1; omega), Lib.hid ⟨J3.out, fun p' W' h => by
                have e1 : N - (p + c) = 0 := by omega
                have e2 : l.drop (p + c) = [] := List.drop_eq_nil_of_le (by have := HN.out; omega)
                rw [e1, e2]; exact pix_end _ (fun _ => trivial)⟩⟩
              case measure => simp; omega
            · gi_wp2
              go_roundw
              case rel => exact ⟨p + n, some ⟨b, off + n * 4, none⟩, c - n, by omega, by omega, by omega, by (congr 1; omega), Lib.hid ⟨J3.out, fun p' W' h => by
                have h1 := (ST.out.2 p' W' h).from (p := n) (by omega) hcn
                rw [List.drop_drop, show M - n = N - (p + n) by omega] at h1
                have hn0 : ¬ n * 4 = 0 := by omega
                simpa [Addr.add, hn0] using h1⟩⟩
              case measure => simp; omega
    · have hpos' : ¬ (0 : Int) < (M : Int) := by omega
      obtain rfl : p = N := by omega
      gi_wp2
      go_end0
      exact ⟨⟨_, rfl⟩, ST.out.1⟩

end Go.Proofs.Ytncphiphgkjflaa
