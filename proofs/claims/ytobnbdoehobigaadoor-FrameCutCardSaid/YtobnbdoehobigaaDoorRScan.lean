import Derived.Test.YtobnbdoehobigaaDoorRsc
import Derived.Test.YtobnbdoehobigaaDoorFlow
namespace Go.Proofs.YtobnbdoehobigaaDoor
open Go.RowKit Go.Shelf
set_option linter.unusedVariables false
set_option linter.unusedSimpArgs false

/-- the document's scan, between two records -/
def RSt (w wr : World) (b : List Nat) (seq0 : Int) (p : Nat) (sq : Int) (v : Value) (rs : List Rec) : Prop :=
  Ext w wr ∧ RRecs w.heap.size wr v rs ∧ (-9223372036854775808 ≤ sq ∧ sq ≤ 9223372036854775807) ∧ (17 * rs.length ≤ p ∧ p ≤ b.length) ∧
  scanF (b.length + 1) b seq0 = (rs.map recPure ++ (scanF (b.length + 1 - rs.length) (b.drop p) sq).1, p + (scanF (b.length + 1 - rs.length) (b.drop p) sq).2)

theorem RSt.stop {w wr : World} {b : List Nat} {seq0 : Int} {p : Nat} {sq : Int} {v : Value} {rs : List Rec} (h : RSt w wr b seq0 p sq v rs) (hs : ∀ f, scanF f (b.drop p) sq = ([], 0)) : scanF (b.length + 1) b seq0 = (rs.map recPure, p) := by
  rw [h.2.2.2.2, hs]; simp

def RPost (w w' : World) (b : List Nat) (seq0 : Int) (e : Ending) : Prop := ∃ v' rs e', e = .returned (.tuple #[v', .int .i64 ((e' : Nat) : Int)]) ∧ RRecs w.heap.size w' v' rs ∧ Ext w w' ∧ scanF (b.length + 1) b seq0 = (rs.map recPure, e')

theorem RSt.post {w wr : World} {b : List Nat} {seq0 : Int} {p : Nat} {sq : Int} {v : Value} {rs : List Rec} (h : RSt w wr b seq0 p sq v rs) (hs : ∀ f, scanF f (b.drop p) sq = ([], 0)) : RPost w wr b seq0 (.returned (.tuple #[v, .int .i64 (p : Int)])) :=
  ⟨v, rs, p, rfl, h.2.1, h.1, h.stop hs⟩

theorem RPost.ext {w w1 w2 : World} {b : List Nat} {seq0 : Int} {e : Ending} (h : RPost w w1 b seq0 e) (he : Ext w1 w2) : RPost w w2 b seq0 e := by
  obtain ⟨v', rs, e', h1, h2, h3, h4⟩ := h
  exact ⟨v', rs, e', h1, h2.keep (Keep.ofExt he (fun _ => False)) (fun _ _ h => h), h3.trans he, h4⟩

/-- one more -/
theorem RSt.next {w wr w2 : World} {b : List Nat} {seq0 : Int} {p n : Nat} {sq : Nat} {v v' u : Value} {rs : List Rec} (h : RSt w wr b seq0 p (sq : Int) v rs) (he : Ext w w2) (hr : RRecs w.heap.size w2 v' (rs ++ [((sq : Int), (b.drop p).getD 12 0, u, ((b.drop p).drop 13).take n)]))
    (hb : ∀ i, b.getD i 0 < 256) (hn : beV ((b.drop p).take 4) = n) (hn2 : n ≤ 1048576) (hl : n + 17 ≤ (b.drop p).length) (hs : sq ≤ 9223372036854775807) (hf : frameL sq ((b.drop p).getD 12 0) (((b.drop p).drop 13).take n) = (b.drop p).take (17 + n)) :
    RSt w w2 b seq0 (p + (17 + n)) (wrap64 ((sq : Int) + 1)) v' (rs ++ [((sq : Int), (b.drop p).getD 12 0, u, ((b.drop p).drop 13).take n)]) := by
  obtain ⟨h1, h2, h3, h4, h5⟩ := h
  simp at hl
  refine ⟨he, hr, by unfold wrap64; omega, by simp; omega, ?_⟩
  obtain ⟨f, hf1⟩ : ∃ f, b.length + 1 - rs.length = f + 1 := ⟨b.length - rs.length, by omega⟩
  have hf2 : b.length + 1 - (rs ++ [((sq : Int), (b.drop p).getD 12 0, u, ((b.drop p).drop 13).take n)]).length = f := by simp only [List.length_append, List.length_singleton]; omega
  rw [h5, hf1, hf2, next_frame (getD_drop_lt hb p) hn hn2 (by simp; omega) hs hf, List.drop_drop]
  have e : p + (n + 17) = p + (17 + n) := by omega
  simp only [List.map_append, List.map_cons, List.map_nil, recPure, List.append_assoc, List.singleton_append, List.drop_drop, e]
  rw [Prod.mk.injEq]
  refine ⟨rfl, ?_⟩
  omega

theorem frame_bytes (s k : Nat) (d : List Nat) (hk : k < 256) (hd : ∀ i, d.getD i 0 < 256) : ∀ i, (frameL s k d).getD i 0 < 256 :=
  getD_append_lt (getD_append_lt (getD_append_lt (getD_append_lt (be4_lt _) (be8_lt _)) (lt_one hk)) hd) (be4_lt _)

theorem RSt.next' {w wr w2 : World} {b : List Nat} {seq0 : Int} {p n k : Nat} {sq : Nat} {v v' u : Value} {rs : List Rec} {data sub FL : List Nat} (h : RSt w wr b seq0 p (sq : Int) v rs) (he : Ext w w2) (hr : RRecs w.heap.size w2 v' (rs ++ [((sq : Int), k, u, data)]))
    (hb : ∀ i, b.getD i 0 < 256) (hn : n = beV ((b.drop p).take 4)) (hn2 : n ≤ 1048576) (hl : p + 17 + n ≤ b.length) (hs : sq ≤ 9223372036854775807) (hk : (b.drop p).getD 12 0 = k) (hd : ((b.drop p).drop 13).take n = data) (hsub : (b.drop p).take (17 + n) = sub) (hF : frameL sq k data = FL) (hf : FL = sub) :
    RSt w w2 b seq0 (p + (17 + n)) (wrap64 ((sq : Int) + 1)) v' (rs ++ [((sq : Int), k, u, data)]) := by
  subst hk hd hsub hF
  exact h.next he hr hb hn.symm hn2 (by simp; omega) hs hf

/-- data of a region's own, and a record of them -/
def NewData (w0 : World) (l : List Nat) (v : Value) (w : World) : Prop := Bytes w v l ∧ ∀ a n c, v = .slice (some a) n c → w0.heap.size ≤ a.block ∧ a.block < w.heap.size
def NewRec (w0 : World) (s : Int) (k : Nat) (l : List Nat) (v : Value) (w : World) : Prop :=
  ∃ g A n c, v = .slice (some ⟨g, 0, none⟩) 1 1 ∧ g < w.heap.size ∧ (∀ j u, (recCells (s, k, .slice A n c, l))[j]? = some u → w.cell? ⟨g, j, none⟩ = some u) ∧ NewData w0 l (.slice A n c) w
theorem NewData.ext {w0 w w' : World} {l : List Nat} {v : Value} (h : NewData w0 l v w) (he : Ext w w') : NewData w0 l v w' :=
  ⟨h.1.ext he, fun a n c e => ⟨(h.2 a n c e).1, Nat.lt_of_lt_of_le (h.2 a n c e).2 he.size⟩⟩
theorem NewRec.ext {w0 w w' : World} {s : Int} {k : Nat} {l : List Nat} {v : Value} (h : NewRec w0 s k l v w) (he : Ext w w') : NewRec w0 s k l v w' := by
  obtain ⟨g, A, n, c, e, hg, hc, hd⟩ := h
  exact ⟨g, A, n, c, e, Nat.lt_of_lt_of_le hg he.size, fun j u hj => (he.cell hg).trans (hc j u hj), hd.ext he⟩

theorem new_data {w0 w : World} {x : Value} {l : List Nat} (ty : TypeId) (hE : Ext w0 w) (hx : Bytes w x l) (hl : l.length ≤ 70368744177664) :
    ∃ v w', (Builtin.append_ #[22, 22] ty #[.slice none 0 0, x]).run Tryd.prog w = .ok v w' ∧ Ext w w' ∧ (∃ A n c, v = .slice A n c) ∧ NewData w0 l v w' := by
  obtain ⟨A, n, c, w', hr, hO, hg⟩ := run_app ty (Own.nil w.heap.size w) hx (by simpa using hl) (Nat.le_refl _)
  refine ⟨_, w', hr, (Ext.refl w).grown hg (fun k h => by simp [Value.ownBlock] at h), ⟨A, n, c, rfl⟩, by simpa using hO.bytes, fun a n' c' e => ?_⟩
  simp only [Value.slice.injEq] at e
  obtain ⟨rfl, _, _⟩ := e
  have := hO.2.1.lt a.block rfl
  exact ⟨Nat.le_trans hE.size this.1, this.2⟩

theorem wpList_rrec {B : Nat} {W W' : World} {v : Value} {rs : List Rec} {S : Nat → Prop} {ops : Array Oper} {rest : List Oper} {o : Oper} {a : Act} {Q : Exit → Act → World → Prop} (hgd : o.guard = none) (s y : Operand)
    (ho : o.op = .call { callee := .builtin .append, args := #[s, y], argTypes := #[55, 55] }) (g : Nat) (r : Rec) (hs : a.eval s = v) (hy : a.eval y = .slice (some ⟨g, 0, none⟩) 1 1)
    (h : RRecs B W v rs) (he : Keep W W' S) (hS : ∀ k, B ≤ k → ¬ S k) (hc : ∀ j u, (recCells r)[j]? = some u → W'.cell? ⟨g, j, none⟩ = some u)
    (h1 : (recCells r).all (fun u => u.oneCell') = true) (hlen : rs.length ≤ 1000000) (hB : B ≤ W.heap.size) (hd : ∃ A n c, r.2.2.1 = .slice A n c ∧ Bytes W' (.slice A n c) r.2.2.2 ∧ ∀ a, A = some a → W.heap.size ≤ a.block ∧ a.block < W'.heap.size)
    (hK : ∀ A n c W2, RRecs B W2 (.slice A n c) (rs ++ [r]) → W'.grownBy W2 v.ownBlock → wpList Tryd.prog ops Q rest (a.put o.dst (.slice A n c)) W2) : wpList Tryd.prog ops Q (o :: rest) a W' := by
  refine wpList_plain hgd fun K hK' => ?_
  obtain ⟨A, n, c, W2, hr, h2, h3⟩ := run_rrec o.type g r h he hS hc h1 hlen hB hd
  unfold Oper.wp execOp
  simp only [ho, resolve, invoke, builtin, Sem.run_bind, Sem.run_pure, Result.andThen_ok, List.map_toArray, List.map_cons, List.map_nil, hs, hy, hr]
  exact hK' _ _ (hK A n c W2 h2 h3)

set_option maxRecDepth 100000 in
set_option maxHeartbeats 6400000 in
theorem refScan_any (v : Value) (b : List Nat) (seq : Int) (w : World) (hb : Bytes w v b) (hl : b.length ≤ 1000000) (h1 : -9223372036854775808 ≤ seq) (h2 : seq ≤ 9223372036854775807) :
    Calls Tryd.prog 27 #[v, .int .i64 seq] w fun e w' => RPost w w' b seq e := by
  have B := Lib.hid hb
  have HL := Lib.hid hl
  obtain ⟨X, c, rfl, c2, c3, _, c5, c6⟩ := hb
  have H5 := Lib.hid c5
  have C6 := Lib.hid c6
  obtain ⟨N, hN⟩ : ∃ N, b.length = N := ⟨_, rfl⟩
  rw [hN] at hl c2 C6 B
  rw [hN]
  have HN := Lib.hid hN
  have H0 : Hid (RSt w w b seq 0 seq (.slice none 0 0) []) := Lib.hid ⟨Ext.refl _, RRecs.nil _ _, ⟨h1, h2⟩, by simp, by simp⟩
  clear hN c5 c6
  go_enter Tryd.func27, Tryd.ntmps27
  go_wp2
  go_loopw [1, 6, 7] (fun t1 t6 t7 wr => ∃ (p : Nat) (sq : Int) (v : Value) (rs : List Rec), t1 = .int .i64 sq ∧ v = t6 ∧ t7 = .int .i64 (p : Int) ∧ p ≤ N ∧ (-9223372036854775808 ≤ sq ∧ sq ≤ 9223372036854775807) ∧ Hid (RSt w wr b seq p sq v rs)) (fun _ _ t7 _ => N - (intOf t7).toNat)
  case atStart => exact ⟨0, seq, .slice none 0 0, [], rfl, rfl, rfl, by omega, ⟨h1, h2⟩, H0⟩
  case round =>
    clear H0 h1 h2
    obtain ⟨p, sq, v, rs, rfl, rfl, rfl, hp, ⟨q1, q2⟩, ST⟩ := hrel
    by_cases hc1 : p + 17 ≤ N
    · have hc1' : (p : Int) + 17 ≤ (N : Int) := by omega
      by_cases hc2 : 0 ≤ sq
      · obtain ⟨s, rfl⟩ : ∃ s : Nat, sq = s := ⟨sq.toNat, by omega⟩
        obtain ⟨bb, off, rfl, hbs, hcells⟩ := C6.out (by omega)
        have hE := ST.out.1
        have HC : Hid (∀ i, i < N → wr.cell? ⟨bb, off + i, none⟩ = some (.int .u8 ((b.getD i 0 : Nat) : Int))) := Lib.hid (fun i hi => (hE.cell hbs).trans (hcells i hi))
        have hbw : bb < wr.heap.size := Nat.lt_of_lt_of_le hbs hE.size
        have HB := Lib.hid (B.out.ext hE)
        clear hE hcells
        go_wp2
        go_loopw [8, 9] (fun t8 t9 wx => ∃ (i n : Nat), i ≤ 4 ∧ t8 = .int .i64 (n : Int) ∧ t9 = .int .i64 (i : Int) ∧ n ≤ 4294967295 ∧ Hid (n = beV (((b.drop p).take i))) ∧ wx = wr) (fun _ t9 _ => 4 - (intOf t9).toNat)
        case atStart => exact ⟨0, 0, by omega, rfl, rfl, by omega, Lib.hid (by simp [beV]), rfl⟩
        case round =>
          obtain ⟨i, n, hi, rfl, rfl, hnb, HI, rfl⟩ := hrel
          by_cases hi4 : i < 4
          · have hi4' : (i : Int) < 4 := by omega
            have hx := HC.out (p + i) (by omega)
            obtain ⟨x, hxe⟩ : ∃ x, b.getD (p + i) 0 = x := ⟨_, rfl⟩
            rw [hxe] at hx
            have hxb : (x : Int) < 256 := by have := H5.out (p + i); omega
            have HI2 : Hid (n * 256 + x = beV ((b.drop p).take (i + 1)) ∧ n * 256 + x ≤ 4294967295) := by
              refine Lib.hid ?_
              have e : beV ((b.drop p).take (i + 1)) = n * 256 + x := by rw [beV_take _ _ (by simp; have := HN.out; omega), ← HI.out, getD_drop, hxe]
              have h4 : beV ((b.drop p).take (i + 1)) < 256 ^ (i + 1) := beV_lt _ (getD_drop_lt H5.out p) _ (by simp; have := HN.out; omega)
              have h5 : 256 ^ (i + 1) ≤ 256 ^ 4 := Nat.pow_le_pow_right (by omega) (by omega)
              have h6 : (256 : Nat) ^ 4 = 4294967296 := by decide
              omega
            clear hxe
            go_wp2
            go_roundw
            case rel => exact ⟨i + 1, n * 256 + x, by omega, by go_num, by go_num, HI2.out.2, Lib.hid HI2.out.1, trivial⟩
            case measure => simp [intOf]; omega
          · have hi4' : ¬ (i : Int) < 4 := by omega
            obtain rfl : i = 4 := by omega
            by_cases hwide : 1048576 < n ∨ N < p + 17 + n
            · have HP := Lib.hid (ST.out.post (fun f => stop_wide HI.out.symm (hwide.imp id (fun h => by simp; have := HN.out; omega))))
              by_cases hw1 : 1048576 < n
              · have hw1' : (1048576 : Int) < (n : Int) := by omega
                go_wp2
                exact bodyPost_ret (v := .tuple #[v, .int .i64 (p : Int)]) (by simp [results, Tryd.results27, go_sem]) rfl HP.out
              · have hw1' : ¬ (1048576 : Int) < (n : Int) := by omega
                have hw2' : (N : Int) < (p : Int) + 17 + (n : Int) := by omega
                clear hwide
                go_wp2
                exact bodyPost_ret (v := .tuple #[v, .int .i64 (p : Int)]) (by simp [results, Tryd.results27, go_sem]) rfl HP.out
            · have hn1 : (n : Int) ≤ 1048576 := by omega
              have hn2 : (p : Int) + 17 + (n : Int) ≤ (N : Int) := by omega
              clear hwide hi4 hi4'
              have k12 := HC.out (p + 12) (by omega)
              obtain ⟨k, hk⟩ : ∃ k, (b.drop p).getD 12 0 = k := ⟨_, rfl⟩
              rw [← getD_drop, hk] at k12
              have hkb : (k : Int) ≤ 255 := by have := H5.out (p + 12); rw [← getD_drop, hk] at this; omega
              obtain ⟨data, hdata⟩ : ∃ data, ((b.drop p).drop 13).take n = data := ⟨_, rfl⟩
              obtain ⟨sub, hsub⟩ : ∃ sub, (b.drop p).take (17 + n) = sub := ⟨_, rfl⟩
              have hBd : Bytes wr (.slice (some ⟨bb, off + (p + 13), none⟩) (p + 13 + n - (p + 13)) (c - (p + 13))) data := by
                rw [show p + 13 + n - (p + 13) = n by omega, ← hdata, List.drop_drop]
                exact HB.out.sub (p + 13) n (by have := HN.out; omega)
              have hBs : Bytes wr (.slice (some ⟨bb, off + p, none⟩) (17 + n) (c - p)) sub := by
                rw [← hsub]
                exact HB.out.sub p (17 + n) (by have := HN.out; omega)
              have hdl : data.length = n := by rw [← hdata]; simp; have := HN.out; omega
              have hdb : ∀ i, data.getD i 0 < 256 := by rw [← hdata]; exact getD_take_lt (getD_drop_lt (getD_drop_lt H5.out p) 13) n
              have hsb : ∀ i, sub.getD i 0 < 256 := by rw [← hsub]; exact getD_take_lt (getD_drop_lt H5.out p) _
              have HD := Lib.hid (And.intro hdl (And.intro hdb (And.intro hsb (And.intro hk (And.intro hdata hsub)))))
              have HBd := Lib.hid hBd
              have CR := Lib.hid (fun (wx : World) (hx : Ext wr wx) => refFrame_any s k (.slice (some ⟨bb, off + (p + 13), none⟩) (p + 13 + n - (p + 13)) (c - (p + 13))) data wx (hBd.ext hx) (by omega) (by omega) (by rw [hdl]; omega))
              have fb := frame_bytes s k data (by omega) hdb
              have hse := str_eq (frameL s k data) sub fb hsb
              obtain ⟨FL, hFL⟩ : ∃ FL, frameL s k data = FL := ⟨_, rfl⟩
              rw [hFL] at CR hse
              have HFL := Lib.hid hFL
              have hx : ∀ g, Ext wr (wr.ext g) := fun g => ⟨g, rfl⟩
              have v1 : ∀ g, (wr.ext g).cell? ⟨bb, off + (p + 12), none⟩ = some (.int .u8 (k : Int)) := fun g => ((hx g).cell hbw).trans k12
              have v2 : ∀ g, (convert 22 9 (.slice (some ⟨bb, off + p, none⟩) (17 + n) (c - p))).run Tryd.prog (wr.ext g) = .ok (.string (strOf sub)) (wr.ext g) := fun g => conv_bytes (hBs.ext (hx g))
              have e1 : ¬ c - p = 0 := by omega
              have e2 : ¬ c = p := by omega
              have e3 : (p : Int) + 17 + (n : Int) ≤ (c : Int) := by omega
              have e4 : (p : Int) ≤ (p : Int) + 17 + (n : Int) := by omega
              have e5 : (p : Int) + 13 + (n : Int) ≤ (c : Int) := by omega
              have e6 : ¬ c - (p + 13) = 0 := by omega
              have e7 : ¬ c = p + 13 := by omega
              clear k12 hk hdata hsub hBd hBs hdl hdb hsb hx hFL fb
              by_cases heq : FL = sub
              · have hse1 : ((strOf FL).toList == (strOf sub).toList) = true := by rw [hse]; simpa using heq
                have HEQ := Lib.hid heq
                obtain ⟨SF, hSF⟩ : ∃ SF, strOf FL = SF := ⟨_, rfl⟩
                have HSF := Lib.hid hSF
                rw [hSF] at hse1
                generalize strOf sub = SS at v2 hse1
                clear hse heq hSF
                go_wp2
                refine region_flow 19 [62] (fun t v => match t with | 62 => ∃ A n c, v = .slice A n c | _ => False) (fun t v w' => match t with | 62 => Bytes w' v FL | _ => True) (by kernel_rfl) (by kernel_rfl) ?hq ?hu ?hR ?h
                case hq => intro t v h; split at h <;> simp_all
                case hu => intro t h; split at h <;> simp_all [undef]
                case hR => intro t v w w' h1 h2 h3; split at h1 <;> first | exact h2.ext h3 | trivial
                case h =>
                  dsimp only [List.take, List.drop]
                  repeat (refine Flow.plain rfl rfl ?_; go_big_quiet_step (fail); refine wpQuiet_nil ?_)
                  refine Flow.call Tryd.call25 [.int .i64 s, .int .i64 k, .slice (some ⟨bb, off + (p + 13), none⟩) (p + 13 + n - (p + 13)) (c - (p + 13))] rfl rfl rfl ⟨.slice none 0 0, none, 0, 0, rfl⟩ (fun wx hx hf => (CR.out wx hx).mono ?_) ?_
                  · rintro e w3 ⟨A3, n3, c3, rfl, hO3, hE3⟩; exact ⟨_, rfl, hE3, ⟨A3, n3, c3, rfl⟩, hO3.bytes⟩
                  rintro _ ⟨A3, n3, c3, rfl⟩
                  simp only [Act.put, List.setIfInBounds_toArray, List.set_cons_zero, List.set_cons_succ]
                  refine Flow.use (.string SF) rfl rfl (fun wx hx hf => run_conv 22 9 (.tmp 62) rfl ?_) ?_
                  · have h62 := hf.at 62 (by kernel_rfl) ⟨_, _, _, rfl⟩
                    rw [← HSF.out]; exact conv_bytes h62
                  simp only [Act.put, List.setIfInBounds_toArray, List.set_cons_zero, List.set_cons_succ]
                  repeat (refine Flow.plain rfl rfl ?_; go_big_quiet_step (fail); refine wpQuiet_nil ?_)
                  refine Flow.nil fun w2 hx hf => ?_
                  clear hf
                  go_wp2
                  obtain ⟨g2, rfl⟩ := hx
                  have v1' : ∀ g, ((wr.ext g2).ext g).cell? ⟨bb, off + (p + 12), none⟩ = some (.int .u8 (k : Int)) := fun g => by rw [ext_ext]; exact v1 _
                  have HX := Lib.hid (show Ext wr (wr.ext g2) from ⟨g2, rfl⟩)
                  clear v1 v2
                  refine region_flow 13 [83, 84, 85] (fun t v => match t with | 83 => ∃ A n c, v = .slice A n c | 84 => ∃ A n c, v = .agg #[.int .i64 s, .int .i64 k, .slice A n c] | 85 => ∃ g, v = .slice (some ⟨g, 0, none⟩) 1 1 | _ => False)
                    (fun t v w' => match t with | 83 => NewData (wr.ext g2) data v w' | 84 => ∃ A n c, v = .agg #[.int .i64 s, .int .i64 k, .slice A n c] ∧ NewData (wr.ext g2) data (.slice A n c) w' | 85 => NewRec (wr.ext g2) s k data v w' | _ => True) (by kernel_rfl) (by kernel_rfl) ?hq ?hu ?hR ?h
                  case hq => intro t v h; split at h <;> simp_all
                  case hu => intro t h; split at h <;> simp_all [undef]
                  case hR => intro t v w w' h1 h2 h3; split at h1 <;> first | exact h2.ext h3 | (obtain ⟨A, n, c, e, h⟩ := h2; exact ⟨A, n, c, e, h.ext h3⟩) | trivial
                  case h =>
                    dsimp only [List.take, List.drop]
                    repeat (refine Flow.plain rfl rfl ?_; go_big_quiet_step (fail); refine wpQuiet_nil ?_)
                    refine Flow.make 83 rfl rfl rfl ⟨.slice none 0 0, none, 0, 0, rfl⟩ (fun wx hx hf => ?_) ?_
                    · obtain ⟨v', w', e, h1, h2, h3⟩ := new_data 22 hx (HBd.out.ext (HX.out.trans hx)) (by have := HD.out.1; omega)
                      exact ⟨v', w', run_append (.tmp 81) (.tmp 82) #[22, 22] rfl e, h1, h2, h3⟩
                    rintro _ ⟨A5, n5, c5, rfl⟩
                    simp only [Act.put, List.setIfInBounds_toArray, List.set_cons_zero, List.set_cons_succ]
                    refine Flow.make 84 rfl rfl rfl ⟨.agg #[.int .i64 s, .int .i64 k, .slice none 0 0], none, 0, 0, rfl⟩ (fun wx hx hf => ⟨.agg #[.int .i64 s, .int .i64 k, .slice A5 n5 c5], wx, by kernel_rfl, Ext.refl wx, ⟨_, _, _, rfl⟩, ⟨A5, n5, c5, rfl, hf.at 83 (by kernel_rfl) ⟨A5, n5, c5, rfl⟩⟩⟩) ?_
                    rintro _ ⟨A5, n5, c5, rfl⟩
                    simp only [Act.put, List.setIfInBounds_toArray, List.set_cons_zero, List.set_cons_succ]
                    refine Flow.make 85 rfl rfl rfl ⟨.slice (some ⟨0, 0, none⟩) 1 1, 0, rfl⟩ (fun wx hx hf => ⟨.slice (some ⟨wx.heap.size, 0, none⟩) 1 1, wx.alloc (.cells #[.int .i64 s, .int .i64 k, .slice A5 n5 c5] 58), by kernel_rfl, (Ext.refl wx).alloc _, ⟨_, rfl⟩, ?_⟩) ?_
                    · obtain ⟨A9, n9, c9, e9, h83⟩ := hf.at 84 (by kernel_rfl) ⟨A5, n5, c5, rfl⟩
                      have e9' : Value.agg #[.int .i64 s, .int .i64 k, .slice A5 n5 c5] = .agg #[.int .i64 s, .int .i64 k, .slice A9 n9 c9] := e9
                      simp only [Value.agg.injEq, Array.mk.injEq, List.cons.injEq, Value.slice.injEq, true_and, and_true] at e9'
                      obtain ⟨rfl, rfl, rfl⟩ := e9'
                      refine ⟨wx.heap.size, A5, n5, c5, rfl, by simp, fun j u hj => ?_, NewData.ext h83 ((Ext.refl wx).alloc _)⟩
                      rw [cell_marked _ _ _ _ _ _ rfl]
                      simpa [recCells] using hj
                    rintro _ ⟨g5, rfl⟩
                    simp only [Act.put, List.setIfInBounds_toArray, List.set_cons_zero, List.set_cons_succ]
                    refine Flow.nil fun w5 hx5 hf => ?_
                    obtain ⟨g', A, n', c', e, hg, hc, hd⟩ := hf 85 (by simp) ⟨g5, rfl⟩
                    obtain rfl : g5 = g' := by
                      have e' : (Value.slice (some ⟨g5, 0, none⟩) 1 1) = .slice (some ⟨g', 0, none⟩) 1 1 := e
                      simpa using e'
                    clear hf e
                    have S5 := Lib.hid hd
                    have C5 := Lib.hid hc
                    have X5 := Lib.hid hx5
                    clear hd hc hx5 hg v1'
                    refine wpList_rrec rfl (.tmp 73) (.tmp 85) rfl g5 ((s : Int), k, .slice A n' c', data) rfl rfl (ST.out.2.1.keep (Keep.ofExt HX.out (fun _ => False)) (fun _ _ h => h)) (Keep.ofExt X5.out (fun _ => False)) (fun _ _ h => h) C5.out rfl (by have := ST.out.2.2.2.1; have := HL.out; omega) (ST.out.1.trans HX.out).size ⟨A, n', c', rfl, S5.out.1, fun a e => S5.out.2 a n' c' (by rw [e])⟩ ?_
                    intro A6 n6 c6 W6 hR6 hgr
                    have R6 := Lib.hid hR6
                    have E6 := Lib.hid (((ST.out.1.trans HX.out).trans X5.out).grown hgr (fun k hk => (ST.out.2.1.1.lt k hk).1))
                    have NX := Lib.hid (ST.out.next' E6.out R6.out H5.out HI.out (by omega) (by have := HN.out; omega) (by omega) HD.out.2.2.2.1 HD.out.2.2.2.2.1 HD.out.2.2.2.2.2 HFL.out HEQ.out)
                    clear hR6 hgr
                    by_cases hmax : s = 9223372036854775807
                    · have hmax' : (s : Int) = 9223372036854775807 := by omega
                      have HP := Lib.hid (NX.out.post (fun f => stop_neg (by rw [hmax]; unfold wrap64; omega)))
                      subst hmax
                      go_wp2
                      exact bodyPost_ret (v := .tuple #[.slice A6 n6 c6, .int .i64 ((p : Int) + (17 + (n : Int)))]) (by simp [results, Tryd.results27, go_sem]) rfl (by have := HP.out; simpa using this)
                    · have hmax' : ¬ (s : Int) = 9223372036854775807 := by omega
                      go_wp2
                      go_roundw
                      case rel =>
                        refine ⟨p + (17 + n), wrap64 ((s : Int) + 1), _, _, ?_, rfl, by go_num, by omega, by unfold wrap64; omega, NX⟩
                        rw [show wrap64 ((s : Int) + 1) = (s : Int) + 1 by unfold wrap64; omega]
                      case measure => simp [intOf]; omega
              · have hse1 : ((strOf FL).toList == (strOf sub).toList) = false := by rw [hse]; simpa using heq
                have HP := Lib.hid (ST.out.post (fun f => stop_frame (n := n) (getD_drop_lt H5.out p) HI.out.symm (by omega) (by rw [HD.out.2.2.2.1, HD.out.2.2.2.2.1, HD.out.2.2.2.2.2, HFL.out]; exact heq)))
                obtain ⟨SF, hSF⟩ : ∃ SF, strOf FL = SF := ⟨_, rfl⟩
                have HSF := Lib.hid hSF
                rw [hSF] at hse1
                generalize strOf sub = SS at v2 hse1
                clear hse heq hSF
                go_wp2
                refine region_flow 19 [62] (fun t v => match t with | 62 => ∃ A n c, v = .slice A n c | _ => False) (fun t v w' => match t with | 62 => Bytes w' v FL | _ => True) (by kernel_rfl) (by kernel_rfl) ?hq ?hu ?hR ?h
                case hq => intro t v h; split at h <;> simp_all
                case hu => intro t h; split at h <;> simp_all [undef]
                case hR => intro t v w w' h1 h2 h3; split at h1 <;> first | exact h2.ext h3 | trivial
                case h =>
                  dsimp only [List.take, List.drop]
                  repeat (refine Flow.plain rfl rfl ?_; go_big_quiet_step (fail); refine wpQuiet_nil ?_)
                  refine Flow.call Tryd.call25 [.int .i64 s, .int .i64 k, .slice (some ⟨bb, off + (p + 13), none⟩) (p + 13 + n - (p + 13)) (c - (p + 13))] rfl rfl rfl ⟨.slice none 0 0, none, 0, 0, rfl⟩ (fun wx hx hf => (CR.out wx hx).mono ?_) ?_
                  · rintro e w3 ⟨A3, n3, c3, rfl, hO3, hE3⟩; exact ⟨_, rfl, hE3, ⟨A3, n3, c3, rfl⟩, hO3.bytes⟩
                  rintro _ ⟨A3, n3, c3, rfl⟩
                  simp only [Act.put, List.setIfInBounds_toArray, List.set_cons_zero, List.set_cons_succ]
                  refine Flow.use (.string SF) rfl rfl (fun wx hx hf => run_conv 22 9 (.tmp 62) rfl ?_) ?_
                  · have h62 := hf.at 62 (by kernel_rfl) ⟨_, _, _, rfl⟩
                    rw [← HSF.out]; exact conv_bytes h62
                  simp only [Act.put, List.setIfInBounds_toArray, List.set_cons_zero, List.set_cons_succ]
                  repeat (refine Flow.plain rfl rfl ?_; go_big_quiet_step (fail); refine wpQuiet_nil ?_)
                  refine Flow.nil fun w2 hx hf => ?_
                  clear hf
                  go_wp2
                  exact bodyPost_ret (v := .tuple #[v, .int .i64 (p : Int)]) (by simp [results, Tryd.results27, go_sem]) rfl (HP.out.ext hx)
      · have hc2' : sq < 0 := by omega
        have HP := Lib.hid (ST.out.post (fun f => stop_neg hc2'))
        clear hc2
        go_wp2
        exact bodyPost_ret (v := .tuple #[v, .int .i64 (p : Int)]) (by simp [results, Tryd.results27, go_sem]) rfl HP.out
    · have hc1' : ¬ ((p : Int) + 17 ≤ (N : Int)) := by omega
      have HP := Lib.hid (ST.out.post (fun f => stop_short (by simp; have := HN.out; omega)))
      go_wp2
      exact bodyPost_ret (v := .tuple #[v, .int .i64 (p : Int)]) (by simp [results, Tryd.results27, go_sem]) rfl HP.out

end Go.Proofs.YtobnbdoehobigaaDoor
