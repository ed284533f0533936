import Derived.Test.YtbpdjekibcbaaaaSWrite
namespace Go.Proofs.Ytbpdjekibcbaaaa
open Go.RowKit
set_option linter.unusedVariables false
set_option linter.unusedSimpArgs false

/-- what waits is laid into the sectors -/
def layAll (l : List Sec) : List (Nat × Sec) → List Sec
  | [] => l
  | (i, x) :: r => layAll (l.set i x) r
theorem layAll_snoc (l : List Sec) : ∀ (r : List (Nat × Sec)) (y : Nat × Sec), layAll l (r ++ [y]) = (layAll l r).set y.1 y.2 := by
  intro r
  induction r generalizing l with
  | nil => intro y; obtain ⟨i, x⟩ := y; rfl
  | cons z r ih => intro y; obtain ⟨i, x⟩ := z; exact ih (l.set i x) y
theorem layAll_len (l : List Sec) : ∀ (r : List (Nat × Sec)), (layAll l r).length = l.length := by
  intro r
  induction r generalizing l with
  | nil => rfl
  | cons z r ih => obtain ⟨i, x⟩ := z; rw [layAll, ih, List.length_set]
def DS.lay (S : DS) (r : List (Nat × Sec)) : DS := { S with safe := layAll S.safe r }
def DS.sync (S : DS) : DS × Int := if S.down then (S, 40) else if S.cmd.2 = 0 then ({ S.cmd.1.lay S.wait with wait := [] }, 0) else S.cmd

theorem flat2 (l : List (Nat × Sec)) (k : Nat) (hk : k < l.length) : (l.flatMap waitV)[k * 2]? = some (.int .i64 ((l[k]).1 : Int)) ∧ (l.flatMap waitV)[k * 2 + 1]? = some (secV (l[k]).2) := by
  induction l generalizing k with
  | nil => simp at hk
  | cons x l ih =>
    cases k with
    | zero => exact ⟨rfl, rfl⟩
    | succ k =>
      have := ih k (by simpa using hk)
      rw [List.flatMap_cons]
      simp only [List.getElem_cons_succ]
      rw [show (k + 1) * 2 = k * 2 + 2 by omega, show k * 2 + 2 + 1 = k * 2 + 1 + 2 by omega]
      exact this

/-- a sector is laid anew -/
theorem lay_mem {base : Nat} {w : World} {D : Nat} {SA : Option Addr} {sc : Nat} {WA : Option Addr} {wc : Nat} {RA : Option Addr} {rc : Nat} {S : DS} {i : Nat} {x : Sec} (h : DiskAt base w D SA sc WA wc RA rc S) (hi : i < S.safe.length) (hx : SecOk base w x) :
    ∃ g, SA = some ⟨g, 0, none⟩ ∧ (w.cell? ⟨g, i, none⟩).isSome = true ∧ w.frozen? ⟨g, i, none⟩ = false ∧ DiskAt base (w.setCell ⟨g, i, none⟩ (secV x)) D SA sc WA wc RA rc { S with safe := S.safe.set i x } ∧ Keep w (w.setCell ⟨g, i, none⟩ (secV x)) (Tch base w) := by
  obtain ⟨g, rfl⟩ := own_some h.rows (by omega)
  have K : Keep w (w.setCell ⟨g, i, none⟩ (secV x)) (fun k => k = g) := Keep.setCell
  have own : Value.ownBlock (.slice (some ⟨g, 0, none⟩) S.safe.length sc) = some g := rfl
  obtain ⟨cur, hcur⟩ := row_type h.rows own
  have ne : ∀ {e size : Nat} {v : Value} {n : Nat} {xs : List Value}, w.ownsRow base e size v n xs → e ≠ 24 → ∀ k, v.ownBlock = some k → ¬ k = g := fun hr hne k hk e => by
    subst e
    obtain ⟨c, hc⟩ := row_type hr hk
    exact hne (type_ne hc hcur)
  have hDg : ¬ D = g := fun e => by subst e; exact absurd (type_ne h.blk hcur) (by decide)
  refine ⟨g, rfl, ?_, h.rows.frozenAt i, ⟨?_, h.lo, ?_, row_keep h.waits K (ne h.waits (by decide)), row_keep h.rds K (ne h.rds (by decide)), fun y hy => ?_, fun y hy => Own.keep (h.okw y hy) K (ne (h.okw y hy).2.1 (by decide))⟩, K.mono fun k e => by subst e; exact ⟨(h.rows.lt k own).1, _, _, _, hcur, .inr (.inl rfl)⟩⟩
  · rw [h.rows.cellAt i (by omega), List.getElem?_map, List.getElem?_eq_getElem hi]; rfl
  · rw [K.block D h.lt hDg, h.blk]
    simp [fields]
  · have := (h.rows.stored i (secV x)).1
    rw [← List.map_set] at this
    simpa using this
  · have hk := fun z hz => Own.keep (base := base) (S := fun k => k = g) (h.oks z hz) K (ne (h.oks z hz).2.1 (by decide))
    rcases List.mem_or_eq_of_mem_set hy with hy | rfl
    · exact hk y hy
    · exact Own.keep hx K (ne hx.2.1 (by decide))

set_option maxRecDepth 100000 in
set_option maxHeartbeats 6400000 in
theorem sync_any {base : Nat} {D : Nat} {SA : Option Addr} {sc : Nat} {WA : Option Addr} {wc : Nat} {RA : Option Addr} {rc : Nat} {S : DS} (w : World) (h : DiskAt base w D SA sc WA wc RA rc S) (hbase : base ≤ w.heap.size)
    (hw : S.wait.length ≤ 1000) (hin : ∀ x ∈ S.wait, x.1 < S.safe.length) (hss : S.safe.length ≤ 10000) (hl : -9223372036854775808 ≤ S.left ∧ S.left ≤ 9223372036854775807) (hd : S.done ≤ 1000000) :
    Calls Try.prog 33 #[.pointer (some ⟨D, 0, none⟩)] w fun e w' => e = .returned (.int .i64 S.sync.2) ∧ (∃ WA' wc', DiskAt base w' D SA sc WA' wc' RA rc S.sync.1) ∧ Keep w w' (Tch base w) := by
  have H := Lib.hid h
  have CM := Lib.hid (command_any w h hl hd)
  have c6 := h.cell 6
  simp only [fields, List.getElem?_toArray, List.getElem?_cons_zero, List.getElem?_cons_succ] at c6
  by_cases hdn : S.down = true
  · have hS : S.sync = (S, 40) := by unfold DS.sync; rw [if_pos hdn]
    rw [hdn] at c6
    rw [hS]
    clear h hdn
    go_enter Try.func33, Try.ntmps33
    go_wp2
    go_ret
    exact ⟨rfl, ⟨WA, wc, H.out⟩, Keep.refl _ _⟩
  · have hdf : S.down = false := by simpa using hdn
    rw [hdf] at c6
    by_cases he : S.cmd.2 = 0
    · have hS : S.sync = ({ S.cmd.1.lay S.wait with wait := [] }, 0) := by unfold DS.sync; rw [if_neg hdn, if_pos he]
      have hsw : S.cmd.1.wait = S.wait := by unfold DS.cmd; split <;> (try split) <;> rfl
      have hsf : S.cmd.1.safe = S.safe := by unfold DS.cmd; split <;> (try split) <;> rfl
      rw [hS]
      rw [he] at CM
      obtain ⟨S1, hS1⟩ : ∃ S1, S.cmd.1 = S1 := ⟨_, rfl⟩
      rw [hS1] at CM hsw hsf ⊢
      rw [← hsw] at hw hin ⊢
      rw [← hsf] at hin hss
      clear hS hS1 he hsw hsf hdn hdf h
      go_enter Try.func33, Try.ntmps33
      go_wp2_with fail
      refine CM.out.mono ?_
      rintro e w1 ⟨rfl, HD1, HK1⟩
      have D1 := Lib.hid HD1
      have K1 := Lib.hid HK1
      have c2 := HD1.cell 2
      simp only [fields, List.getElem?_toArray, List.getElem?_cons_zero, List.getElem?_cons_succ] at c2
      obtain ⟨M, hM⟩ : ∃ M, S1.wait.length = M := ⟨_, rfl⟩
      rw [hM] at c2 hw
      have HM := Lib.hid hM
      have HIN := Lib.hid hin
      clear HD1 HK1 hM hin
      go_wp2
      clear c2 c6
      go_loopw [19] (fun t19 wr => ∃ k : Nat, k ≤ M ∧ t19 = .int .i64 (k : Int) ∧ Hid (DiskAt base wr D SA sc WA wc RA rc (S1.lay (S1.wait.take k)) ∧ Keep w wr (Tch base w))) (fun t19 _ => M - (intOf t19).toNat)
      case atStart => exact ⟨0, by omega, rfl, Lib.hid ⟨D1.out, K1.out⟩⟩
      case round =>
        obtain ⟨k, hk, rfl, ST⟩ := hrel
        by_cases hlt : k < M
        · have hlt' : (k : Int) < (M : Int) := by omega
          have hkl : k < S1.wait.length := by have := HM.out; omega
          obtain ⟨y, hy⟩ : ∃ y, S1.wait[k] = y := ⟨_, rfl⟩
          obtain ⟨f0, f1⟩ := flat2 S1.wait k hkl
          rw [hy] at f0 f1
          obtain ⟨gw, rfl⟩ := own_some ST.out.1.waits (show 0 < S1.wait.length by omega)
          have w0 := ST.out.1.waits.cellAt (k * 2) (show k * 2 < S1.wait.length * 2 by omega)
          have w1' := ST.out.1.waits.cellAt (k * 2 + 1) (show k * 2 + 1 < S1.wait.length * 2 by omega)
          rw [show (S1.lay (S1.wait.take k)).wait = S1.wait from rfl, f0] at w0
          rw [show (S1.lay (S1.wait.take k)).wait = S1.wait from rfl, f1] at w1'
          have hym : y ∈ S1.wait := by rw [← hy]; exact List.getElem_mem hkl
          have hyi := HIN.out y hym
          have hyo : SecOk base wr y.2 := ST.out.1.okw y hym
          obtain ⟨i, x⟩ := y
          simp only at hyi w0 w1' hyo
          have hlw : i < (S1.lay (S1.wait.take k)).safe.length := by simp only [DS.lay, layAll_len]; exact hyi
          have c0 := ST.out.1.cell 0
          have hSl : (S1.lay (S1.wait.take k)).safe.length = S1.safe.length := by simp only [DS.lay, layAll_len]
          simp only [fields, List.getElem?_toArray, List.getElem?_cons_zero, List.getElem?_cons_succ] at c0
          rw [hSl] at c0
          obtain ⟨n, hn⟩ : ∃ n, S1.safe.length = n := ⟨_, rfl⟩
          rw [hn] at c0 hyi hss
          have hyi' : (i : Int) < (n : Int) := by omega
          have hDl := ST.out.1.lt
          have hgl := (ST.out.1.waits.lt gw rfl).2
          unfold secV at w1'
          obtain ⟨g, rfl, hsm, hfz, HL, HKL⟩ := lay_mem (x := x) ST.out.1 hlw hyo
          obtain ⟨u0, hu0⟩ := Option.isSome_iff_exists.1 hsm
          have hgs := (ST.out.1.rows.lt g rfl).2
          have HX := Lib.hid (And.intro HL (ST.out.2.tch HKL))
          have hst : ({ S1.lay (S1.wait.take k) with safe := (S1.lay (S1.wait.take k)).safe.set i x } : DS) = S1.lay (S1.wait.take (k + 1)) := by
            have e : S1.wait.take (k + 1) = S1.wait.take k ++ [(i, x)] := by rw [List.take_succ_eq_append_getElem hkl, hy]
            simp only [DS.lay, e, layAll_snoc]
          rw [hst] at HX
          unfold secV at HX
          have HST := Lib.hid ST.out
          clear hst HL HKL hsm f0 f1 hy hym hkl hlw hSl ST
          go_wp2
          go_region
          all_goals (
            obtain ⟨wn, hwn⟩ : ∃ wn, wr.setCell ⟨g, i, none⟩ (.slice x.1 x.2.2.length x.2.1) = wn := ⟨_, rfl⟩
            rw [hwn] at HX ⊢
            go_wp2
            go_roundw
            case rel => exact ⟨k + 1, by omega, by go_num, Lib.hid ⟨HX.out.1.ext (by (repeat (first | exact Ext.refl _ | apply Ext.drew' | apply Ext.alloc | apply Ext.ext))), HX.out.2.tch (Keep.ofExt (by (repeat (first | exact Ext.refl _ | apply Ext.drew' | apply Ext.alloc | apply Ext.ext))) _)⟩⟩
            case measure => simp [intOf]; omega)
        · have hlt' : ¬ (k : Int) < (M : Int) := by omega
          have hkM : k = M := by omega
          have e : S1.wait.take k = S1.wait := List.take_of_length_le (by have := HM.out; omega)
          have HD2 := ST.out.1
          have HK2 := ST.out.2
          rw [e] at HD2
          have c2 := HD2.cell 2
          have cf := HD2.frozen 2
          simp only [fields, List.getElem?_toArray, List.getElem?_cons_zero, List.getElem?_cons_succ] at c2
          obtain ⟨HP, KP⟩ := HD2.put 2 (.slice none 0 0) { S1.lay S1.wait with wait := [] } SA sc none 0 RA rc (by simp [fields]) HD2.rows (World.ownsRow_nil wr base 79 2) HD2.rds HD2.oks (fun x hx => by simp at hx)
          have HX := Lib.hid (And.intro HP (HK2.tch KP))
          clear HP KP HD2 HK2 ST e
          go_wp2
          exact bodyPost_ret (v := .int .i64 0) (by simp [results, Try.results33, go_sem]) rfl ⟨rfl, ⟨none, 0, HX.out.1⟩, HX.out.2⟩
    · have hS : S.sync = S.cmd := by unfold DS.sync; rw [if_neg hdn, if_neg he]
      rw [hS]
      have he' : (S.cmd.2 == 0) = false := by simpa using he
      obtain ⟨e9, he9⟩ : ∃ e9, S.cmd.2 = e9 := ⟨_, rfl⟩
      rw [he9] at CM he' ⊢
      clear h hdn hdf he hS
      go_enter Try.func33, Try.ntmps33
      go_wp2_with fail
      refine CM.out.mono ?_
      rintro e w1 ⟨rfl, HD1, HK1⟩
      have D1 := Lib.hid HD1
      have K1 := Lib.hid HK1
      go_wp2
      go_ret
      exact ⟨rfl, ⟨WA, wc, D1.out⟩, K1.out⟩

end Go.Proofs.Ytbpdjekibcbaaaa
