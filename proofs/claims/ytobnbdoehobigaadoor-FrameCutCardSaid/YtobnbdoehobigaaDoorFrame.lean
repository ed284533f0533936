import Derived.Test.YtobnbdoehobigaaDoorCat
import Derived.Deep.RegionHeld3
import Derived.Deep.DeepCutAuto
import Derived.Deep.CutBlock
namespace Go.Proofs.YtobnbdoehobigaaDoor
open Go.RowKit
set_option linter.unusedVariables false
set_option linter.unusedSimpArgs false

/-- n as so many bytes, the highest first -/
def be4 (n : Nat) : List Nat := [n / 16777216 % 256, n / 65536 % 256, n / 256 % 256, n % 256]
def be8 (n : Nat) : List Nat := [n / 72057594037927936 % 256, n / 281474976710656 % 256, n / 1099511627776 % 256, n / 4294967296 % 256, n / 16777216 % 256, n / 65536 % 256, n / 256 % 256, n % 256]

/-- a record's frame without its sum, and whole -/
def headL (seq kind : Nat) (data : List Nat) : List Nat := be4 data.length ++ be8 seq ++ [kind] ++ data
def frameL (seq kind : Nat) (data : List Nat) : List Nat := headL seq kind data ++ be4 (4294967295 - crc 4294967295 (headL seq kind data))

theorem Own.mono {b b' : Nat} {w : World} {A : Option Addr} {n cap : Nat} {l : List Nat} (h : Own b w A n cap l) (hb : b' ≤ b) : Own b' w A n cap l := by
  obtain ⟨h1, h2, h3⟩ := h
  refine ⟨h1, ⟨h2.1, ?_⟩, h3⟩
  rcases h2.2 with h | ⟨g, c, cur, e, hg, rest⟩
  · exact .inl h
  · exact .inr ⟨g, c, cur, e, Nat.le_trans hb hg, rest⟩

theorem bytes_at {w : World} {g : Nat} {l : List Nat} (hg : g < w.heap.size) (hb : ∀ i, l.getD i 0 < 256) (hm : l.length ≤ 9223372036854775807) (h : ∀ i, i < l.length → w.cell? ⟨g, i, none⟩ = some (.int .u8 ((l.getD i 0 : Nat) : Int))) :
    Bytes w (.slice (some ⟨g, 0, none⟩) l.length l.length) l :=
  ⟨_, _, rfl, Nat.le_refl _, hm, fun h => (by cases h), hb, fun _ => ⟨g, 0, rfl, hg, fun i hi => by rw [Nat.zero_add]; exact h i hi⟩⟩

theorem be4_lt (n : Nat) : ∀ i, (be4 n).getD i 0 < 256 := by
  intro i
  unfold be4
  match i with
  | 0 | 1 | 2 | 3 => simp <;> omega
  | n + 4 => simp
theorem be8_lt (n : Nat) : ∀ i, (be8 n).getD i 0 < 256 := by
  intro i
  unfold be8
  match i with
  | 0 | 1 | 2 | 3 | 4 | 5 | 6 | 7 => simp <;> omega
  | n + 8 => simp

theorem concat_frame (g gA gB gC : Nat) (w : World) (X : Option Addr) (c : Nat) (l : List Nat) (seq kind : Nat)
    (hs : w.cell? ⟨g, 0, none⟩ = some (.slice (some ⟨gA, 0, none⟩) 4 4) ∧ w.cell? ⟨g, 1, none⟩ = some (.slice (some ⟨gB, 0, none⟩) 8 8) ∧ w.cell? ⟨g, 2, none⟩ = some (.slice (some ⟨gC, 0, none⟩) 1 1) ∧ w.cell? ⟨g, 3, none⟩ = some (.slice X l.length c) ∧
      g < w.heap.size ∧ gA < w.heap.size ∧ gB < w.heap.size ∧ gC < w.heap.size ∧
      w.cell? ⟨gA, 0, none⟩ = some (.int .u8 ((l.length : Int) / 16777216 % 256)) ∧ w.cell? ⟨gA, 1, none⟩ = some (.int .u8 ((l.length : Int) / 65536 % 256)) ∧ w.cell? ⟨gA, 2, none⟩ = some (.int .u8 ((l.length : Int) / 256 % 256)) ∧ w.cell? ⟨gA, 3, none⟩ = some (.int .u8 ((l.length : Int) % 256)) ∧
      w.cell? ⟨gB, 0, none⟩ = some (.int .u8 ((seq : Int) / 72057594037927936 % 256)) ∧ w.cell? ⟨gB, 1, none⟩ = some (.int .u8 ((seq : Int) / 281474976710656 % 256)) ∧ w.cell? ⟨gB, 2, none⟩ = some (.int .u8 ((seq : Int) / 1099511627776 % 256)) ∧ w.cell? ⟨gB, 3, none⟩ = some (.int .u8 ((seq : Int) / 4294967296 % 256)) ∧
      w.cell? ⟨gB, 4, none⟩ = some (.int .u8 ((seq : Int) / 16777216 % 256)) ∧ w.cell? ⟨gB, 5, none⟩ = some (.int .u8 ((seq : Int) / 65536 % 256)) ∧ w.cell? ⟨gB, 6, none⟩ = some (.int .u8 ((seq : Int) / 256 % 256)) ∧ w.cell? ⟨gB, 7, none⟩ = some (.int .u8 ((seq : Int) % 256)) ∧
      w.cell? ⟨gC, 0, none⟩ = some (.int .u8 (kind : Int)))
    (hB : Bytes w (.slice X l.length c) l) (hk : kind ≤ 255 ∧ l.length ≤ 1048576) :
    Calls Tryd.prog 30 #[.slice (some ⟨g, 0, none⟩) 4 4] w fun e w' => ∃ A n cap, e = .returned (.slice A n cap) ∧ Own w.heap.size w' A n cap (headL seq kind l) ∧ Ext w w' := by
  obtain ⟨k0, k1, k2, k3, l0, lA, lB, lC, a0, a1, a2, a3, b0, b1, b2, b3, b4, b5, b6, b7, d0⟩ := hs
  refine concat4 g w _ _ _ _ 4 8 1 _ _ _ _ _ (be4 l.length) (be8 seq) [kind] l k0 k1 k2 k3 l0 (bytes_at (l := be4 l.length) lA (be4_lt _) (by simp [be4]) fun i hi => ?_) (bytes_at (l := be8 seq) lB (be8_lt _) (by simp [be8]) fun i hi => ?_) (bytes_at (l := [kind]) lC ?_ (by simp) fun i hi => ?_) hB (by omega) (by omega) (by omega) (by omega) (by omega)
  · match i, hi with
    | 0, _ => rw [a0]; simp [be4]
    | 1, _ => rw [a1]; simp [be4]
    | 2, _ => rw [a2]; simp [be4]
    | 3, _ => rw [a3]; simp [be4]
  · match i, hi with
    | 0, _ => rw [b0]; simp [be8]
    | 1, _ => rw [b1]; simp [be8]
    | 2, _ => rw [b2]; simp [be8]
    | 3, _ => rw [b3]; simp [be8]
    | 4, _ => rw [b4]; simp [be8]
    | 5, _ => rw [b5]; simp [be8]
    | 6, _ => rw [b6]; simp [be8]
    | 7, _ => rw [b7]; simp [be8]
  · intro i
    match i with
    | 0 => simp; omega
    | n + 1 => simp
  · match i, hi with
    | 0, _ => rw [d0]; simp

set_option maxRecDepth 100000 in
set_option maxHeartbeats 25600000 in
theorem frame_any (seq kind : Nat) (v : Value) (l : List Nat) (w : World) (hT : Tab w) (hb : Bytes w v l) (h1 : seq ≤ 9223372036854775807) (h2 : kind ≤ 255) (h3 : l.length ≤ 1048576) :
    Calls Tryd.prog 23 #[.agg #[.int .i64 seq, .int .i64 kind, v]] w fun e w' => ∃ A n cap, e = .returned (.tuple #[.slice A n cap, .int .i64 0]) ∧ Own w.heap.size w' A n cap (frameL seq kind l) ∧ Ext w w' := by
  have T := Lib.hid hT
  have B := Lib.hid hb
  have HL := Lib.hid (And.intro h2 h3)
  obtain ⟨X, c, rfl, c2, c3, c4, c5, c6⟩ := hb
  clear c2 c3 c4 c5 c6 hT
  have HZ : Hid ((0 : Int) ≤ (l.length : Int) ∧ (l.length : Int) ≤ 18446744073709551615 ∧ (0 : Int) ≤ (seq : Int) ∧ (seq : Int) ≤ 18446744073709551615) := Lib.hid ⟨by omega, by omega, by omega, by omega⟩
  go_enter Tryd.func23, Tryd.ntmps23
  go_upto_region 3 with fail
  go_cut [4] (fun s4 wx => ∃ A n cap, s4 = .slice A n cap ∧ Own w.heap.size wx A n cap (headL seq kind l) ∧ Ext w wx)
  case first =>
    have z1 : IntKind.u64.wrap (l.length : Int) = l.length := by rw [IntKind.wrap_u64]; omega
    have z2 : IntKind.u64.wrap (seq : Int) = seq := by rw [IntKind.wrap_u64]; omega
    have z3 : IntKind.u8.wrap (kind : Int) = kind := by rw [IntKind.wrap_u8]; omega
    go_region_held3 (fun w' => w'.cell? ⟨w.heap.size, 0, none⟩ = some (.int .i64 seq) ∧ w'.cell? ⟨w.heap.size, 1, none⟩ = some (.int .i64 kind) ∧ w'.cell? ⟨w.heap.size, 2, none⟩ = some (.slice X l.length c)) (first | (simp [go_sem]; done) | go_keep)
      (first
        | (go_at_call_of 31 (Value.int IntKind.u64 (l.length : Int)); refine (high_4 (l.length : Int) _ HZ.out.1 HZ.out.2.1).mono ?_; rintro e w' ⟨rfl, rfl⟩)
        | (go_at_call_of 31 (Value.int IntKind.u64 (seq : Int)); refine (high_8 (seq : Int) _ HZ.out.2.2.1 HZ.out.2.2.2).mono ?_; rintro e w' ⟨rfl, rfl⟩)
        | (go_at_call 30; (first | (refine (concat_frame _ (w.heap.size + 1) (w.heap.size + 2) (w.heap.size + 3) _ X c l seq kind ?_ (B.out.ext (by ((repeat (first | exact Ext.refl _ | apply Ext.alloc | apply Ext.drew' | apply Ext.drewN | apply Ext.ext))))) HL.out).mono ?_; · (simp [go_sem]; done)) | (refine (concat_frame _ (w.heap.size + 1) (w.heap.size + 3) (w.heap.size + 2) _ X c l seq kind ?_ (B.out.ext (by ((repeat (first | exact Ext.refl _ | apply Ext.alloc | apply Ext.drew' | apply Ext.drewN | apply Ext.ext))))) HL.out).mono ?_; · (simp [go_sem]; done)) | (refine (concat_frame _ (w.heap.size + 2) (w.heap.size + 1) (w.heap.size + 3) _ X c l seq kind ?_ (B.out.ext (by ((repeat (first | exact Ext.refl _ | apply Ext.alloc | apply Ext.drew' | apply Ext.drewN | apply Ext.ext))))) HL.out).mono ?_; · (simp [go_sem]; done)) | (refine (concat_frame _ (w.heap.size + 2) (w.heap.size + 3) (w.heap.size + 1) _ X c l seq kind ?_ (B.out.ext (by ((repeat (first | exact Ext.refl _ | apply Ext.alloc | apply Ext.drew' | apply Ext.drewN | apply Ext.ext))))) HL.out).mono ?_; · (simp [go_sem]; done)) | (refine (concat_frame _ (w.heap.size + 3) (w.heap.size + 1) (w.heap.size + 2) _ X c l seq kind ?_ (B.out.ext (by ((repeat (first | exact Ext.refl _ | apply Ext.alloc | apply Ext.drew' | apply Ext.drewN | apply Ext.ext))))) HL.out).mono ?_; · (simp [go_sem]; done)) | (refine (concat_frame _ (w.heap.size + 3) (w.heap.size + 2) (w.heap.size + 1) _ X c l seq kind ?_ (B.out.ext (by ((repeat (first | exact Ext.refl _ | apply Ext.alloc | apply Ext.drew' | apply Ext.drewN | apply Ext.ext))))) HL.out).mono ?_; · (simp [go_sem]; done))); rintro e w' ⟨A, n, cap, rfl, hO, g, rfl⟩))
    all_goals
      go_wp2_with fail
      go_meet
      refine ⟨A, n, cap, rfl, hO.mono (by simp [go_sem]), by ((repeat (first | exact Ext.refl _ | apply Ext.alloc | apply Ext.drew' | apply Ext.drewN | apply Ext.ext)))⟩
  case rest =>
    obtain ⟨A, n, cap, rfl, hO, g0, rfl⟩ := hcut
    have hE : Ext w (w.ext g0) := ⟨g0, rfl⟩
    have O := Lib.hid hO
    have E := Lib.hid hE
    have hlen : n = (headL seq kind l).length := hO.1
    have hS : 4294967295 - crc 4294967295 (headL seq kind l) ≤ 4294967295 := by omega
    have HF : Hid (frameL seq kind l = headL seq kind l ++ be4 (4294967295 - crc 4294967295 (headL seq kind l))) := rfl
    have C := Lib.hid (fun (g : Junk) => sum_any (.slice A n cap) (headL seq kind l) (w.ext g0) hO.bytes (T.out.ext hE))
    have HN := Lib.hid hlen
    clear hO hE hlen
    generalize 4294967295 - crc 4294967295 (headL seq kind l) = S at *
    have hS' : (S : Int) ≤ 4294967295 := by omega
    go_wp2_with fail
    refine (C.out default).mono ?_
    rintro e w' ⟨rfl, g, rfl⟩
    go_wp2_with fail
    refine (high_4 (S : Int) _ (by omega) (by omega)).mono ?_
    rintro e w' ⟨rfl, rfl⟩
    have E1 := Lib.hid ((E.out.ext g).alloc (.cells #[.int .u8 ((S : Int) / 16777216 % 256), .int .u8 ((S : Int) / 65536 % 256), .int .u8 ((S : Int) / 256 % 256), .int .u8 ((S : Int) % 256)] 5))
    have O1 := Lib.hid (O.out.ext (((Ext.refl (w.ext g0)).ext g).alloc (.cells #[.int .u8 ((S : Int) / 16777216 % 256), .int .u8 ((S : Int) / 65536 % 256), .int .u8 ((S : Int) / 256 % 256), .int .u8 ((S : Int) % 256)] 5)))
    have Y : Hid (Bytes (((w.ext g0).ext g).alloc (.cells #[.int .u8 ((S : Int) / 16777216 % 256), .int .u8 ((S : Int) / 65536 % 256), .int .u8 ((S : Int) / 256 % 256), .int .u8 ((S : Int) % 256)] 5)) (.slice (some ⟨w.heap.size + (g0.blocks.size + g.blocks.size), 0, none⟩) 4 4) (be4 S)) := by
      show Bytes _ _ _
      refine bytes_at (l := be4 S) (by simp [go_sem]) (be4_lt S) (by simp [be4]) fun i hi => ?_
      match i, hi with
      | 0, _ | 1, _ | 2, _ | 3, _ => simp [go_sem, be4]
    have Z : Hid ((headL seq kind l).length + (be4 S).length ≤ 70368744177664) := by
      show _ ≤ _
      simp [headL, be4, be8]; omega
    go_wp2_with (at_builtin; refine wpList_app rfl (.tmp 41) (.tmp 45) rfl rfl rfl O1.out Y.out Z.out E1.out.size ?_)
    intro D d cap1 w1 hO hgr
    have O2 := Lib.hid hO
    have E2 := Lib.hid (E1.out.grown hgr O1.out.row)
    clear hO hgr
    go_wp2
    refine bodyPost_ret (v := .tuple #[.slice D d cap1, .int .i64 0]) (by simp [results, Tryd.results23, go_sem]) rfl ⟨D, d, cap1, rfl, ?_, E2.out⟩
    rw [HF.out]
    exact O2.out

end Go.Proofs.YtobnbdoehobigaaDoor
