import Derived.Test.YtbpdjekibcbaaaaSMisc
import Derived.Test.YtbpdjekibcbaaaaSCrash
import Derived.Test.YtbpdjekibcbaaaaSNew
namespace Go.Proofs.Ytbpdjekibcbaaaa
open Go.RowKit
set_option linter.unusedVariables false
set_option linter.unusedSimpArgs false

/-- a disk, as its bytes and numbers alone -/
structure DM where
  B : List (List Nat)
  W : List (Nat × List Nat)
  sz : Nat
  R : List Nat
  left : Int
  done : Nat
  down : Bool

def DS.m (S : DS) : DM := ⟨S.bytes, S.wbytes, S.size, S.reads, S.left, S.done, S.down⟩
def DK (base : Nat) (w : World) (D : Nat) (m : DM) : Prop := ∃ SA sc WA wc RA rc S, DiskAt base w D SA sc WA wc RA rc S ∧ S.m = m

structure DM.Ok (m : DM) (n : Nat) : Prop where
  sz : 16 ≤ m.sz ∧ m.sz ≤ 512
  nb : 0 < m.B.length ∧ m.B.length ≤ 4096
  bs : ∀ b ∈ m.B, b.length = m.sz
  ws : ∀ y ∈ m.W, y.1 < m.B.length ∧ y.2.length = m.sz
  rl : m.R.length = m.B.length
  wl : m.W.length ≤ 900
  dl : m.done ≤ n
  rs : ∀ r ∈ m.R, r ≤ n
  lf : -1 ≤ m.left ∧ m.left ≤ 9223372036854775807

def DM.new (n size : Nat) : DM := ⟨List.replicate n (List.replicate size 0), [], size, List.replicate n 0, -1, 0, false⟩
def DM.check (m : DM) (i : Int) : Int := if m.down then 40 else if i < 0 ∨ (m.B.length : Int) ≤ i then 30 else 0
def DM.cmd (m : DM) : DM × Int := if m.left = 0 then ({ m with down := true }, 40) else if 0 < m.left then ({ m with left := m.left - 1, done := m.done + 1 }, 0) else ({ m with done := m.done + 1 }, 0)
def DM.write (m : DM) (i : Int) (b : List Nat) : DM × Int := if m.check i = 0 then ({ m with W := m.W ++ [(i.toNat, b)] } : DM).cmd else (m, m.check i)
def layB (l : List (List Nat)) : List (Nat × List Nat) → List (List Nat)
  | [] => l
  | (i, x) :: r => layB (l.set i x) r
def DM.sync (m : DM) : DM × Int := if m.down then (m, 40) else if m.cmd.2 = 0 then ({ m.cmd.1 with B := layB m.B m.W, W := [] }, 0) else m.cmd
def DM.crash (m : DM) (keep : List Bool) (torn cut : Int) : DM := { m with B := crB (crN m.sz keep torn cut) m.B m.W 0, W := [], R := List.replicate m.R.length 0, left := -1, down := false }
def nowB (d : List Nat) (i : Nat) : List (Nat × List Nat) → List Nat
  | [] => d
  | (j, x) :: r => nowB (if j = i then x else d) i r
def DM.now (m : DM) (i : Nat) : List Nat := nowB (m.B.getD i []) i m.W
def DM.bump (m : DM) (i : Nat) : DM := { m with R := m.R.set i (m.R.getD i 0 + 1) }

theorem nowOf_bytes (i : Nat) : ∀ (r : List (Nat × Sec)) (d : Sec), (nowOf d i r).2.2 = nowB d.2.2 i (r.map fun y => (y.1, y.2.2.2)) := by
  intro r
  induction r with
  | nil => intro d; rfl
  | cons z r ih => intro d; obtain ⟨j, x⟩ := z; simp only [nowOf, List.map_cons, nowB]; rw [ih]; split <;> rfl
theorem layAll_bytes : ∀ (r : List (Nat × Sec)) (l : List Sec), (layAll l r).map (·.2.2) = layB (l.map (·.2.2)) (r.map fun y => (y.1, y.2.2.2)) := by
  intro r
  induction r with
  | nil => intro l; rfl
  | cons z r ih => intro l; obtain ⟨j, x⟩ := z; simp only [layAll, List.map_cons, layB]; rw [ih, List.map_set]
theorem layB_len : ∀ (r : List (Nat × List Nat)) (l : List (List Nat)), (layB l r).length = l.length := by
  intro r
  induction r with
  | nil => intro l; rfl
  | cons z r ih => intro l; obtain ⟨i, b⟩ := z; simp only [layB]; rw [ih, List.length_set]
theorem layB_size (n : Nat) : ∀ (r : List (Nat × List Nat)) (l : List (List Nat)), (∀ b ∈ l, b.length = n) → (∀ y ∈ r, y.2.length = n) → ∀ b ∈ layB l r, b.length = n := by
  intro r
  induction r with
  | nil => intro l h _; exact h
  | cons z r ih =>
    intro l h hr
    obtain ⟨i, b⟩ := z
    simp only [layB]
    refine ih _ (fun c hc => ?_) (fun y hy => hr y (by simp [hy]))
    rcases List.mem_or_eq_of_mem_set hc with hc | rfl
    · exact h c hc
    · exact hr (i, c) (by simp)
theorem nowB_len (n i : Nat) : ∀ (r : List (Nat × List Nat)) (d : List Nat), d.length = n → (∀ y ∈ r, y.2.length = n) → (nowB d i r).length = n := by
  intro r
  induction r with
  | nil => intro d h _; exact h
  | cons z r ih =>
    intro d h hr
    obtain ⟨j, b⟩ := z
    simp only [nowB]
    refine ih _ ?_ (fun y hy => hr y (by simp [hy]))
    split
    · exact hr (j, b) (by simp)
    · exact h

theorem DM.Ok.mono {m : DM} {n n' : Nat} (h : m.Ok n) (hn : n ≤ n') : m.Ok n' :=
  ⟨h.sz, h.nb, h.bs, h.ws, h.rl, h.wl, Nat.le_trans h.dl hn, fun r hr => Nat.le_trans (h.rs r hr) hn, h.lf⟩
theorem DM.Ok.new (n size : Nat) (hn : 1 ≤ n ∧ n ≤ 4096) (hs : 16 ≤ size ∧ size ≤ 512) : (DM.new n size).Ok 0 :=
  ⟨hs, by simp only [DM.new, List.length_replicate]; omega, fun b hb => by simp only [DM.new] at hb; rw [List.eq_of_mem_replicate hb]; simp [DM.new], fun y hy => by simp [DM.new] at hy, by simp [DM.new], by simp [DM.new], by simp [DM.new], fun r hr => by simp only [DM.new] at hr; rw [List.eq_of_mem_replicate hr]; omega, by simp [DM.new]⟩
theorem DM.Ok.cmd {m : DM} {n : Nat} (h : m.Ok n) : m.cmd.1.Ok (n + 1) := by
  obtain ⟨h1, h2, h3, h4, h5, h6, h7, h8, h9⟩ := h
  unfold DM.cmd
  split
  · exact ⟨h1, h2, h3, h4, h5, by dsimp only; omega, by dsimp only; omega, fun r hr => Nat.le_succ_of_le (h8 r hr), h9⟩
  · split
    · exact ⟨h1, h2, h3, h4, h5, by dsimp only; omega, by dsimp only; omega, fun r hr => Nat.le_succ_of_le (h8 r hr), by dsimp only; omega⟩
    · exact ⟨h1, h2, h3, h4, h5, by dsimp only; omega, by dsimp only; omega, fun r hr => Nat.le_succ_of_le (h8 r hr), h9⟩
theorem DM.check_pos {m : DM} {i : Int} (h : m.check i = 0) : m.down = false ∧ 0 ≤ i ∧ i < m.B.length := by
  unfold DM.check at h
  split at h
  · omega
  · split at h
    · omega
    · rename_i h1 h2; exact ⟨by simpa using h1, by omega, by omega⟩
theorem DM.Ok.write {m : DM} {n : Nat} (h : m.Ok n) (i : Int) (b : List Nat) (hb : b.length = m.sz) (hw : m.W.length < 900) : (m.write i b).1.Ok (n + 2) := by
  unfold DM.write
  split
  · rename_i hc
    refine DM.Ok.cmd (n := n + 1) ⟨h.sz, h.nb, h.bs, ?_, h.rl, by simp; omega, by have := h.dl; dsimp only; omega, fun r hr => Nat.le_succ_of_le (h.rs r hr), h.lf⟩
    intro y hy
    have := DM.check_pos hc
    simp only [List.mem_append, List.mem_singleton] at hy
    rcases hy with hy | rfl
    · exact h.ws y hy
    · exact ⟨by dsimp only; omega, hb⟩
  · exact h.mono (by omega)
theorem DM.Ok.sync {m : DM} {n : Nat} (h : m.Ok n) : m.sync.1.Ok (n + 1) := by
  unfold DM.sync
  split
  · exact h.mono (by omega)
  · split
    · have h2 := h.cmd
      have e1 : m.cmd.1.B = m.B := by unfold DM.cmd; split <;> (try split) <;> rfl
      have e2 : m.cmd.1.sz = m.sz := by unfold DM.cmd; split <;> (try split) <;> rfl
      refine ⟨h2.sz, by dsimp only; rw [layB_len]; exact h.nb, ?_, fun y hy => by simp at hy, by dsimp only; rw [layB_len, h2.rl, e1], by simp, h2.dl, h2.rs, h2.lf⟩
      dsimp only
      rw [e2]
      exact layB_size m.sz _ _ h.bs (fun y hy => (h.ws y hy).2)
    · exact h.cmd
theorem DM.Ok.bump {m : DM} {n : Nat} (h : m.Ok n) (i : Nat) : (m.bump i).Ok (n + 1) := by
  refine ⟨h.sz, h.nb, h.bs, h.ws, by simp [DM.bump, h.rl], by have := h.wl; simp [DM.bump]; omega, by have := h.dl; simp [DM.bump]; omega, ?_, h.lf⟩
  intro r hr
  simp only [DM.bump] at hr
  rcases List.mem_or_eq_of_mem_set hr with hr | rfl
  · exact Nat.le_succ_of_le (h.rs r hr)
  · by_cases hi : i < m.R.length
    · rw [List.getD_eq_getElem?_getD, List.getElem?_eq_getElem hi]
      have := h.rs _ (List.getElem_mem hi)
      simp; omega
    · rw [List.getD_eq_getElem?_getD, List.getElem?_eq_none (by omega)]; simp
theorem crN_le (sz : Nat) (keep : List Bool) (torn cut : Int) (k : Nat) : crN sz keep torn cut k ≤ sz := by
  unfold crN
  split
  · omega
  · split <;> omega
theorem DM.Ok.crash {m : DM} {n : Nat} (h : m.Ok n) (keep : List Bool) (torn cut : Int) : (m.crash keep torn cut).Ok n := by
  refine ⟨h.sz, by simp only [DM.crash, crB_len]; exact h.nb, ?_, fun y hy => by simp [DM.crash] at hy, by simp only [DM.crash, crB_len, List.length_replicate]; exact h.rl, by simp [DM.crash], h.dl, fun r hr => by simp only [DM.crash] at hr; rw [List.eq_of_mem_replicate hr]; omega, by simp [DM.crash]⟩
  simp only [DM.crash]
  exact crB_size _ _ (crN_le m.sz keep torn cut) _ _ _ h.bs (fun y hy => ⟨(h.ws y hy).2, (h.ws y hy).1⟩)
theorem DM.Ok.nowLen {m : DM} {n : Nat} (h : m.Ok n) {i : Nat} (hi : i < m.B.length) : (m.now i).length = m.sz := by
  refine nowB_len m.sz i _ _ ?_ (fun y hy => (h.ws y hy).2)
  rw [List.getD_eq_getElem?_getD, List.getElem?_eq_getElem hi]
  exact h.bs _ (List.getElem_mem hi)

theorem DK.ext {base : Nat} {w w' : World} {D : Nat} {m : DM} (h : DK base w D m) (he : Ext w w') : DK base w' D m := by
  obtain ⟨SA, sc, WA, wc, RA, rc, S, h1, h2⟩ := h
  exact ⟨SA, sc, WA, wc, RA, rc, S, h1.ext he, h2⟩

theorem new_d (n size : Nat) (w : World) (hn : 1 ≤ n ∧ n ≤ 4096) (hs : 16 ≤ size ∧ size ≤ 512) :
    Calls Try.prog 11 #[.int .i64 (n : Int), .int .i64 (size : Int)] w fun e w' => ∃ D, e = .returned (.pointer (some ⟨D, 0, none⟩)) ∧ DK w.heap.size w' D (DM.new n size) ∧ Ext w w' := by
  refine (new_any n size w hn hs).mono ?_
  rintro e w' ⟨D, he, ⟨SA, sc, RA, rc, secs, hD, hb⟩, hE⟩
  exact ⟨D, he, ⟨SA, sc, none, 0, RA, rc, _, hD, by simp only [DS.m, DS.new, DS.bytes, DS.wbytes, DM.new, hb, List.map_nil]⟩, hE⟩

theorem DS.cmd_m (S : DS) : S.cmd.1.m = S.m.cmd.1 ∧ S.cmd.2 = S.m.cmd.2 := by
  unfold DS.cmd DM.cmd DS.m
  dsimp only
  split
  · exact ⟨rfl, rfl⟩
  · split <;> exact ⟨rfl, rfl⟩
theorem DS.check_m (S : DS) (i : Int) : S.checkI i = S.m.check i := by
  simp only [DS.checkI, DM.check, DS.m, DS.bytes, List.length_map]
theorem DS.put_m (S : DS) (i : Nat) (x : Sec) : (S.put i x).m = { S.m with W := S.m.W ++ [(i, x.2.2)] } := by
  simp [DS.put, DS.m, DS.bytes, DS.wbytes]

theorem write_d {base : Nat} {D : Nat} {m : DM} {n : Nat} (i : Int) (v : Value) (b : List Nat) (w : World) (h : DK base w D m) (hok : m.Ok n) (hn : n ≤ 900000) (hb : Bytes w v b) (hbase : base ≤ w.heap.size) (hlen : b.length = m.sz) :
    Calls Try.prog 32 #[.pointer (some ⟨D, 0, none⟩), .int .i64 i, v] w fun e w' => e = .returned (.int .i64 (m.write i b).2) ∧ DK base w' D (m.write i b).1 ∧ Keep w w' (Tch base w) := by
  obtain ⟨SA, sc, WA, wc, RA, rc, S, h1, rfl⟩ := h
  by_cases hc : S.m.check i = 0
  · have hp := DM.check_pos hc
    have hi : ((i.toNat : Nat) : Int) = i := by omega
    have hl : S.wait.length ≤ 900 := by have := hok.wl; simpa [DS.m, DS.wbytes] using this
    have hz := hok.sz
    have hlf := hok.lf
    have hdl := hok.dl
    have hnb := hok.nb
    simp only [DS.m] at hz hlf hdl hnb hlen hp
    unfold DM.write
    rw [if_pos hc]
    have := write_ok i.toNat v b w h1 hb hbase (by rw [hi, DS.check_m]; exact hc) hlen (by omega) (by omega) (by omega) (by omega) (by omega)
    rw [hi] at this
    refine this.mono ?_
    rintro e w' ⟨A, cap, WA', wc', he, hD, hK⟩
    have e1 := DS.put_m S i.toNat (A, cap, b)
    have e2 := DS.cmd_m (S.put i.toNat (A, cap, b))
    rw [e1] at e2
    exact ⟨by rw [he, e2.2], ⟨_, _, _, _, _, _, _, hD, e2.1⟩, hK⟩
  · unfold DM.write
    rw [if_neg hc]
    refine (write_err i v w h1 (by rw [DS.check_m]; exact hc)).mono ?_
    rintro e w' ⟨he, rfl⟩
    exact ⟨by rw [he, DS.check_m], ⟨_, _, _, _, _, _, _, h1, rfl⟩, Keep.refl _ _⟩

theorem sync_d {base : Nat} {D : Nat} {m : DM} {n : Nat} (w : World) (h : DK base w D m) (hok : m.Ok n) (hn : n ≤ 900000) (hbase : base ≤ w.heap.size) :
    Calls Try.prog 33 #[.pointer (some ⟨D, 0, none⟩)] w fun e w' => e = .returned (.int .i64 m.sync.2) ∧ DK base w' D m.sync.1 ∧ Keep w w' (Tch base w) := by
  obtain ⟨SA, sc, WA, wc, RA, rc, S, h1, rfl⟩ := h
  have hl : S.wait.length ≤ 900 := by have := hok.wl; simpa [DS.m, DS.wbytes] using this
  have hlf := hok.lf
  have hdl := hok.dl
  have hnb := hok.nb
  simp only [DS.m, DS.bytes, List.length_map] at hlf hdl hnb
  refine (sync_any w h1 hbase (by omega) (fun x hx => ?_) (by omega) (by omega) (by omega)).mono ?_
  · have := (hok.ws (x.1, x.2.2.2) (List.mem_map.2 ⟨x, hx, rfl⟩)).1
    simpa [DS.m, DS.bytes] using this
  · rintro e w' ⟨he, ⟨WA', wc', hD⟩, hK⟩
    have e1 := DS.cmd_m S
    have : S.sync.1.m = S.m.sync.1 ∧ S.sync.2 = S.m.sync.2 := by
      unfold DS.sync DM.sync
      by_cases hd : S.down = true
      · have hd2 : S.m.down = true := hd
        rw [if_pos hd, if_pos hd2]; exact ⟨rfl, rfl⟩
      · have hd2 : ¬ S.m.down = true := hd
        rw [if_neg hd, if_neg hd2, ← e1.2]
        by_cases hc : S.cmd.2 = 0
        · rw [if_pos hc, if_pos hc]
          refine ⟨?_, rfl⟩
          rw [← e1.1]
          have hs : S.cmd.1.safe = S.safe := by unfold DS.cmd; split <;> (try split) <;> rfl
          simp only [DS.m, DS.lay, DS.bytes, DS.wbytes, List.map_nil, layAll_bytes, hs]
        · rw [if_neg hc, if_neg hc]; exact ⟨e1.1, e1.2⟩
    exact ⟨by rw [he, this.2], ⟨_, _, _, _, _, _, _, hD, this.1⟩, hK⟩

theorem crash_d {base : Nat} {D : Nat} {m : DM} {n : Nat} (kv : Value) (kl : List Bool) (torn cut : Int) (w : World) (h : DK base w D m) (hok : m.Ok n) (hn : n ≤ 900000) (hbase : base ≤ w.heap.size) (hkv : Bools base w kv kl) (hkl : kl.length ≤ 1000)
    (ht : -9223372036854775808 ≤ torn ∧ torn ≤ 9223372036854775807) (hc : -9223372036854775808 ≤ cut ∧ cut ≤ 9223372036854775807) :
    Calls Try.prog 22 #[.pointer (some ⟨D, 0, none⟩), kv, .int .i64 torn, .int .i64 cut] w fun e w' => (∃ v, e = .returned v) ∧ DK base w' D (m.crash kl torn cut) ∧ Keep w w' (Tch base w) := by
  obtain ⟨SA, sc, WA, wc, RA, rc, S, h1, rfl⟩ := h
  have hl : S.wait.length ≤ 900 := by have := hok.wl; simpa [DS.m, DS.wbytes] using this
  have hnb := hok.nb
  have hz := hok.sz
  have hrl := hok.rl
  simp only [DS.m, DS.bytes, List.length_map] at hnb hz hrl
  refine (crash_any kv kl torn cut w h1 hbase hkv hkl ht hc (by omega) (fun x hx => ?_) (by omega) (fun x hx => ?_) (by omega) (by omega) (by omega)).mono ?_
  · have := hok.ws (x.1, x.2.2.2) (List.mem_map.2 ⟨x, hx, rfl⟩)
    simpa [DS.m, DS.bytes] using this
  · exact hok.bs x.2.2 (List.mem_map.2 ⟨x, hx, rfl⟩)
  · rintro e w' ⟨he, ⟨WA', wc', S', hD, hS⟩, hK⟩
    refine ⟨he, ⟨_, _, _, _, _, _, S', hD, ?_⟩, hK⟩
    simp only [DS.m, DM.crash, hS.bytes, hS.size, hS.reads, hS.left, hS.done, hS.down]
    simp [DS.wbytes, hS.wait]

theorem read_d {base : Nat} {D : Nat} {m : DM} {n : Nat} (i : Nat) (w : World) (h : DK base w D m) (hok : m.Ok n) (hn : n ≤ 900000) (hc : m.check (i : Int) = 0) :
    Calls Try.prog 35 #[.pointer (some ⟨D, 0, none⟩), .int .i64 (i : Int)] w fun e w' => ∃ A cap, e = .returned (.tuple #[.slice A m.sz cap, .int .i64 0]) ∧ Own w.heap.size w' A m.sz cap (m.now i) ∧ DK base w' D (m.bump i) ∧ Keep w w' (Tch base w) := by
  have hp := DM.check_pos hc
  obtain ⟨SA, sc, WA, wc, RA, rc, S, h1, rfl⟩ := h
  have hl : S.wait.length ≤ 900 := by have := hok.wl; simpa [DS.m, DS.wbytes] using this
  have hnb := hok.nb
  have hz := hok.sz
  have hrl := hok.rl
  have hib : i < S.safe.length := by have := hp.2.2; simp only [DS.m, DS.bytes, List.length_map] at this; omega
  have e1 : (S.now i).2.2 = S.m.now i := by
    unfold DS.now DM.now
    rw [nowOf_bytes]
    simp only [DS.m, DS.bytes, DS.wbytes, List.getD_eq_getElem?_getD, List.getElem?_map, List.getElem?_eq_getElem hib]
    rfl
  have e2 : (S.now i).2.2.length = S.m.sz := by rw [e1]; exact hok.nowLen (by have := hp.2.2; omega)
  have hrd : S.reads.getD i 0 ≤ 1000000 := by
    rw [List.getD_eq_getElem?_getD]
    cases h : S.reads[i]? with
    | none => simp
    | some r => have := hok.rs r (List.mem_of_getElem? h); simp; omega
  simp only [DS.m, DS.bytes, List.length_map] at hnb hz hrl
  refine (read_ok i w h1 (by rw [DS.check_m]; exact hc) hib hrl (by omega) (by omega) hrd (by rw [e2]; simp only [DS.m]; omega)).mono ?_
  rintro e w' ⟨A, cap, he, hO, hD, hK⟩
  rw [e2] at he hO
  rw [e1] at hO
  exact ⟨A, cap, he, hO, ⟨_, _, _, _, _, _, _, hD, rfl⟩, hK⟩

theorem read_d_err {base : Nat} {D : Nat} {m : DM} (i : Int) (w : World) (h : DK base w D m) (hc : m.check i ≠ 0) :
    Calls Try.prog 35 #[.pointer (some ⟨D, 0, none⟩), .int .i64 i] w fun e w' => e = .returned (.tuple #[.slice none 0 0, .int .i64 (m.check i)]) ∧ w' = w := by
  obtain ⟨SA, sc, WA, wc, RA, rc, S, h1, rfl⟩ := h
  have := read_err i w h1 (by rw [DS.check_m]; exact hc)
  rwa [DS.check_m] at this

end Go.Proofs.Ytbpdjekibcbaaaa
