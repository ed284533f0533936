import Derived.Test.YtakebbphielbfaaDoorQWr
import Derived.Test.YtakebbphielbfaaDoorQRd
import Derived.Test.YtakebbphielbfaaDoorQFixP
namespace Go.Proofs.YtakebbphielbfaaDoor
open Go.RowKit
set_option linter.unusedVariables false
set_option linter.unusedSimpArgs false
set_option maxRecDepth 100000
set_option maxHeartbeats 6400000

def i64 (a : Int) : Prop := -9223372036854775808 ≤ a ∧ a ≤ 9223372036854775807
theorem inR.i64 {a : Int} (h : inR a) : i64 a := by have := h.1; have := h.2; constructor <;> omega

/-- segments in memory -/
def sgR : Rp Sg where
  n := 7
  cells := fun s => [.int .i64 s.k, .int .i64 s.a.1, .int .i64 s.a.2, .int .i64 s.b.1, .int .i64 s.b.2, .int .i64 s.c.1, .int .i64 s.c.2]
  no := noS
  ok := fun s => i64 s.k ∧ (i64 s.a.1 ∧ i64 s.a.2) ∧ (i64 s.b.1 ∧ i64 s.b.2) ∧ (i64 s.c.1 ∧ i64 s.c.2)
  len := fun _ => rfl
  nok := by unfold noS i64; decide
  pos := by decide
  one := fun x u hu => by simp at hu; rcases hu with h | h | h | h | h | h | h <;> subst h <;> rfl

theorem infoSeg : (Tryd.prog.info? 42).map (fun i => (i.zero, i.size, i.bytes)) = some (some (.agg #[.int .i64 0, .int .i64 0, .int .i64 0, .int .i64 0, .int .i64 0, .int .i64 0, .int .i64 0]), 7, 56) := by kernel_rfl
theorem infoRSeg : (Tryd.prog.info? 34).map (fun i => (i.zero, i.size, i.bytes)) = some (some (.agg #[.int .i64 0, .int .i64 0, .int .i64 0, .int .i64 0, .int .i64 0, .int .i64 0, .int .i64 0]), 7, 56) := by kernel_rfl
theorem sgT : RpT sgR 26 42 := by
  obtain ⟨i0, hi, hz0, hz1, hz2⟩ := info_parts infoSeg
  exact ⟨Tryd.underlying26, i0, hi, ⟨_, hz0, rfl⟩, hz1, by omega⟩
theorem rsgT : RpT sgR 27 34 := by
  obtain ⟨i0, hi, hz0, hz1, hz2⟩ := info_parts infoRSeg
  exact ⟨Tryd.underlying27, i0, hi, ⟨_, hz0, rfl⟩, hz1, by omega⟩

theorem IV.keep {w w' : World} {S : Nat → Prop} (h : IV w) (hk : Keep w w' S) (hS : ∀ k, k ≤ 9 → ¬ S k) : IV w' := by
  have hl := h.lt
  have hc : ∀ k i, k ≤ 9 → w'.cell? ⟨k, i, none⟩ = w.cell? ⟨k, i, none⟩ := fun k i hk9 => hk.cell (by omega) (hS k hk9)
  obtain ⟨m, hm⟩ := h.len
  obtain ⟨ev, h1, h2⟩ := h.e1
  obtain ⟨ev', h3, h4⟩ := h.e2
  refine ⟨?_, ⟨m, (hc _ _ (by omega)).trans hm⟩, ⟨ev, (hc _ _ (by omega)).trans h1, h2⟩, ⟨ev', (hc _ _ (by omega)).trans h3, h4⟩, Nat.lt_of_lt_of_le hl hk.size, fun j hj => (hc _ _ (by omega)).trans (h.nd j hj)⟩
  have ht := h.tab
  have hg : Tryd.prog.globalNamed "internal/strconv.uint64pow10" = some 2 := by kernel_rfl
  unfold Lib.TabIs at ht ⊢
  unfold World.var? at ht ⊢
  rw [hg] at ht ⊢
  simp only [Option.bind_some] at ht ⊢
  rw [hk.block 2 (by omega) (hS _ (by omega))]
  exact ht

def rdC (W P : Value) (st : Rd) : Array Value := #[W, .int .i64 (st.at_ : Int), P, .int .i64 st.now.1, .int .i64 st.now.2, .int .i64 st.bg.1, .int .i64 st.bg.2]

/-- what is right of the words at all times -/
structure WsOk (ws : List (List UInt8)) : Prop where
  few : ws.length ≤ 3000
  short : ∀ i, (ws.getD i []).length ≤ 2000
  ok : ∀ i, i < ws.length → wordOk (ws.getD i [])

structure RK (b0 r T : Nat) (w : World) (ws : List (List UInt8)) (st : Rd) : Prop where
  blk : ∃ A c A' c', w.heap[r]? = some (.cells (rdC (.slice A ws.length c) (.slice A' st.p.length c') st) 59 (0, 0)) ∧ OwnR strR 9 b0 w (.slice A ws.length c) ws ∧ (∀ k, (Value.slice A ws.length c).ownBlock = some k → k < r) ∧ OwnR sgR 42 (r + 1) w (.slice A' st.p.length c') st.p ∧ (∀ k, (Value.slice A' st.p.length c').ownBlock = some k → k < T)
  iv : IV w
  r9 : 9 < r
  b0 : b0 ≤ r

theorem RK.lt {b0 r T : Nat} {w : World} {ws : List (List UInt8)} {st : Rd} (h : RK b0 r T w ws st) : r < w.heap.size := by
  obtain ⟨A, c, A', c', h1, _⟩ := h.blk
  exact heap_lt h1

theorem RK.ext {b0 r T : Nat} {w w' : World} {ws : List (List UInt8)} {st : Rd} (h : RK b0 r T w ws st) (he : Ext w w') : RK b0 r T w' ws st := by
  obtain ⟨⟨A, c, A', c', h1, h2, h3, h4, h5⟩, iv, r9, hb⟩ := h
  exact ⟨⟨A, c, A', c', he.heapAt h1, h2.ext he, h3, h4.ext he, h5⟩, iv.ext he, r9, hb⟩
theorem RK.top {b0 r T : Nat} {w : World} {ws : List (List UInt8)} {st : Rd} (h : RK b0 r T w ws st) : RK b0 r w.heap.size w ws st := by
  obtain ⟨⟨A, c, A', c', h1, h2, h3, h4, h5⟩, iv, r9, hb⟩ := h
  exact ⟨⟨A, c, A', c', h1, h2, h3, h4, h4.lt⟩, iv, r9, hb⟩
theorem RK.up {b0 r T T' : Nat} {w : World} {ws : List (List UInt8)} {st : Rd} (h : RK b0 r T w ws st) (hT : T ≤ T') : RK b0 r T' w ws st := by
  obtain ⟨⟨A, c, A', c', h1, h2, h3, h4, h5⟩, iv, r9, hb⟩ := h
  exact ⟨⟨A, c, A', c', h1, h2, h3, h4, fun k hk => Nat.lt_of_lt_of_le (h5 k hk) hT⟩, iv, r9, hb⟩
/-- a block above T is written -/
theorem RK.above {b0 r T : Nat} {w w' : World} {ws : List (List UInt8)} {st : Rd} (h : RK b0 r T w ws st) (hr : r < T) (hk : Keep w w' (fun k => T ≤ k)) : RK b0 r T w' ws st := by
  obtain ⟨⟨A, c, A', c', h1, h2, h3, h4, h5⟩, iv, r9, hb⟩ := h
  exact ⟨⟨A, c, A', c', by rw [hk.block r (heap_lt h1) (by omega)]; exact h1, h2.keep hk (fun k hk e => by have := h3 k hk; omega), h3, h4.keep hk (fun k hk e => by have := h5 k hk; omega), h5⟩, iv.keep hk (fun k hk e => by omega), r9, hb⟩

theorem RK.put {b0 r T : Nat} {w : World} {ws : List (List UInt8)} {st : Rd} (h : RK b0 r T w ws st) (st' : Rd) (i : Nat) (v : Value) (hp : st'.p = st.p) (hc : ∀ W P, (rdC W P st).setIfInBounds i v = rdC W P st') :
    RK b0 r T (w.setCell ⟨r, i, none⟩ v) ws st' ∧ Keep w (w.setCell ⟨r, i, none⟩ v) (fun k => k = r) := by
  obtain ⟨⟨A, c, A', c', h1, h2, h3, h4, h5⟩, iv, r9, hb⟩ := h
  have K : Keep w (w.setCell ⟨r, i, none⟩ v) (fun k => k = r) := Keep.setCell
  refine ⟨⟨⟨A, c, A', c', ?_, h2.keep K (fun k hk e => by have := h3 k hk; omega), h3, ?_, by rw [hp]; exact h5⟩, iv.keep K (fun k hk e => by omega), r9, hb⟩, K⟩
  · rw [hp, ← hc, heap_setCell_same w r i _ 59 _ h1]
  · rw [hp]; exact h4.set (by omega)

theorem RK.cells {b0 r T : Nat} {w : World} {ws : List (List UInt8)} {st : Rd} (h : RK b0 r T w ws st) : ∃ A c A' c',
    w.cell? ⟨r, 0, none⟩ = some (.slice A ws.length c) ∧ w.cell? ⟨r, 1, none⟩ = some (.int .i64 (st.at_ : Int)) ∧ w.cell? ⟨r, 2, none⟩ = some (.slice A' st.p.length c') ∧
    w.cell? ⟨r, 3, none⟩ = some (.int .i64 st.now.1) ∧ w.cell? ⟨r, 4, none⟩ = some (.int .i64 st.now.2) ∧ w.cell? ⟨r, 5, none⟩ = some (.int .i64 st.bg.1) ∧ w.cell? ⟨r, 6, none⟩ = some (.int .i64 st.bg.2) ∧
    (∀ k, w.frozen? ⟨r, k, none⟩ = false) ∧ Sl strR w (.slice A ws.length c) ws ∧ OwnR sgR 42 (r + 1) w (.slice A' st.p.length c') st.p := by
  obtain ⟨⟨A, c, A', c', h1, h2, h3, h4, h5⟩, iv, r9, hb⟩ := h
  exact ⟨A, c, A', c', (heap_cell h1 0).trans rfl, (heap_cell h1 1).trans rfl, (heap_cell h1 2).trans rfl, (heap_cell h1 3).trans rfl, (heap_cell h1 4).trans rfl, (heap_cell h1 5).trans rfl, (heap_cell h1 6).trans rfl, fun k => heap_thaw h1 k, h2.sl, h4⟩

/-- a word out of the words in memory -/
theorem sl_word {w : World} {A : Option Addr} {n c : Nat} {ws : List (List UInt8)} (h : Sl strR w (.slice A n c) ws) {i : Nat} (hi : i < n) :
    ∃ b off, A = some ⟨b, off, none⟩ ∧ b < w.heap.size ∧ w.cell? ⟨b, off + i, none⟩ = some (.string (ba (ws.getD i []))) := by
  obtain ⟨b, off, e1, e2, _, e4⟩ := h.at hi
  have := e4 0 (by decide)
  refine ⟨b, off, e1, e2, ?_⟩
  have en : i * strR.n + 0 = i := by show i * 1 + 0 = i; omega
  rw [en] at this
  exact this

theorem words_wsok {s : List UInt8} (h : s.length ≤ 2000) : WsOk (wordsL s) := by
  have h1 := wordsL_len s
  have h2 := wordsL_sum s
  have key : ∀ (l : List (List UInt8)) i, (l.getD i []).length ≤ sumLen l := by
    intro l
    induction l with
    | nil => intro i; simp
    | cons x l ih =>
      intro i
      have e : sumLen (x :: l) = x.length + sumLen l := rfl
      cases i with
      | zero => simp [e]
      | succ i => have := ih i; simp only [List.getD_cons_succ]; omega
  refine ⟨by omega, fun i => by have := key (wordsL s) i; omega, fun i hi => ?_⟩
  have : (wordsL s).getD i [] = (wordsL s)[i] := by rw [List.getD_eq_getElem?_getD, List.getElem?_eq_getElem hi]; rfl
  rw [this]
  exact wordsL_ok s _ (List.getElem_mem hi)
end Go.Proofs.YtakebbphielbfaaDoor
