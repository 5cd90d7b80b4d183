/- What SpaceWhole keeps: a space, a row of runs, pages that are marked. -/
import Derived.Test.YtpnmbdhjmlidaaaK
namespace Go.Proofs.Ytpnmbdhjmlidaaa.T
open Go.RowKit Go.Proofs.YtpnmbdhjmlidaaaW.PrintWords Go.Proofs.YtpnmbdhjmlidaaaW.PrintLast Go.Proofs.YtpnmbdhjmlidaaaW.PrintMore
set_option linter.unusedVariables false
set_option linter.unusedSimpArgs false
theorem zero_used : ∃ Z : Array Value, (Try.prog.info? 31).map (fun i => (i.zero, i.size)) = some (some (.agg Z), 4096) ∧ Z = Array.replicate 4096 (.bool false) := ⟨_, by kernel_rfl, rfl⟩
theorem zero_run : ∃ Z : Array Value, (∀ w, (zeroValue 31).run Try.prog w = .ok (.agg Z) w) ∧ Z.size = 4096 ∧ ∀ q, q < 4096 → Z[q]? = some (.bool false) := by
  obtain ⟨Z, h, he⟩ := zero_used
  refine ⟨Z, fun w => ?_, by rw [he]; simp, fun q hq => by rw [he, Array.getElem?_eq_getElem (by simpa using hq)]; simp⟩
  obtain ⟨i, hi, hz⟩ := Option.map_eq_some_iff.1 h
  simp only [Prod.mk.injEq] at hz
  simp [zeroValue, typeInfo, hi, hz.1]
/-- The state of SpaceWhole: a space with the runs rs, a row v with the runs l, a block of marks: none from lo on. -/
structure Wh (w0 w : World) (gu : Nat) (A : Option Addr) (c : Nat) (rs : List (Int × Int)) (v : Value) (l : List (Int × Int)) (lo : Nat) : Prop where
  sp : Sp w w0.heap.size w0.heap.size A c rs
  row : w.ownsRow w0.heap.size 35 2 v l.length (flat2 l)
  used : ∃ U : Array Value, w.heap[gu]? = some (.cells U 31 (0, 0)) ∧ U.size = 4096 ∧ ∀ q, lo ≤ q → q < 4096 → U[q]? = some (.bool false)
  gu1 : w0.heap.size < gu
  gu2 : Row0 A ≠ some gu
  apart : ∀ k, v.ownBlock = some k → k ≠ w0.heap.size ∧ k ≠ gu ∧ Row0 A ≠ some k
  low : Below w0.heap.size w0 w
section
variable {w0 w w' : World} {gu : Nat} {A A' : Option Addr} {c c' : Nat} {rs rs' l : List (Int × Int)} {v : Value} {lo : Nat}
theorem row_below {base e size n : Nat} {xs : List Value} (h : w.ownsRow base e size v n xs) (hb : Below w.heap.size w w') : w'.ownsRow base e size v n xs := by
  refine ⟨h.1, ?_⟩
  rcases h.2 with hn | ⟨g, cap, cur, hs, hbb, hg, rest⟩
  · exact .inl hn
  · exact .inr ⟨g, cap, cur, hs, hbb, (hb.block g (Array.getElem?_eq_some_iff.1 hg).1).trans hg, rest⟩
theorem Wh.below (h : Wh w0 w gu A c rs v l lo) (hb : Below w.heap.size w w') : Wh w0 w' gu A c rs v l lo := by
  obtain ⟨U, hU, hs, hf⟩ := h.used
  exact ⟨h.sp.below hb, row_below h.row hb, ⟨U, (hb.block gu (Array.getElem?_eq_some_iff.1 hU).1).trans hU, hs, hf⟩, h.gu1, h.gu2, h.apart, below_then h.low h.low.size hb⟩
theorem Wh.chg (h : Wh w0 w gu A c rs v l lo) (hs : Sp w' w0.heap.size w0.heap.size A' c' rs') (hc : Chg w w' w0.heap.size (Row0 A)) (hrow : Row0 A' = Row0 A ∨ ∃ b, Row0 A' = some b ∧ w.heap.size ≤ b) : Wh w0 w' gu A' c' rs' v l lo := by
  obtain ⟨U, hU, hsz, hf⟩ := h.used
  have hgl := (Array.getElem?_eq_some_iff.1 hU).1
  refine ⟨hs, row_chg h.row hc (fun k hk => ⟨(h.apart k hk).1, (h.apart k hk).2.2⟩), ⟨U, (hc.block gu hgl (by have := h.gu1; omega) (fun e => h.gu2 e.symm)).trans hU, hsz, hf⟩, h.gu1, ?_, ?_, h.sp.chg h.low hc⟩
  · rcases hrow with h1 | ⟨b, h1, h2⟩
    · rw [h1]; exact h.gu2
    · rw [h1]; intro e; injection e with e; omega
  · intro k hk
    refine ⟨(h.apart k hk).1, (h.apart k hk).2.1, fun e => ?_⟩
    rcases hrow with h1 | ⟨b, h1, h2⟩
    · exact (h.apart k hk).2.2 (h1 ▸ e)
    · rw [h1] at e
      injection e with e
      have := (h.row.lt k hk).2
      omega
theorem Wh.same (h : Wh w0 w gu A c rs v l lo) (hs : Sp w' w0.heap.size w0.heap.size A c' rs') (hc : Chg w w' w0.heap.size (Row0 A)) : Wh w0 w' gu A c' rs' v l lo := h.chg hs hc (.inl rfl)
theorem Wh.at_used (h : Wh w0 w gu A c rs v l lo) (q : Nat) (h1 : lo ≤ q) (h2 : q < 4096) : w.cell? ⟨gu, q, none⟩ = some (.bool false) := by
  obtain ⟨U, hU, hs, hf⟩ := h.used
  simp only [World.cell?, hU]
  exact hf q h1 h2
theorem Wh.mark (h : Wh w0 w gu A c rs v l lo) (q : Nat) (h1 : lo ≤ q) : Wh w0 (w.setCell ⟨gu, q, none⟩ (.bool true)) gu A c rs v l (q + 1) := by
  obtain ⟨U, hU, hs, hf⟩ := h.used
  have hg1 := h.gu1
  have hset : (w.setCell ⟨gu, q, none⟩ (.bool true)).heap[gu]? = some (.cells (U.setIfInBounds q (.bool true)) 31 (0, 0)) := by
    have hl := (Array.getElem?_eq_some_iff.1 hU).1
    simp only [World.setCell, Array.getElem?_modify, if_pos rfl, hU]
    rfl
  have hoth : ∀ k, k ≠ gu → (w.setCell ⟨gu, q, none⟩ (.bool true)).heap[k]? = w.heap[k]? := fun k hk => Below.heap_setCell w ⟨gu, q, none⟩ _ k hk
  have hsz : (w.setCell ⟨gu, q, none⟩ (.bool true)).heap.size = w.heap.size := by simp [World.setCell]
  have hgr : w.grownBy (w.setCell ⟨gu, q, none⟩ (.bool true)) (some gu) := ⟨rfl, rfl, rfl, by rw [hsz]; exact Nat.le_refl _, fun k _ hk => hoth k (fun e => hk (by rw [e]))⟩
  refine ⟨h.sp.grown hgr (fun e => by injection e with e; omega) (fun k hk e => h.gu2 (by rw [hk]; exact e.symm)), ?_, ⟨_, hset, by simpa using hs, fun k h2 h3 => ?_⟩, h.gu1, h.gu2, h.apart, below_grown h.low hgr (fun k hk => by injection hk with hk; omega)⟩
  · refine World.ownsRow.kept h.row hgr ?_
    cases ho : v.ownBlock with
    | none => exact .inl rfl
    | some b => exact .inr (fun e => by injection e with e; exact (h.apart b ho).2.1 e)
  · rw [Array.getElem?_setIfInBounds_ne (by omega)]
    exact hf k (by omega) h3
theorem Wh.append {v3 : Value} {w1 w3 : World} {e0 s0 : Int} (h : Wh w0 w gu A c rs v l lo) (hw1 : w1 = w.alloc (.cells #[.int .i64 e0, .int .i64 s0] 35))
    (hgr : w1.grownBy w3 v.ownBlock) (hat : v3.ownBlock = v.ownBlock ∨ v3.ownBlock = some w1.heap.size) (ho : w3.ownsRow w0.heap.size 35 2 v3 (l.length + 1) (flat2 l ++ [.int .i64 e0, .int .i64 s0])) : Wh w0 w3 gu A c rs v3 (l ++ [(e0, s0)]) lo := by
  have hal : Below w.heap.size w w1 := by rw [hw1]; exact below_alloc (Below.refl _ _) _
  have h1 := h.below hal
  obtain ⟨U, hU, hsz, hf⟩ := h1.used
  have hul := (Array.getElem?_eq_some_iff.1 hU).1
  have hgl := (Array.getElem?_eq_some_iff.1 h1.sp.cell).1
  refine ⟨h1.sp.grown hgr (fun e => (h1.apart _ e).1 rfl) (fun k hk e => (h1.apart k e).2.2 hk), ?_, ⟨U, (hgr.block gu hul (fun e => (h1.apart gu e.symm).2.1 rfl)).trans hU, hsz, hf⟩, h1.gu1, h1.gu2, ?_, below_grown h1.low hgr (fun k hk => (h1.row.lt k hk).1)⟩
  · rw [flat2_append, List.length_append]; exact ho
  · intro k hk
    rcases hat with h2 | h2
    · exact h1.apart k (h2 ▸ hk)
    · rw [h2] at hk
      injection hk with hk
      refine ⟨by omega, by omega, fun e => ?_⟩
      have := (h1.sp.row.rowlt k e).2
      omega
end
end Go.Proofs.Ytpnmbdhjmlidaaa.T
