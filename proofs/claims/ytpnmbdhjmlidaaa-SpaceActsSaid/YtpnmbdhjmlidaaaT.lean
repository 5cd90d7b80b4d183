/- The reference's DocTake of any number; a space and a reference beside it. -/
import Derived.Test.YtpnmbdhjmlidaaaS
namespace Go.Proofs.Ytpnmbdhjmlidaaa.T
open Go.RowKit Go.Proofs.YtpnmbdhjmlidaaaW.PrintWords Go.Proofs.YtpnmbdhjmlidaaaW.PrintLast Go.Proofs.YtpnmbdhjmlidaaaW.PrintMore
set_option linter.unusedVariables false
set_option linter.unusedSimpArgs false
set_option maxHeartbeats 4000000 in
set_option maxRecDepth 100000 in
theorem reftake_bad (base g : Nat) (A : Option Addr) (c : Nat) (l : List (Int × Int)) (n : Int) (w : World) (h : Rf w base g A c l) (hn : n < 1 ∨ 4095 < n) :
    Calls Try.prog 14 #[.pointer (some ⟨g, 0, none⟩), .int .i64 n] w fun e w' => DTaken w base g A l n e w' := by
  have hr : takeR n l = (0, 1, l) := if_pos hn
  have HR := Aside0.mk hr
  have HRF := Aside0.mk h
  clear h hr
  rcases hn with hn | hn
  · have d1 : decide (n < 1) = true := decide_eq_true hn
    go_enter Try.func14, Try.ntmps14
    go_wp2_with fail
    go_ret2
    exact ⟨A, c, by rw [HR.out]; rfl, by rw [HR.out]; exact HRF.out, Chg.refl _ _ _, .inl rfl⟩
  · have d1 : decide (n < 1) = false := decide_eq_false (by omega)
    have d0 : ¬ (n < 1) := by omega
    have d2 : decide (4095 < n) = true := decide_eq_true hn
    go_enter Try.func14, Try.ntmps14
    go_wp2_with fail
    go_ret2
    exact ⟨A, c, by rw [HR.out]; rfl, by rw [HR.out]; exact HRF.out, Chg.refl _ _ _, .inl rfl⟩
theorem reftake_any (base g : Nat) (A : Option Addr) (c : Nat) (l : List (Int × Int)) (n : Int) (w : World) (h : Rf w base g A c l) :
    Calls Try.prog 14 #[.pointer (some ⟨g, 0, none⟩), .int .i64 n] w fun e w' => DTaken w base g A l n e w' := by
  by_cases hn : n < 1 ∨ 4095 < n
  · exact reftake_bad base g A c l n w h hn
  · exact reftake_own base g A c l n w h (by omega) (by omega)
/-- A space with the runs l1 and a reference with the runs l2, apart. -/
structure Two (w0 w : World) (gs gr : Nat) (A B : Option Addr) (c d : Nat) (l1 l2 : List (Int × Int)) : Prop where
  sp : Sp w w0.heap.size gs A c l1
  rf : Rf w w0.heap.size gr B d l2
  ne : gs ≠ gr
  a1 : Row0 A ≠ some gr
  b1 : Row0 B ≠ some gs
  ab : ∀ k, Row0 A = some k → Row0 B ≠ some k
  low : Below w0.heap.size w0 w
section
variable {w0 w w' : World} {gs gr : Nat} {A A' B B' : Option Addr} {c c' d d' : Nat} {l1 l2 l1' l2' : List (Int × Int)}
theorem Rf.rowlt {base g : Nat} {l : List (Int × Int)} (h : Rf w base g B d l) : ∀ k, Row0 B = some k → base ≤ k ∧ k < w.heap.size := fun k hk => World.ownsRow.lt h.row k (by rw [own_slice]; exact hk)
theorem Rf.chg {base g : Nat} {l : List (Int × Int)} {row : Option Nat} (h : Rf w base gr B d l) (hc : Chg w w' g row) (h1 : gr ≠ g) (h2 : row ≠ some gr) (h3 : ∀ k, Row0 B = some k → k ≠ g ∧ row ≠ some k) : Rf w' base gr B d l := by
  refine ⟨h.lo, (hc.block gr (Array.getElem?_eq_some_iff.1 h.cell).1 h1 (fun e => h2 e.symm)).trans h.cell, ⟨h.row.1, ?_⟩, h.ne, h.good⟩
  rcases h.row.2 with hn | ⟨b, cap, cur, hv, hbb, hg, rest⟩
  · exact .inl hn
  · have hb : Row0 B = some b := by injection hv with ha; rw [ha]; rfl
    exact .inr ⟨b, cap, cur, hv, hbb, (hc.block b (Array.getElem?_eq_some_iff.1 hg).1 (h3 b hb).1 (fun e => (h3 b hb).2 e.symm)).trans hg, rest⟩
theorem Sp.other {base g : Nat} {l : List (Int × Int)} (h : Sp w base gs A c l) (hc : Chg w w' g none) (h1 : gs ≠ g) (h2 : Row0 A ≠ some g) : Sp w' base gs A c l := by
  refine ⟨h.lo, (hc.block gs (Array.getElem?_eq_some_iff.1 h.cell).1 h1 (by simp)).trans h.cell, ⟨h.row.1, ?_⟩, h.ne, h.good⟩
  rcases h.row.2 with hn | ⟨b, cap, cur, hv, hbb, hg, rest⟩
  · exact .inl hn
  · have hb : Row0 A = some b := by injection hv with ha; rw [ha]; rfl
    exact .inr ⟨b, cap, cur, hv, hbb, (hc.block b (Array.getElem?_eq_some_iff.1 hg).1 (fun e => h2 (by rw [hb, e])) (by simp)).trans hg, rest⟩
theorem Two.below (h : Two w0 w gs gr A B c d l1 l2) (hb : Below w.heap.size w w') : Two w0 w' gs gr A B c d l1 l2 :=
  ⟨h.sp.below hb, h.rf.below hb, h.ne, h.a1, h.b1, h.ab, below_then h.low h.low.size hb⟩
theorem Two.space (h : Two w0 w gs gr A B c d l1 l2) (hs : Sp w' w0.heap.size gs A' c' l1') (hc : Chg w w' gs (Row0 A)) (hrow : Row0 A' = Row0 A ∨ ∃ b, Row0 A' = some b ∧ w.heap.size ≤ b) : Two w0 w' gs gr A' B c' d l1' l2 := by
  refine ⟨hs, h.rf.chg hc (fun e => h.ne e.symm) h.a1 (fun k hk => ⟨fun e => h.b1 (by rw [hk, e]), fun e => h.ab k e hk⟩), h.ne, ?_, h.b1, ?_, h.low.trans (hc.below h.low.size h.sp.lo (fun k hk => (h.sp.row.rowlt k hk).1))⟩
  · rcases hrow with h1 | ⟨b, h1, h2⟩
    · rw [h1]; exact h.a1
    · rw [h1]; intro e; injection e with e
      have := (Array.getElem?_eq_some_iff.1 h.rf.cell).1; omega
  · intro k hk hkb
    rcases hrow with h1 | ⟨b, h1, h2⟩
    · exact h.ab k (h1 ▸ hk) hkb
    · rw [h1] at hk; injection hk with hk
      have := (h.rf.rowlt k hkb).2; omega
theorem Two.ref (h : Two w0 w gs gr A B c d l1 l2) (hs : Rf w' w0.heap.size gr B' d' l2') (hc : Chg w w' gr none) (hrow : B' = B ∨ ∀ k, Row0 B' = some k → w.heap.size ≤ k) : Two w0 w' gs gr A B' c d' l1 l2' := by
  have hgs := (Array.getElem?_eq_some_iff.1 h.sp.cell).1
  refine ⟨h.sp.other hc h.ne h.a1, hs, h.ne, h.a1, ?_, ?_, h.low.trans (hc.below h.low.size h.rf.lo (fun k hk => by cases hk))⟩
  · rcases hrow with h1 | h1
    · rw [h1]; exact h.b1
    · intro e; have := h1 gs e; omega
  · intro k hk hkb
    rcases hrow with h1 | h1
    · exact h.ab k hk (h1 ▸ hkb)
    · have := h1 k hkb; have := (h.sp.row.rowlt k hk).2; omega
end
end Go.Proofs.Ytpnmbdhjmlidaaa.T
