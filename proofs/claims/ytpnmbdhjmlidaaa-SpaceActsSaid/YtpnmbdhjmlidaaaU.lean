/- A space and a reference side by side: what each call does to both; the row of acts. -/
import Derived.Test.YtpnmbdhjmlidaaaT
namespace Go.Proofs.Ytpnmbdhjmlidaaa.T
open Go.RowKit Go.Proofs.YtpnmbdhjmlidaaaW.PrintWords Go.Proofs.YtpnmbdhjmlidaaaW.PrintLast Go.Proofs.YtpnmbdhjmlidaaaW.PrintMore
set_option linter.unusedVariables false
set_option linter.unusedSimpArgs false
/-- What giving comes to: pages, error, the runs behind it. -/
def giveR (p : Int) (l : List (Int × Int)) : Int × Int × List (Int × Int) := match giveL p l with | none => (0, 13, l) | some (n, l2) => (n, 0, l2)
section
variable {w0 w : World} {gs gr : Nat} {A B : Option Addr} {c d : Nat} {l1 l2 l : List (Int × Int)}
def TwoE (w0 : World) (gs gr : Nat) (l1 l2 : List (Int × Int)) (w : World) : Prop := ∃ A B c d, Two w0 w gs gr A B c d l1 l2
theorem two_take (n a er : Int) (h : TwoE w0 gs gr l1 l2 w) (ht : takeR n l1 = (a, er, l)) : Calls Try.prog 8 #[.pointer (some ⟨gs, 0, none⟩), .int .i64 n] w fun e w' => e = .returned (.tuple #[.int .i64 a, .int .i64 er]) ∧ TwoE w0 gs gr l l2 w' := by
  obtain ⟨A, B, c, d, h⟩ := h
  refine (take_is w0.heap.size gs A c l1 l n a er w ht h.sp).mono ?_
  rintro e w' ⟨A', c', rfl, hs, hch, hrow⟩
  exact ⟨rfl, A', B, c', d, h.space hs hch hrow⟩
theorem two_reftake (n a er : Int) (h : TwoE w0 gs gr l1 l2 w) (ht : takeR n l2 = (a, er, l)) : Calls Try.prog 14 #[.pointer (some ⟨gr, 0, none⟩), .int .i64 n] w fun e w' => e = .returned (.tuple #[.int .i64 a, .int .i64 er]) ∧ TwoE w0 gs gr l1 l w' := by
  obtain ⟨A, B, c, d, h⟩ := h
  refine (reftake_any w0.heap.size gr B d l2 n w h.rf).mono ?_
  rintro e w' ⟨B', d', rfl, hs, hch, hrow⟩
  rw [ht] at hs ⊢
  exact ⟨rfl, A, B', c, d', h.ref hs hch hrow⟩
theorem two_give (p a er : Int) (h : TwoE w0 gs gr l1 l2 w) (ht : giveR p l1 = (a, er, l)) : Calls Try.prog 9 #[.pointer (some ⟨gs, 0, none⟩), .int .i64 p] w fun e w' => e = .returned (.tuple #[.int .i64 a, .int .i64 er]) ∧ TwoE w0 gs gr l l2 w' := by
  obtain ⟨A, B, c, d, h⟩ := h
  refine (give_own w0.heap.size gs A c l1 p w h.sp).mono ?_
  intro e w' hg
  unfold Given at hg
  unfold giveR at ht
  cases hp : giveL p l1 with
  | none =>
    rw [hp] at hg ht
    obtain ⟨rfl, hb⟩ := hg
    injection ht with h1 h2
    injection h2 with h2 h3
    subst h1 h2 h3
    exact ⟨rfl, A, B, c, d, h.below hb⟩
  | some q =>
    obtain ⟨n, l3⟩ := q
    rw [hp] at hg ht
    obtain ⟨c', rfl, hs, hch⟩ := hg
    injection ht with h1 h2
    injection h2 with h2 h3
    subst h1 h2 h3
    exact ⟨rfl, A, B, c', d, h.space hs hch (.inl rfl)⟩
theorem two_refgive (p a er : Int) (h : TwoE w0 gs gr l1 l2 w) (ht : giveR p l2 = (a, er, l)) : Calls Try.prog 15 #[.pointer (some ⟨gr, 0, none⟩), .int .i64 p] w fun e w' => e = .returned (.tuple #[.int .i64 a, .int .i64 er]) ∧ TwoE w0 gs gr l1 l w' := by
  obtain ⟨A, B, c, d, h⟩ := h
  refine (refgive_own w0.heap.size gr B d l2 p w h.rf).mono ?_
  intro e w' hg
  unfold DGiven at hg
  unfold giveR at ht
  cases hp : giveL p l2 with
  | none =>
    rw [hp] at hg ht
    obtain ⟨rfl, hb⟩ := hg
    injection ht with h1 h2
    injection h2 with h2 h3
    subst h1 h2 h3
    exact ⟨rfl, A, B, c, d, h.below hb⟩
  | some q =>
    obtain ⟨n, l3⟩ := q
    rw [hp] at hg ht
    obtain ⟨B', d', rfl, hs, hch, hrow⟩ := hg
    injection ht with h1 h2
    injection h2 with h2 h3
    subst h1 h2 h3
    exact ⟨rfl, A, B', c, d', h.ref hs hch (.inr hrow)⟩
theorem two_of (p a m : Int) (t : Bool) (h : TwoE w0 gs gr l1 l2 w) (ht : ofR l1 p = (a, m, t)) : Calls Try.prog 10 #[.pointer (some ⟨gs, 0, none⟩), .int .i64 p] w fun e w' => e = .returned (.tuple #[.int .i64 a, .int .i64 m, .bool t]) ∧ TwoE w0 gs gr l1 l2 w' := by
  obtain ⟨A, B, c, d, h⟩ := h
  refine (of_own w0.heap.size gs A c l1 p w h.sp).mono ?_
  rintro e w' ⟨rfl, hb⟩
  rw [ht]
  exact ⟨rfl, A, B, c, d, h.below hb⟩
theorem two_refof (p a m : Int) (t : Bool) (h : TwoE w0 gs gr l1 l2 w) (ht : ofR l2 p = (a, m, t)) : Calls Try.prog 16 #[.pointer (some ⟨gr, 0, none⟩), .int .i64 p] w fun e w' => e = .returned (.tuple #[.int .i64 a, .int .i64 m, .bool t]) ∧ TwoE w0 gs gr l1 l2 w' := by
  obtain ⟨A, B, c, d, h⟩ := h
  refine (refof_own w0.heap.size gr B d l2 p w h.rf).mono ?_
  rintro e w' ⟨rfl, hb⟩
  rw [ht]
  exact ⟨rfl, A, B, c, d, h.below hb⟩
theorem two_free (f : Int) (hf : 4095 - pages l1 = f) (h : TwoE w0 gs gr l1 l2 w) : Calls Try.prog 11 #[.pointer (some ⟨gs, 0, none⟩)] w fun e w' => e = .returned (.int .i64 f) ∧ TwoE w0 gs gr l1 l2 w' := by
  obtain ⟨A, B, c, d, h⟩ := h
  refine (free_is w0.heap.size gs A c l1 f w hf h.sp).mono ?_
  rintro e w' ⟨rfl, hb⟩
  exact ⟨rfl, A, B, c, d, h.below hb⟩
theorem two_runs (h : TwoE w0 gs gr l1 l2 w) : Calls Try.prog 13 #[.pointer (some ⟨gs, 0, none⟩)] w fun e w' => ∃ A c, e = .returned (.slice A l1.length c) ∧ l1.length ≤ 4095 ∧ l1.length ≤ c ∧ c ≤ 9223372036854775807 ∧ (∀ i, (hi : i < l1.length) → ∃ b, A = some ⟨b, 0, none⟩ ∧ w'.cell? ⟨b, i, none⟩ = some (.int .i64 l1[i].1)) ∧ TwoE w0 gs gr l1 l2 w' := by
  obtain ⟨A, B, c, d, h⟩ := h
  refine (runs_own w0.heap.size gs A c l1 w h.sp).mono ?_
  rintro e w' ⟨v, rfl, hrow, hb⟩
  have hlen := h.sp.len
  have h2 : TwoE w0 gs gr l1 l2 w' := ⟨A, B, c, d, h.below hb⟩
  rcases hrow.2 with ⟨h0, hl⟩ | ⟨g, cap, cur, hv, _, hg, hnc, hcm, _, hx⟩
  · subst h0
    refine ⟨none, 0, by rw [hl], hlen, by omega, by omega, fun i hi => by omega, h2⟩
  · subst hv
    refine ⟨_, cap, rfl, hlen, hnc, by unfold maxLen at hcm; omega, fun i hi => ⟨g, rfl, ?_⟩, h2⟩
    refine row1_cell hrow i ?_
    unfold firsts
    rw [List.getElem?_map, List.getElem?_eq_getElem hi]; rfl
/-- The reference's cells, for the walk. -/
theorem TwoE.ref (h : TwoE w0 gs gr l1 l2 w) : ∃ B d, w.cell? ⟨gr, 0, none⟩ = some (.slice B l2.length d) ∧ l2.length ≤ 4095 ∧ l2.length ≤ d ∧ d ≤ 9223372036854775807 ∧ ∀ i, (hi : i < l2.length) → ∃ b, B = some ⟨b, 0, none⟩ ∧ w.cell? ⟨b, i * 2, none⟩ = some (.int .i64 l2[i].1) ∧ w.cell? ⟨b, i * 2 + 1, none⟩ = some (.int .i64 l2[i].2) := by
  obtain ⟨A, B, c, d, h⟩ := h
  exact ⟨B, d, h.rf.at0, h.rf.len, h.rf.cap.1, h.rf.cap.2, fun i hi => row2_at h.rf.row i hi⟩
theorem TwoE.below {w' : World} (h : TwoE w0 gs gr l1 l2 w) (hb : Below w.heap.size w w') : TwoE w0 gs gr l1 l2 w' := by
  obtain ⟨A, B, c, d, h⟩ := h
  exact ⟨A, B, c, d, h.below hb⟩
theorem TwoE.low (h : TwoE w0 gs gr l1 l2 w) : Below w0.heap.size w0 w := by
  obtain ⟨A, B, c, d, h⟩ := h
  exact h.low
end
/-- The remainder that picks a call. -/
def wm5 (x : Int) : Int := wrap64 ((IntKind.u64.wrap x).tmod 5)
theorem wm5_in (x : Int) : wm5 x = 0 ∨ wm5 x = 1 ∨ wm5 x = 2 ∨ wm5 x = 3 ∨ wm5 x = 4 := by
  have h0 : 0 ≤ IntKind.u64.wrap x := by rw [IntKind.wrap_u64]; omega
  have h1 := Int.tmod_nonneg 5 h0
  have h2 := Int.tmod_lt_of_pos (IntKind.u64.wrap x) (show (0 : Int) < 5 by omega)
  unfold wm5
  rw [IntWalk.wrap64_in _ ⟨by omega, by omega⟩]
  omega
end Go.Proofs.Ytpnmbdhjmlidaaa.T
