/- (*Space).Give and Take. -/
import Derived.Test.YtpnmbdhjmlidaaaF
namespace Go.Proofs.Ytpnmbdhjmlidaaa.T
open Go.RowKit Go.Proofs.YtpnmbdhjmlidaaaW.PrintWords Go.Proofs.YtpnmbdhjmlidaaaW.PrintLast Go.Proofs.YtpnmbdhjmlidaaaW.PrintMore
set_option linter.unusedVariables false
set_option linter.unusedSimpArgs false
/-- A run given back: how many pages it had, and what is left; none: no run begins there. -/
def giveL (p : Int) : List (Int × Int) → Option (Int × List (Int × Int))
  | [] => none
  | r :: rs => if r.1 = p then some (r.2, rs) else (giveL p rs).map (fun x => (x.1, r :: x.2))
theorem giveL_at : ∀ (p : Int) (rs : List (Int × Int)) (k : Nat) (hk : k < rs.length), rs[k].1 = p → (∀ q, (h : q < rs.length) → q < k → rs[q].1 ≠ p) → giveL p rs = some (rs[k].2, rs.take k ++ rs.drop (k + 1))
  | p, [], k, hk, _, _ => absurd hk (by simp)
  | p, r :: rs, 0, hk, h, _ => by
    simp only [List.getElem_cons_zero] at h ⊢
    rw [giveL, if_pos h]; simp
  | p, r :: rs, k + 1, hk, h, hq => by
    simp only [List.getElem_cons_succ] at h ⊢
    have h0 := hq 0 (by simp) (by omega)
    simp only [List.getElem_cons_zero] at h0
    rw [giveL, if_neg h0, giveL_at p rs k (by simpa using hk) h (fun q hh hlt => by have := hq (q + 1) (by simpa using hh) (by omega); simpa using this)]
    simp
theorem giveL_none : ∀ (p : Int) (rs : List (Int × Int)), (∀ q, (h : q < rs.length) → rs[q].1 ≠ p) → giveL p rs = none
  | p, [], _ => rfl
  | p, r :: rs, h => by
    have h0 := h 0 (by simp)
    simp only [List.getElem_cons_zero] at h0
    rw [giveL, if_neg h0, giveL_none p rs (fun q hh => by have := h (q + 1) (by simpa using hh); simpa using this)]
    rfl
theorem From.give : ∀ {rs : List (Int × Int)} {lo : Int} (p n : Int) (l : List (Int × Int)), From lo rs → giveL p rs = some (n, l) → From lo l
  | [], _, _, _, _, _, h => by cases h
  | r :: rs, lo, p, n, l, h, hg => by
    rw [giveL] at hg
    split at hg
    · cases hg
      exact h.2.2.2.mono (by have := h.1; have := h.2.1; omega)
    · cases hx : giveL p rs with
      | none => rw [hx] at hg; cases hg
      | some x =>
        rw [hx] at hg
        cases hg
        exact ⟨h.1, h.2.1, h.2.2.1, From.give p x.1 x.2 h.2.2.2 hx⟩
/-- A run taken: where, and what is taken then. -/
def takeL (n : Int) : Int → List (Int × Int) → Int × List (Int × Int)
  | a, [] => (a, [(a, n)])
  | a, r :: rs => if r.1 - a < n then ((takeL n (r.1 + r.2) rs).1, r :: (takeL n (r.1 + r.2) rs).2) else (a, (a, n) :: r :: rs)
theorem takeL_good : ∀ {rs : List (Int × Int)} {lo : Int} (n : Int), From lo rs → 1 ≤ n → (takeL n lo rs).1 + n ≤ 4096 → From lo (takeL n lo rs).2
  | [], lo, n, _, hn, h => ⟨Int.le_refl _, hn, h, trivial⟩
  | r :: rs, lo, n, h, hn, hs => by
    rw [takeL] at hs ⊢
    split at hs
    · rename_i hlt
      rw [if_pos hlt]
      exact ⟨h.1, h.2.1, h.2.2.1, takeL_good n h.2.2.2 hn hs⟩
    · rename_i hlt
      rw [if_neg hlt]
      exact ⟨Int.le_refl _, hn, hs, by omega, h.2.1, h.2.2.1, h.2.2.2⟩
/-- What Give comes to. -/
def Given (w : World) (base g : Nat) (A : Option Addr) (rs : List (Int × Int)) (p : Int) (e : Ending) (w' : World) : Prop :=
  match giveL p rs with
  | none => e = .returned (.tuple #[.int .i64 0, .int .i64 13]) ∧ Below w.heap.size w w'
  | some (n, l) => ∃ c, e = .returned (.tuple #[.int .i64 n, .int .i64 0]) ∧ Sp w' base g A c l ∧ Chg w w' g (Row0 A)
theorem Below.grown {w w' : World} {row : Option Nat} (h : w.grownBy w' row) (g : Nat) : Chg w w' g row := ⟨h.os, h.tape, h.output, h.size, fun k hk _ hr => h.block k hk hr⟩
theorem Chg.set {w w' : World} {g : Nat} {row : Option Nat} (h : Chg w w' g row) (j : Nat) (u : Value) : Chg w (w'.setCell ⟨g, j, none⟩ u) g row :=
  ⟨h.os, h.tape, h.output, by simpa [World.setCell] using h.size, fun k hk hg hr => (Below.heap_setCell w' ⟨g, j, none⟩ u k hg).trans (h.block k hk hg hr)⟩
theorem Own2.setOther {w : World} {base : Nat} {A : Option Addr} {c : Nat} {rs : List (Int × Int)} (h : Own2 w base A c rs) {g : Nat} (hne : Row0 A ≠ some g) (j : Nat) (u : Value) : Own2 (w.setCell ⟨g, j, none⟩ u) base A c rs := by
  refine ⟨h.1, ?_⟩
  rcases h.2 with hn | ⟨b, cap, cur, hs, hbb, hg, rest⟩
  · exact .inl hn
  · injection hs with ha _ hc
    subst ha; subst hc
    refine .inr ⟨b, c, cur, rfl, hbb, ?_, rest⟩
    rw [Below.heap_setCell w ⟨g, j, none⟩ u b (fun e => hne (by have e' : b = g := e; rw [← e']; rfl))]
    exact hg
theorem heap_set0 {w : World} {g : Nat} {v u : Value} {t : TypeId} (h : w.heap[g]? = some (.cells #[v] t (0, 0))) : (w.setCell ⟨g, 0, none⟩ u).heap[g]? = some (.cells #[u] t (0, 0)) := by
  have hl := (Array.getElem?_eq_some_iff.1 h).1
  have he := (Array.getElem?_eq_some_iff.1 h).2
  simp only [World.setCell, Array.getElem?_modify, if_pos rfl, h]
  rfl
set_option maxHeartbeats 4000000 in
set_option maxRecDepth 100000 in
theorem give_own (base g : Nat) (A : Option Addr) (c : Nat) (rs : List (Int × Int)) (p : Int) (w : World) (h : Sp w base g A c rs) :
    Calls Try.prog 9 #[.pointer (some ⟨g, 0, none⟩), .int .i64 p] w fun e w' => Given w base g A rs p e w' := by
  have hlen := h.len
  have HS := Aside0.mk h
  clear h
  go_enter Try.func9, Try.ntmps9
  go_upto_region 4 with (go_at_call 18; (with_reducible refine (find_own base g A c rs p _ HS.out).mono ?_); rintro e_ w1 ⟨k, rfl, hp, hb⟩; have HP := Aside0.mk hp; have HB := Aside0.mk hb; have HS1 := Aside0.mk (HS.out.below hb); clear hp hb)
  obtain ⟨hk, hlo, hhi⟩ := HP.out
  have HLO := Aside0.mk hlo
  have HHI := Aside0.mk hhi
  clear hlo hhi
  have c0 := HS1.out.at0
  cases hh : hitAt rs p k with
  | true =>
    have hkl : k < rs.length := by
      refine Classical.byContradiction fun hn => ?_
      unfold hitAt at hh
      rw [List.getElem?_eq_none (by omega)] at hh
      cases hh
    obtain ⟨gr, rfl, d0, d1⟩ := HS1.out.row.at_ k hkl
    have hat : rs[k].1 = p := by
      unfold hitAt at hh
      rw [List.getElem?_eq_getElem hkl] at hh
      simpa using hh
    have hg := giveL_at p rs k hkl hat (fun q hq hlt => by have := HLO.out q hq hlt; omega)
    obtain ⟨⟨a, m⟩, hr⟩ : ∃ r, rs[k] = r := ⟨_, rfl⟩
    rw [hr] at d0 d1 hg
    simp only at d0 d1 hg
    have HG := Aside0.mk hg
    clear hg hr hh hat
    have hk0 : (0 : Int) ≤ (k : Int) := by omega
    have hk1 : (k : Int) < (rs.length : Int) := by omega
    have hkk : ((k : Int) + 1) = ((k + 1 : Nat) : Int) := by omega
    have HKK := Aside0.mk hkk
    have hrow : w1.ownsRow base 50 2 (.slice (some ⟨gr, 0, none⟩) rs.length c) rs.length (flat2 rs) := HS1.out.row
    have HROW := Aside0.mk hrow
    clear hrow
    clear hkk
    go_wp2_with (go_at_call 19; rw [HKK.out]; (with_reducible refine (delete_own (some ⟨gr, 0, none⟩) c rs.length k (k + 1) base (flat2 rs) _ HROW.out (flat2_one rs) hkl rfl).mono ?_); rintro e_ w2 ⟨c2, rfl, ho, hgr⟩; have HO := Aside0.mk ho; have HGR := Aside0.mk hgr; clear ho hgr; have hg2 := (HGR.out.block g (Array.getElem?_eq_some_iff.1 HS1.out.cell).1 (fun e => HS1.out.ne e.symm)).trans HS1.out.cell; have c2_ : w2.cell? ⟨g, 0, none⟩ = some (.slice (some ⟨gr, 0, none⟩) rs.length c) := (by simp only [World.cell?, hg2]; rfl); have hf2 : w2.frozen? ⟨g, 0, none⟩ = false := (by simp [World.frozen?, hg2]); have HG2 := Aside0.mk hg2; clear hg2)
    go_ret2
    have hll : (rs.take k ++ rs.drop (k + 1)).length = rs.length - 1 := by
      rw [List.length_append, List.length_take, List.length_drop]; omega
    have hfl : flat2 (rs.take k ++ rs.drop (k + 1)) = (flat2 rs).take (k * 2) ++ (flat2 rs).drop ((k + 1) * 2) := by
      rw [flat2_append, flat2_take rs k (by omega), flat2_drop rs (k + 1) (by omega)]
    have hown : Own2 w2 base (some ⟨gr, 0, none⟩) c2 (rs.take k ++ rs.drop (k + 1)) := by
      unfold Own2; rw [hll, hfl]; exact HO.out
    have hgood := HS.out.good.give p m _ HG.out
    unfold Given
    rw [HG.out]
    refine ⟨c2, rfl, ⟨HS.out.lo, ?_, hown.setOther HS1.out.ne 0 _, HS1.out.ne, hgood⟩, ?_⟩
    · rw [hll]; exact heap_set0 HG2.out
    · exact (Chg.before HB.out (Below.grown HGR.out g)).set 0 _
  | false =>
    have hne : ∀ i, (hi : i < rs.length) → rs[i].1 ≠ p := by
      intro i hi
      rcases Nat.lt_or_ge i k with h | h
      · have := HLO.out i hi h; omega
      · have h1 := HHI.out i hi h
        rcases Nat.lt_or_ge k i with h' | h'
        · have h2 := HS.out.good.rising k i (by omega) hi h'
          have h3 := HHI.out k (by omega) (Nat.le_refl _)
          omega
        · obtain rfl : k = i := by omega
          unfold hitAt at hh
          rw [List.getElem?_eq_getElem hi] at hh
          simpa using hh
    have HG := Aside0.mk (giveL_none p rs hne)
    clear hne hh
    go_wp2_with fail
    go_ret2
    unfold Given
    rw [HG.out]
    exact ⟨rfl, HB.out⟩
end Go.Proofs.Ytpnmbdhjmlidaaa.T
