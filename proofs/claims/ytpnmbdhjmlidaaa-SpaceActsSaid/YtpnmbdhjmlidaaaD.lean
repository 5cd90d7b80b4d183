/- slices.BinarySearchFunc over runs, and (*Space).find. -/
import Derived.Test.YtpnmbdhjmlidaaaC
import Derived.Outline
import Derived.Deep.DeepCutAuto
import Derived.Deep.DeepMust
namespace Go.Proofs.Ytpnmbdhjmlidaaa.T
open Go.RowKit Go.Proofs.YtpnmbdhjmlidaaaW.PrintWords Go.Proofs.YtpnmbdhjmlidaaaW.PrintLast Go.Proofs.YtpnmbdhjmlidaaaW.PrintMore
set_option linter.unusedVariables false
set_option linter.unusedSimpArgs false
def cells2 (r : Int × Int) : List Value := [.int .i64 r.1, .int .i64 r.2]
def flat2 (rs : List (Int × Int)) : List Value := rs.flatMap cells2
theorem flat2_len (rs : List (Int × Int)) : (flat2 rs).length = rs.length * 2 := by
  induction rs with
  | nil => rfl
  | cons r rs ih =>
    have e : flat2 (r :: rs) = cells2 r ++ flat2 rs := List.flatMap_cons ..
    rw [e, List.length_append, ih, List.length_cons]; simp only [cells2, List.length_cons, List.length_nil]; omega
theorem flat2_append (a b : List (Int × Int)) : flat2 (a ++ b) = flat2 a ++ flat2 b := List.flatMap_append ..
theorem flat2_take (rs : List (Int × Int)) (i : Nat) (hi : i ≤ rs.length) : (flat2 rs).take (i * 2) = flat2 (rs.take i) := by
  have h := flat2_append (rs.take i) (rs.drop i)
  rw [List.take_append_drop] at h
  have hl : (flat2 (rs.take i)).length = i * 2 := by rw [flat2_len, List.length_take]; omega
  rw [h, ← hl, List.take_left]
theorem flat2_drop (rs : List (Int × Int)) (i : Nat) (hi : i ≤ rs.length) : (flat2 rs).drop (i * 2) = flat2 (rs.drop i) := by
  have h := flat2_append (rs.take i) (rs.drop i)
  rw [List.take_append_drop] at h
  have hl : (flat2 (rs.take i)).length = i * 2 := by rw [flat2_len, List.length_take]; omega
  rw [h, ← hl, List.drop_left]
theorem flat2_one (rs : List (Int × Int)) : ∀ u ∈ flat2 rs, u.oneCell' = true := by
  intro u hu
  obtain ⟨r, _, hr⟩ := List.mem_flatMap.1 hu
  simp only [cells2, List.mem_cons, List.not_mem_nil, or_false] at hr
  rcases hr with rfl | rfl <;> rfl
theorem flat2_get (rs : List (Int × Int)) (h : Nat) (hl : h < rs.length) : (flat2 rs)[h * 2]? = some (.int .i64 rs[h].1) ∧ (flat2 rs)[h * 2 + 1]? = some (.int .i64 rs[h].2) := by
  have e : (flat2 rs).drop (h * 2) = cells2 rs[h] ++ flat2 (rs.drop (h + 1)) := by
    rw [flat2_drop rs h (by omega), List.drop_eq_getElem_cons hl]
    exact List.flatMap_cons ..
  have e0 : ((flat2 rs).drop (h * 2))[0]? = some (.int .i64 rs[h].1) := by rw [e]; rfl
  have e1 : ((flat2 rs).drop (h * 2))[1]? = some (.int .i64 rs[h].2) := by rw [e]; rfl
  rw [List.getElem?_drop] at e0 e1
  exact ⟨e0, e1⟩
/-- A row of runs of the call's own. -/
def Own2 (w : World) (base : Nat) (A : Option Addr) (c : Nat) (rs : List (Int × Int)) : Prop := w.ownsRow base 50 2 (.slice A rs.length c) rs.length (flat2 rs)
theorem Own2.at_ {w : World} {base : Nat} {A : Option Addr} {c : Nat} {rs : List (Int × Int)} (h : Own2 w base A c rs) (i : Nat) (hi : i < rs.length) :
    ∃ g, A = some ⟨g, 0, none⟩ ∧ w.cell? ⟨g, i * 2, none⟩ = some (.int .i64 rs[i].1) ∧ w.cell? ⟨g, i * 2 + 1, none⟩ = some (.int .i64 rs[i].2) := by
  rcases h.2 with ⟨hn, hl⟩ | ⟨g, cap, cur, hs, _, hg, hnc, _, hcs, hx⟩
  · omega
  · injection hs with ha _ _
    refine ⟨g, ha, ?_, ?_⟩
    · have e := (flat2_get rs i hi).1
      rw [← hx, List.getElem?_take] at e
      split at e
      · rw [Array.getElem?_toList] at e
        simp only [World.cell?, hg]; exact e
      · cases e
    · have e := (flat2_get rs i hi).2
      rw [← hx, List.getElem?_take] at e
      split at e
      · rw [Array.getElem?_toList] at e
        simp only [World.cell?, hg]; exact e
      · cases e
theorem Own2.below {w w' : World} {base : Nat} {A : Option Addr} {c : Nat} {rs : List (Int × Int)} (h : Own2 w base A c rs) (hb : Below w.heap.size w w') : Own2 w' base A c rs := by
  refine ⟨h.1, ?_⟩
  rcases h.2 with hn | ⟨g, cap, cur, hs, hbb, hg, rest⟩
  · exact .inl hn
  · exact .inr ⟨g, cap, cur, hs, hbb, (hb.block g (Array.getElem?_eq_some_iff.1 hg).1).trans hg, rest⟩
theorem Own2.cap {w : World} {base : Nat} {A : Option Addr} {c : Nat} {rs : List (Int × Int)} (h : Own2 w base A c rs) : rs.length ≤ c ∧ c ≤ 9223372036854775807 := by
  rcases h.2 with ⟨hn, hl⟩ | ⟨g, cap, cur, hs, _, hg, hnc, hcm, _⟩
  · injection hn with _ _ hc; omega
  · injection hs with _ _ hc; unfold maxLen at hcm; omega
def cmp3 (a p : Int) : Int := if a < p then -1 else if p < a then 1 else 0
set_option maxHeartbeats 4000000 in
set_option maxRecDepth 100000 in
theorem closure23 (a m p : Int) (w : World) :
    Calls Try.prog 23 #[.agg #[.int .i64 a, .int .i64 m], .int .i64 p] w fun e w' => e = .returned (.int .i64 (cmp3 a p)) ∧ Below w.heap.size w w' := by
  have hne : (a != a) = false := by simp
  have hnp : (p != p) = false := by simp
  by_cases h1 : a < p
  · have d1 : decide (a < p) = true := decide_eq_true h1
    have HC := Aside0.mk (show cmp3 a p = -1 from if_pos h1)
    go_enter Try.func23, Try.ntmps23
    go_wp2
    go_ret
    exact ⟨by rw [HC.out]; rfl, below_alloc (Below.refl _ _) _⟩
  · have d1 : decide (a < p) = false := decide_eq_false h1
    by_cases h2 : p < a
    · have d2 : decide (p < a) = true := decide_eq_true h2
      have HC := Aside0.mk (show cmp3 a p = 1 from by rw [cmp3, if_neg h1, if_pos h2])
      go_enter Try.func23, Try.ntmps23
      go_wp2
      go_ret
      exact ⟨by rw [HC.out]; rfl, below_alloc (Below.refl _ _) _⟩
    · have d2 : decide (p < a) = false := decide_eq_false h2
      have HC := Aside0.mk (show cmp3 a p = 0 from by rw [cmp3, if_neg h1, if_neg h2])
      go_enter Try.func23, Try.ntmps23
      go_wp2
      go_ret
      exact ⟨by rw [HC.out]; rfl, below_alloc (Below.refl _ _) _⟩
/-- The place of a page among first pages: all ahead are lower, none behind is. -/
def Place (rs : List (Int × Int)) (p : Int) (k : Nat) : Prop := k ≤ rs.length ∧ (∀ q, (h : q < rs.length) → q < k → rs[q].1 < p) ∧ (∀ q, (h : q < rs.length) → k ≤ q → p ≤ rs[q].1)
def hitAt (rs : List (Int × Int)) (p : Int) (k : Nat) : Bool := match rs[k]? with | some r => r.1 == p | none => false
def Rising (rs : List (Int × Int)) : Prop := ∀ i j, (hi : i < rs.length) → (hj : j < rs.length) → i < j → rs[i].1 < rs[j].1
def RelF (w : World) (base : Nat) (A : Option Addr) (c : Nat) (rs : List (Int × Int)) (p : Int) (v9 v10 : Value) (wr : World) : Prop :=
  ∃ i j : Nat, v9 = .int .i64 i ∧ v10 = .int .i64 j ∧ i ≤ j ∧ j ≤ rs.length ∧ (∀ q, (h : q < rs.length) → q < i → rs[q].1 < p) ∧ (∀ q, (h : q < rs.length) → j ≤ q → p ≤ rs[q].1) ∧ Own2 wr base A c rs ∧ Below w.heap.size w wr
set_option maxHeartbeats 4000000 in
set_option maxRecDepth 100000 in
theorem search_own (A : Option Addr) (c base : Nat) (rs : List (Int × Int)) (p : Int) (w : World) (hown : Own2 w base A c rs) (hris : Rising rs) (hlen : rs.length ≤ 100000) :
    Calls Try.prog 22 #[.slice A rs.length c, .int .i64 p, .func (.func 23) #[] #[]] w fun e w' => ∃ k : Nat, e = .returned (.tuple #[.int .i64 k, .bool (hitAt rs p k)]) ∧ Place rs p k ∧ Below w.heap.size w w' := by
  have H0 := Aside0.mk (show RelF w base A c rs p (.int .i64 0) (.int .i64 rs.length) w from ⟨0, rs.length, rfl, rfl, by omega, by omega, fun _ _ h => by omega, fun _ h h2 => by omega, hown, Below.refl _ _⟩)
  have HRIS := Aside0.mk hris
  clear hown hris
  go_enter Try.func22, Try.ntmps22
  go_wp2_with fail
  go_loopw [9, 10] (fun v9 v10 wr => RelF w base A c rs p v9 v10 wr) (fun v9 v10 _ => (intOf v10).toNat - (intOf v9).toNat)
  case atStart => exact H0.out
  case round =>
    obtain ⟨i, j, rfl, rfl, hij, hj, hlo, hhi, hown, hB⟩ := hrel
    have HLO := Aside0.mk hlo
    have HHI := Aside0.mk hhi
    have HOWN := Aside0.mk hown
    have HB := Aside0.mk hB
    clear hlo hhi hown hB
    by_cases hlt : i < j
    · have hltb : decide ((i : Int) < (j : Int)) = true := decide_eq_true (by omega)
      have hltI : (i : Int) < (j : Int) := by omega
      have hm1 : i ≤ (i + j) / 2 := by omega
      have hm2 : (i + j) / 2 < j := by omega
      have hml : (i + j) / 2 < rs.length := by omega
      obtain ⟨g, rfl, c0, c1⟩ := HOWN.out.at_ ((i + j) / 2) hml
      obtain ⟨⟨a, mm⟩, hr⟩ : ∃ r, rs[(i + j) / 2] = r := ⟨_, rfl⟩
      rw [hr] at c0 c1
      simp only at c0 c1
      have HR := Aside0.mk hr
      clear hr
      by_cases hap : a < p
      · have hc : cmp3 a p = -1 := if_pos hap
        have HAP := Aside0.mk hap
        clear hap
        go_wp2_with (go_at_call 23; (with_reducible refine (closure23 a mm p _).mono ?_); rintro e_ w1 ⟨rfl, hb⟩; have HB1 := Aside0.mk hb; clear hb)
        go_roundw
        case rel => exact ⟨(i + j) / 2 + 1, j, by go_num, rfl, by omega, by omega, fun q hq hlt2 => by
          have hx := HR.out
          rcases Nat.lt_or_ge q ((i + j) / 2) with h | h
          · have := HRIS.out q ((i + j) / 2) hq (by omega) h; rw [hx] at this; have := HAP.out; omega
          · obtain rfl : q = (i + j) / 2 := by omega
            rw [hx]; exact HAP.out, HHI.out, HOWN.out.below HB1.out, below_then HB.out HB.out.size HB1.out⟩
        case measure => simp [intOf]; omega
      · have hc : decide (cmp3 a p < 0) = false := decide_eq_false (by unfold cmp3; rw [if_neg hap]; split <;> omega)
        have hc2 : ¬ (cmp3 a p < 0) := by unfold cmp3; rw [if_neg hap]; split <;> omega
        have HAP := Aside0.mk hap
        clear hap
        go_wp2_with (go_at_call 23; (with_reducible refine (closure23 a mm p _).mono ?_); rintro e_ w1 ⟨rfl, hb⟩; have HB1 := Aside0.mk hb; clear hb)
        go_roundw
        case rel => exact ⟨i, (i + j) / 2, rfl, by go_num, by omega, by omega, HLO.out, fun q hq hle => by
          have hx := HR.out
          rcases Nat.lt_or_ge ((i + j) / 2) q with h | h
          · have := HRIS.out ((i + j) / 2) q (by omega) hq h; rw [hx] at this; have := HAP.out; omega
          · obtain rfl : q = (i + j) / 2 := by omega
            rw [hx]; have := HAP.out; omega, HOWN.out.below HB1.out, below_then HB.out HB.out.size HB1.out⟩
        case measure => simp [intOf]; omega
    · obtain rfl : i = j := by omega
      have hltI : ¬ ((i : Int) < (i : Int)) := by omega
      have hp : Place rs p i := ⟨hj, HLO.out, HHI.out⟩
      have HP := Aside0.mk hp
      clear hp
      by_cases hil : i < rs.length
      · have hil1 : (i : Int) < (rs.length : Int) := by omega
        have hil2 : decide ((i : Int) < (rs.length : Int)) = true := decide_eq_true hil1
        obtain ⟨g, rfl, c0, c1⟩ := HOWN.out.at_ i hil
        obtain ⟨⟨a, mm⟩, hr⟩ : ∃ r, rs[i] = r := ⟨_, rfl⟩
        rw [hr] at c0 c1
        simp only at c0 c1
        have hge : p ≤ a := by have := HHI.out i hil (Nat.le_refl _); rw [hr] at this; exact this
        have hh : hitAt rs p i = (cmp3 a p == 0) := by
          unfold hitAt cmp3
          rw [List.getElem?_eq_getElem hil, hr]
          simp only
          rw [if_neg (by omega)]
          by_cases h : a = p
          · subst h; simp
          · rw [if_pos (by omega)]; simp [h]
        have HH := Aside0.mk hh
        clear hh hr hge
        go_wp2_with (first | (go_at_call 23; (with_reducible refine (closure23 a mm p _).mono ?_); rintro e_ w1 ⟨rfl, hb⟩; have HB1 := Aside0.mk hb; clear hb))
        go_ret2
        exact ⟨i, by rw [HH.out]; rfl, HP.out, below_then HB.out HB.out.size HB1.out⟩
      · have hil1 : ¬ ((i : Int) < (rs.length : Int)) := by omega
        have hil2 : decide ((i : Int) < (rs.length : Int)) = false := decide_eq_false hil1
        have hh : hitAt rs p i = false := by
          unfold hitAt
          rw [List.getElem?_eq_none (by omega)]
        have HH := Aside0.mk hh
        clear hh
        go_wp2_with fail
        go_ret2
        exact ⟨i, by rw [HH.out]; rfl, HP.out, HB.out⟩
end Go.Proofs.Ytpnmbdhjmlidaaa.T
