/- slices.BinarySearchFunc over runs, and (*Space).find. (*Space).find, Take, Give, Of, Runs, Free: what they do to a row of runs. (*Space).Of and Give. (*Space).Give and Take. -/
import Derived.Test.YtenkdmloolbdaaaGreatDoorB18
import Derived.Outline
import Derived.Deep.DeepCutAuto
import Derived.Deep.DeepMust
import Derived.Test.YtenkdmloolbdaaaGreatDoorB05
section
namespace Go.Proofs.YtenkdmloolbdaaaGreatDoor.TS
open Go.RowKit Go.Proofs.YtenkdmloolbdaaaGreatDoorW.PrintWords Go.Proofs.YtenkdmloolbdaaaGreatDoorW.PrintLast Go.Proofs.YtenkdmloolbdaaaGreatDoorW.PrintMore
set_option linter.unusedVariables false
set_option linter.unusedSimpArgs false
def cells2 (r : Int × Int) : List Value := [.int .i64 r.1, .int .i64 r.2]
def flat2 (rs : List (Int × Int)) : List Value := rs.flatMap cells2
theorem flat2_len (rs : List (Int × Int)) : (flat2 rs).length = rs.length * 2 := by
  induction rs with
  | nil => rfl
  | cons r rs ih =>
    have e : flat2 (r :: rs) = cells2 r ++ flat2 rs := List.flatMap_cons ..
    rw [e, List.length_append, ih, List.length_cons]; simp only [cells2, List.length_cons, List.length_nil]; omega
theorem flat2_append (a b : List (Int × Int)) : flat2 (a ++ b) = flat2 a ++ flat2 b := List.flatMap_append ..
theorem flat2_take (rs : List (Int × Int)) (i : Nat) (hi : i ≤ rs.length) : (flat2 rs).take (i * 2) = flat2 (rs.take i) := by
  have h := flat2_append (rs.take i) (rs.drop i)
  rw [List.take_append_drop] at h
  have hl : (flat2 (rs.take i)).length = i * 2 := by rw [flat2_len, List.length_take]; omega
  rw [h, ← hl, List.take_left]
theorem flat2_drop (rs : List (Int × Int)) (i : Nat) (hi : i ≤ rs.length) : (flat2 rs).drop (i * 2) = flat2 (rs.drop i) := by
  have h := flat2_append (rs.take i) (rs.drop i)
  rw [List.take_append_drop] at h
  have hl : (flat2 (rs.take i)).length = i * 2 := by rw [flat2_len, List.length_take]; omega
  rw [h, ← hl, List.drop_left]
theorem flat2_one (rs : List (Int × Int)) : ∀ u ∈ flat2 rs, u.oneCell' = true := by
  intro u hu
  obtain ⟨r, _, hr⟩ := List.mem_flatMap.1 hu
  simp only [cells2, List.mem_cons, List.not_mem_nil, or_false] at hr
  rcases hr with rfl | rfl <;> rfl
theorem flat2_get (rs : List (Int × Int)) (h : Nat) (hl : h < rs.length) : (flat2 rs)[h * 2]? = some (.int .i64 rs[h].1) ∧ (flat2 rs)[h * 2 + 1]? = some (.int .i64 rs[h].2) := by
  have e : (flat2 rs).drop (h * 2) = cells2 rs[h] ++ flat2 (rs.drop (h + 1)) := by
    rw [flat2_drop rs h (by omega), List.drop_eq_getElem_cons hl]
    exact List.flatMap_cons ..
  have e0 : ((flat2 rs).drop (h * 2))[0]? = some (.int .i64 rs[h].1) := by rw [e]; rfl
  have e1 : ((flat2 rs).drop (h * 2))[1]? = some (.int .i64 rs[h].2) := by rw [e]; rfl
  rw [List.getElem?_drop] at e0 e1
  exact ⟨e0, e1⟩
/-- A row of runs of the call's own. -/
def Own2 (w : World) (base : Nat) (A : Option Addr) (c : Nat) (rs : List (Int × Int)) : Prop := w.ownsRow base 246 2 (.slice A rs.length c) rs.length (flat2 rs)
theorem Own2.at_ {w : World} {base : Nat} {A : Option Addr} {c : Nat} {rs : List (Int × Int)} (h : Own2 w base A c rs) (i : Nat) (hi : i < rs.length) :
    ∃ g, A = some ⟨g, 0, none⟩ ∧ w.cell? ⟨g, i * 2, none⟩ = some (.int .i64 rs[i].1) ∧ w.cell? ⟨g, i * 2 + 1, none⟩ = some (.int .i64 rs[i].2) := by
  rcases h.2 with ⟨hn, hl⟩ | ⟨g, cap, cur, hs, _, hg, hnc, _, hcs, hx⟩
  · omega
  · injection hs with ha _ _
    refine ⟨g, ha, ?_, ?_⟩
    · have e := (flat2_get rs i hi).1
      rw [← hx, List.getElem?_take] at e
      split at e
      · rw [Array.getElem?_toList] at e
        simp only [World.cell?, hg]; exact e
      · cases e
    · have e := (flat2_get rs i hi).2
      rw [← hx, List.getElem?_take] at e
      split at e
      · rw [Array.getElem?_toList] at e
        simp only [World.cell?, hg]; exact e
      · cases e
theorem Own2.below {w w' : World} {base : Nat} {A : Option Addr} {c : Nat} {rs : List (Int × Int)} (h : Own2 w base A c rs) (hb : Below w.heap.size w w') : Own2 w' base A c rs := by
  refine ⟨h.1, ?_⟩
  rcases h.2 with hn | ⟨g, cap, cur, hs, hbb, hg, rest⟩
  · exact .inl hn
  · exact .inr ⟨g, cap, cur, hs, hbb, (hb.block g (Array.getElem?_eq_some_iff.1 hg).1).trans hg, rest⟩
def cmp3 (a p : Int) : Int := if a < p then -1 else if p < a then 1 else 0
set_option maxHeartbeats 4000000 in
set_option maxRecDepth 100000 in
theorem closure23 (a m p : Int) (w : World) :
    Calls Tryz.prog 203 #[.agg #[.int .i64 a, .int .i64 m], .int .i64 p] w fun e w' => e = .returned (.int .i64 (cmp3 a p)) ∧ Below w.heap.size w w' := by
  have hne : (a != a) = false := by simp
  have hnp : (p != p) = false := by simp
  by_cases h1 : a < p
  · have d1 : decide (a < p) = true := decide_eq_true h1
    have HC := Aside0.mk (show cmp3 a p = -1 from if_pos h1)
    go_enter Tryz.func203, Tryz.ntmps203
    go_wp2
    go_ret
    exact ⟨by rw [HC.out]; rfl, below_alloc (Below.refl _ _) _⟩
  · have d1 : decide (a < p) = false := decide_eq_false h1
    by_cases h2 : p < a
    · have d2 : decide (p < a) = true := decide_eq_true h2
      have HC := Aside0.mk (show cmp3 a p = 1 from by rw [cmp3, if_neg h1, if_pos h2])
      go_enter Tryz.func203, Tryz.ntmps203
      go_wp2
      go_ret
      exact ⟨by rw [HC.out]; rfl, below_alloc (Below.refl _ _) _⟩
    · have d2 : decide (p < a) = false := decide_eq_false h2
      have HC := Aside0.mk (show cmp3 a p = 0 from by rw [cmp3, if_neg h1, if_neg h2])
      go_enter Tryz.func203, Tryz.ntmps203
      go_wp2
      go_ret
      exact ⟨by rw [HC.out]; rfl, below_alloc (Below.refl _ _) _⟩
/-- The place of a page among first pages: all ahead are lower, none behind is. -/
def Place (rs : List (Int × Int)) (p : Int) (k : Nat) : Prop := k ≤ rs.length ∧ (∀ q, (h : q < rs.length) → q < k → rs[q].1 < p) ∧ (∀ q, (h : q < rs.length) → k ≤ q → p ≤ rs[q].1)
def hitAt (rs : List (Int × Int)) (p : Int) (k : Nat) : Bool := match rs[k]? with | some r => r.1 == p | none => false
def Rising (rs : List (Int × Int)) : Prop := ∀ i j, (hi : i < rs.length) → (hj : j < rs.length) → i < j → rs[i].1 < rs[j].1
def RelF (w : World) (base : Nat) (A : Option Addr) (c : Nat) (rs : List (Int × Int)) (p : Int) (v9 v10 : Value) (wr : World) : Prop :=
  ∃ i j : Nat, v9 = .int .i64 i ∧ v10 = .int .i64 j ∧ i ≤ j ∧ j ≤ rs.length ∧ (∀ q, (h : q < rs.length) → q < i → rs[q].1 < p) ∧ (∀ q, (h : q < rs.length) → j ≤ q → p ≤ rs[q].1) ∧ Own2 wr base A c rs ∧ Below w.heap.size w wr
set_option maxHeartbeats 4000000 in
set_option maxRecDepth 100000 in
theorem search_own (A : Option Addr) (c base : Nat) (rs : List (Int × Int)) (p : Int) (w : World) (hown : Own2 w base A c rs) (hris : Rising rs) (hlen : rs.length ≤ 100000) :
    Calls Tryz.prog 202 #[.slice A rs.length c, .int .i64 p, .func (.func 203) #[] #[]] w fun e w' => ∃ k : Nat, e = .returned (.tuple #[.int .i64 k, .bool (hitAt rs p k)]) ∧ Place rs p k ∧ Below w.heap.size w w' := by
  have H0 := Aside0.mk (show RelF w base A c rs p (.int .i64 0) (.int .i64 rs.length) w from ⟨0, rs.length, rfl, rfl, by omega, by omega, fun _ _ h => by omega, fun _ h h2 => by omega, hown, Below.refl _ _⟩)
  have HRIS := Aside0.mk hris
  clear hown hris
  go_enter Tryz.func202, Tryz.ntmps202
  go_wp2_with fail
  go_loopw [9, 10] (fun v9 v10 wr => RelF w base A c rs p v9 v10 wr) (fun v9 v10 _ => (intOf v10).toNat - (intOf v9).toNat)
  case atStart => exact H0.out
  case round =>
    obtain ⟨i, j, rfl, rfl, hij, hj, hlo, hhi, hown, hB⟩ := hrel
    have HLO := Aside0.mk hlo
    have HHI := Aside0.mk hhi
    have HOWN := Aside0.mk hown
    have HB := Aside0.mk hB
    clear hlo hhi hown hB
    by_cases hlt : i < j
    · have hltb : decide ((i : Int) < (j : Int)) = true := decide_eq_true (by omega)
      have hltI : (i : Int) < (j : Int) := by omega
      have hm1 : i ≤ (i + j) / 2 := by omega
      have hm2 : (i + j) / 2 < j := by omega
      have hml : (i + j) / 2 < rs.length := by omega
      obtain ⟨g, rfl, c0, c1⟩ := HOWN.out.at_ ((i + j) / 2) hml
      obtain ⟨⟨a, mm⟩, hr⟩ : ∃ r, rs[(i + j) / 2] = r := ⟨_, rfl⟩
      rw [hr] at c0 c1
      simp only at c0 c1
      have HR := Aside0.mk hr
      clear hr
      by_cases hap : a < p
      · have hc : cmp3 a p = -1 := if_pos hap
        have HAP := Aside0.mk hap
        clear hap
        go_wp2_with (go_at_call 203; (with_reducible refine (closure23 a mm p _).mono ?_); rintro e_ w1 ⟨rfl, hb⟩; have HB1 := Aside0.mk hb; clear hb)
        go_roundw
        case rel => exact ⟨(i + j) / 2 + 1, j, by go_num, rfl, by omega, by omega, fun q hq hlt2 => by
          have hx := HR.out
          rcases Nat.lt_or_ge q ((i + j) / 2) with h | h
          · have := HRIS.out q ((i + j) / 2) hq (by omega) h; rw [hx] at this; have := HAP.out; omega
          · obtain rfl : q = (i + j) / 2 := by omega
            rw [hx]; exact HAP.out, HHI.out, HOWN.out.below HB1.out, below_then HB.out HB.out.size HB1.out⟩
        case measure => simp [intOf]; omega
      · have hc : decide (cmp3 a p < 0) = false := decide_eq_false (by unfold cmp3; rw [if_neg hap]; split <;> omega)
        have hc2 : ¬ (cmp3 a p < 0) := by unfold cmp3; rw [if_neg hap]; split <;> omega
        have HAP := Aside0.mk hap
        clear hap
        go_wp2_with (go_at_call 203; (with_reducible refine (closure23 a mm p _).mono ?_); rintro e_ w1 ⟨rfl, hb⟩; have HB1 := Aside0.mk hb; clear hb)
        go_roundw
        case rel => exact ⟨i, (i + j) / 2, rfl, by go_num, by omega, by omega, HLO.out, fun q hq hle => by
          have hx := HR.out
          rcases Nat.lt_or_ge ((i + j) / 2) q with h | h
          · have := HRIS.out ((i + j) / 2) q (by omega) hq h; rw [hx] at this; have := HAP.out; omega
          · obtain rfl : q = (i + j) / 2 := by omega
            rw [hx]; have := HAP.out; omega, HOWN.out.below HB1.out, below_then HB.out HB.out.size HB1.out⟩
        case measure => simp [intOf]; omega
    · obtain rfl : i = j := by omega
      have hltI : ¬ ((i : Int) < (i : Int)) := by omega
      have hp : Place rs p i := ⟨hj, HLO.out, HHI.out⟩
      have HP := Aside0.mk hp
      clear hp
      by_cases hil : i < rs.length
      · have hil1 : (i : Int) < (rs.length : Int) := by omega
        have hil2 : decide ((i : Int) < (rs.length : Int)) = true := decide_eq_true hil1
        obtain ⟨g, rfl, c0, c1⟩ := HOWN.out.at_ i hil
        obtain ⟨⟨a, mm⟩, hr⟩ : ∃ r, rs[i] = r := ⟨_, rfl⟩
        rw [hr] at c0 c1
        simp only at c0 c1
        have hge : p ≤ a := by have := HHI.out i hil (Nat.le_refl _); rw [hr] at this; exact this
        have hh : hitAt rs p i = (cmp3 a p == 0) := by
          unfold hitAt cmp3
          rw [List.getElem?_eq_getElem hil, hr]
          simp only
          rw [if_neg (by omega)]
          by_cases h : a = p
          · subst h; simp
          · rw [if_pos (by omega)]; simp [h]
        have HH := Aside0.mk hh
        clear hh hr hge
        go_wp2_with (first | (go_at_call 203; (with_reducible refine (closure23 a mm p _).mono ?_); rintro e_ w1 ⟨rfl, hb⟩; have HB1 := Aside0.mk hb; clear hb))
        go_ret2
        exact ⟨i, by rw [HH.out]; rfl, HP.out, below_then HB.out HB.out.size HB1.out⟩
      · have hil1 : ¬ ((i : Int) < (rs.length : Int)) := by omega
        have hil2 : decide ((i : Int) < (rs.length : Int)) = false := decide_eq_false hil1
        have hh : hitAt rs p i = false := by
          unfold hitAt
          rw [List.getElem?_eq_none (by omega)]
        have HH := Aside0.mk hh
        clear hh
        go_wp2_with fail
        go_ret2
        exact ⟨i, by rw [HH.out]; rfl, HP.out, HB.out⟩
end Go.Proofs.YtenkdmloolbdaaaGreatDoor.TS
end
section
namespace Go.Proofs.YtenkdmloolbdaaaGreatDoor.TS
open Go.RowKit Go.Proofs.YtenkdmloolbdaaaGreatDoorW.PrintWords Go.Proofs.YtenkdmloolbdaaaGreatDoorW.PrintLast Go.Proofs.YtenkdmloolbdaaaGreatDoorW.PrintMore
set_option linter.unusedVariables false
set_option linter.unusedSimpArgs false
/-- Runs, rising, apart, from a page on. -/
def From (lo : Int) : List (Int × Int) → Prop
  | [] => True
  | r :: rs => lo ≤ r.1 ∧ 1 ≤ r.2 ∧ r.1 + r.2 ≤ 4096 ∧ From (r.1 + r.2) rs
theorem From.all : ∀ {rs : List (Int × Int)} {lo : Int}, From lo rs → ∀ r ∈ rs, lo ≤ r.1 ∧ 1 ≤ r.2 ∧ r.1 + r.2 ≤ 4096
  | [], _, _, r, hr => by cases hr
  | x :: rs, lo, h, r, hr => by
    rcases List.mem_cons.1 hr with rfl | hr
    · exact ⟨h.1, h.2.1, h.2.2.1⟩
    · have := From.all h.2.2.2 r hr
      have := h.1; have := h.2.1
      omega
theorem From.len : ∀ {rs : List (Int × Int)} {lo : Int}, From lo rs → rs = [] ∨ (rs.length : Int) ≤ 4096 - lo
  | [], _, _ => .inl rfl
  | x :: rs, lo, h => by
    refine .inr ?_
    have h1 := h.1; have h2 := h.2.1; have h3 := h.2.2.1
    rcases From.len h.2.2.2 with rfl | hl
    · simp; omega
    · rw [List.length_cons]; omega
theorem From.rising : ∀ {rs : List (Int × Int)} {lo : Int}, From lo rs → Rising rs
  | [], _, _, i, j, hi, _, _ => absurd hi (by simp)
  | x :: rs, lo, h, i, j, hi, hj, hij => by
    rcases j with _ | j
    · omega
    · rcases i with _ | i
      · have := From.all h.2.2.2 (rs[j]'(by simpa using hj)) (List.getElem_mem _)
        have h2 := h.2.1
        simp only [List.getElem_cons_zero, List.getElem_cons_succ]; omega
      · simp only [List.getElem_cons_succ]
        exact From.rising h.2.2.2 i j (by simpa using hi) (by simpa using hj) (by omega)
/-- A space in memory: its block, and the row of its runs. -/
structure Sp (w : World) (base g : Nat) (A : Option Addr) (c : Nat) (rs : List (Int × Int)) : Prop where
  lo : base ≤ g
  cell : w.heap[g]? = some (.cells #[.slice A rs.length c] 213 (0, 0))
  row : Own2 w base A c rs
  ne : Row0 A ≠ some g
  good : From 1 rs
theorem Sp.at0 {w : World} {base g : Nat} {A : Option Addr} {c : Nat} {rs : List (Int × Int)} (h : Sp w base g A c rs) : w.cell? ⟨g, 0, none⟩ = some (.slice A rs.length c) := by
  simp only [World.cell?, h.cell]; rfl
theorem Sp.len {w : World} {base g : Nat} {A : Option Addr} {c : Nat} {rs : List (Int × Int)} (h : Sp w base g A c rs) : rs.length ≤ 4095 := by
  rcases h.good.len with h0 | h0
  · rw [h0]; simp
  · omega
theorem Sp.below {w w' : World} {base g : Nat} {A : Option Addr} {c : Nat} {rs : List (Int × Int)} (h : Sp w base g A c rs) (hb : Below w.heap.size w w') : Sp w' base g A c rs :=
  ⟨h.lo, (hb.block g (Array.getElem?_eq_some_iff.1 h.cell).1).trans h.cell, h.row.below hb, h.ne, h.good⟩
set_option maxHeartbeats 4000000 in
set_option maxRecDepth 100000 in
theorem find_own (base g : Nat) (A : Option Addr) (c : Nat) (rs : List (Int × Int)) (p : Int) (w : World) (h : Sp w base g A c rs) :
    Calls Tryz.prog 165 #[.pointer (some ⟨g, 0, none⟩), .int .i64 p] w fun e w' => ∃ k : Nat, e = .returned (.tuple #[.int .i64 k, .bool (hitAt rs p k)]) ∧ Place rs p k ∧ Below w.heap.size w w' := by
  have c0 := h.at0
  have HS := Aside0.mk h
  clear h
  go_enter Tryz.func165, Tryz.ntmps165
  go_wp2_with (go_at_call 202; (with_reducible refine (search_own A c base rs p _ HS.out.row HS.out.good.rising (Nat.le_trans HS.out.len (by omega))).mono ?_); rintro e_ w1 ⟨k, rfl, hp, hb⟩; have HP := Aside0.mk hp; have HB := Aside0.mk hb; clear hp hb)
  go_ret2
  exact ⟨k, rfl, HP.out, HB.out⟩
/-- What a call may turn: the space's block, and the row of its runs; and what is new. -/
structure Chg (w w' : World) (g : Nat) (row : Option Nat) : Prop where
  os : w'.os = w.os
  tape : w'.tape = w.tape
  output : w'.output = w.output
  size : w.heap.size ≤ w'.heap.size
  block : ∀ k, k < w.heap.size → k ≠ g → some k ≠ row → w'.heap[k]? = w.heap[k]?
theorem Chg.refl (w : World) (g : Nat) (row : Option Nat) : Chg w w g row := ⟨rfl, rfl, rfl, Nat.le_refl _, fun _ _ _ _ => rfl⟩
theorem Chg.of_below {w w' : World} (h : Below w.heap.size w w') (g : Nat) (row : Option Nat) : Chg w w' g row := ⟨h.os, h.tape, h.output, h.size, fun k hk _ _ => h.block k hk⟩
theorem Chg.below {w w' : World} {g : Nat} {row : Option Nat} (h : Chg w w' g row) {B : Nat} (hB : B ≤ w.heap.size) (hg : B ≤ g) (hr : ∀ k, row = some k → B ≤ k) : Below B w w' :=
  ⟨h.os, h.tape, h.output, h.size, fun k hk => h.block k (by omega) (by omega) (fun e => by have := hr k e.symm; omega)⟩
theorem Chg.before {w w1 w2 : World} {g : Nat} {row : Option Nat} (hb : Below w.heap.size w w1) (h : Chg w1 w2 g row) : Chg w w2 g row :=
  ⟨h.os.trans hb.os, h.tape.trans hb.tape, h.output.trans hb.output, Nat.le_trans hb.size h.size, fun k hk hg hr => (h.block k (Nat.lt_of_lt_of_le hk hb.size) hg hr).trans (hb.block k hk)⟩
theorem Own2.rowlt {w : World} {base : Nat} {A : Option Addr} {c : Nat} {rs : List (Int × Int)} (h : Own2 w base A c rs) : ∀ k, Row0 A = some k → base ≤ k ∧ k < w.heap.size := by
  intro k hk
  exact World.ownsRow.lt h k (by rw [own_slice]; exact hk)
end Go.Proofs.YtenkdmloolbdaaaGreatDoor.TS
end
section
namespace Go.Proofs.YtenkdmloolbdaaaGreatDoor.TS
open Go.RowKit Go.Proofs.YtenkdmloolbdaaaGreatDoorW.PrintWords Go.Proofs.YtenkdmloolbdaaaGreatDoorW.PrintLast Go.Proofs.YtenkdmloolbdaaaGreatDoorW.PrintMore
set_option linter.unusedVariables false
set_option linter.unusedSimpArgs false
/-- The run that a page is in. -/
def ofR (rs : List (Int × Int)) (p : Int) : Int × Int × Bool := match rs.find? (fun r => decide (r.1 ≤ p) && decide (p < r.1 + r.2)) with | some r => (r.1, r.2, true) | none => (0, 0, false)
theorem ofR_none (rs : List (Int × Int)) (p : Int) (h : ∀ i, (hi : i < rs.length) → ¬ (rs[i].1 ≤ p ∧ p < rs[i].1 + rs[i].2)) : ofR rs p = (0, 0, false) := by
  unfold ofR
  have e : rs.find? (fun r => decide (r.1 ≤ p) && decide (p < r.1 + r.2)) = none := by
    rw [List.find?_eq_none]
    intro r hr hc
    obtain ⟨i, hi, rfl⟩ := List.getElem_of_mem hr
    simp only [Bool.and_eq_true, decide_eq_true_eq] at hc
    exact h i hi hc
  rw [e]
theorem ofR_some : ∀ {rs : List (Int × Int)} {lo : Int} (p : Int) (i : Nat) (hi : i < rs.length), From lo rs → rs[i].1 ≤ p → p < rs[i].1 + rs[i].2 → ofR rs p = (rs[i].1, rs[i].2, true)
  | [], _, _, i, hi, _, _, _ => absurd hi (by simp)
  | x :: rs, lo, p, 0, hi, h, h1, h2 => by
    simp only [List.getElem_cons_zero] at h1 h2 ⊢
    unfold ofR
    rw [List.find?_cons_of_pos (by simp only [Bool.and_eq_true, decide_eq_true_eq]; exact ⟨h1, h2⟩)]
  | x :: rs, lo, p, i + 1, hi, h, h1, h2 => by
    simp only [List.getElem_cons_succ] at h1 h2 ⊢
    have hi' : i < rs.length := by simpa using hi
    have ha := From.all h.2.2.2 rs[i] (List.getElem_mem _)
    have ih := ofR_some p i hi' h.2.2.2 h1 h2
    unfold ofR at ih ⊢
    rw [List.find?_cons_of_neg (by simp only [Bool.and_eq_true, decide_eq_true_eq]; omega)]
    exact ih
theorem Sp.behind {w : World} {base g : Nat} {A : Option Addr} {c : Nat} {rs : List (Int × Int)} (h : Sp w base g A c rs) (i : Nat) (hi : i < rs.length) : 1 ≤ rs[i].1 ∧ 1 ≤ rs[i].2 ∧ rs[i].1 + rs[i].2 ≤ 4096 := h.good.all _ (List.getElem_mem hi)
theorem From.apart : ∀ {rs : List (Int × Int)} {lo : Int} (i j : Nat) (hi : i < rs.length) (hj : j < rs.length), From lo rs → i < j → rs[i].1 + rs[i].2 ≤ rs[j].1
  | [], _, i, _, hi, _, _, _ => absurd hi (by simp)
  | x :: rs, lo, 0, j + 1, hi, hj, h, hij => by
    simp only [List.getElem_cons_zero, List.getElem_cons_succ]
    exact (From.all h.2.2.2 _ (List.getElem_mem _)).1
  | x :: rs, lo, i + 1, j + 1, hi, hj, h, hij => by
    simp only [List.getElem_cons_succ]
    exact From.apart i j (by simpa using hi) (by simpa using hj) h.2.2.2 (by omega)
set_option maxHeartbeats 4000000 in
set_option maxRecDepth 100000 in
theorem of_own (base g : Nat) (A : Option Addr) (c : Nat) (rs : List (Int × Int)) (p : Int) (w : World) (h : Sp w base g A c rs) :
    Calls Tryz.prog 145 #[.pointer (some ⟨g, 0, none⟩), .int .i64 p] w fun e w' => e = .returned (.tuple #[.int .i64 (ofR rs p).1, .int .i64 (ofR rs p).2.1, .bool (ofR rs p).2.2]) ∧ Below w.heap.size w w' := by
  have hlen := h.len
  have HS := Aside0.mk h
  clear h
  go_enter Tryz.func145, Tryz.ntmps145
  go_upto_region 4 with (go_at_call 165; (with_reducible refine (find_own base g A c rs p _ HS.out).mono ?_); rintro e_ w1 ⟨k, rfl, hp, hb⟩; have HP := Aside0.mk hp; have HB := Aside0.mk hb; have HS1 := Aside0.mk (HS.out.below hb); clear hp hb)
  obtain ⟨hk, hlo, hhi⟩ := HP.out
  have HLO := Aside0.mk hlo
  have HHI := Aside0.mk hhi
  clear hlo hhi
  have c0 := HS1.out.at0
  cases hh : hitAt rs p k with
  | true =>
    have hkl : k < rs.length := by
      refine Classical.byContradiction fun hn => ?_
      unfold hitAt at hh
      rw [List.getElem?_eq_none (by omega)] at hh
      cases hh
    obtain ⟨gr, rfl, d0, d1⟩ := HS1.out.row.at_ k hkl
    have hb1 := HS1.out.behind k hkl
    have hat : rs[k].1 = p := by
      unfold hitAt at hh
      rw [List.getElem?_eq_getElem hkl] at hh
      simpa using hh
    have hof := ofR_some p k hkl HS.out.good (by omega) (by omega)
    obtain ⟨⟨a, m⟩, hr⟩ : ∃ r, rs[k] = r := ⟨_, rfl⟩
    rw [hr] at d0 d1 hb1 hat hof
    simp only at d0 d1 hb1 hat hof
    have HOF := Aside0.mk hof
    clear hof hr hh
    have hk0 : (0 : Int) ≤ (k : Int) := by omega
    have hk1 : (k : Int) < (rs.length : Int) := by omega
    have hkb : decide ((k : Int) < 0) = false := decide_eq_false (by omega)
    have hpb : decide (a + m ≤ p) = false := decide_eq_false (by omega)
    have hw : wrap64 (a + m) = a + m := IntWalk.wrap64_in _ ⟨by omega, by omega⟩
    clear hb1 hat
    go_upto_region 6 with (fail)
    refine st_ 23 (fun w' => w'.cell? ⟨g, 0, none⟩ = some (.slice (some ⟨gr, 0, none⟩) rs.length c) ∧ w'.cell? ⟨gr, k * 2, none⟩ = some (.int .i64 a) ∧ w'.cell? ⟨gr, k * 2 + 1, none⟩ = some (.int .i64 m)) [] ⟨c0, d0, d1⟩ (fun hHeld => ?_)
    refine pu_ 0 21 1 ?_
    refine pu_ 1 22 3 ?_
    refine pu_ 2 23 7 ?_
    refine pu_ 3 24 15 ?_
    refine pu_ 4 25 31 ?_
    refine pu_ 5 26 63 ?_
    refine pu_ 6 27 127 ?_
    refine pu_ 8 29 383 ?_
    refine pu_ 12 33 4479 ?_
    refine pu_ 13 34 12671 ?_
    refine pu_ 14 35 29055 ?_
    refine pu_ 16 37 94591 ?_
    refine ta_ 7 28 94719 hHeld ?_
    refine pu_ 9 30 95231 ?_
    refine pu_ 10 31 96255 ?_
    refine ta_ 11 32 98303 hHeld ?_
    refine ta_ 15 36 131071 hHeld ?_
    refine pu_ 17 38 262143 ?_
    refine pu_ 18 39 524287 ?_
    refine ta_ 19 40 1048575 hHeld ?_
    refine pu_ 20 41 2097151 ?_
    refine pu_ 21 42 4194303 ?_
    refine pu_ 22 43 8388607 ?_
    refine done_ (by kernel_rfl) ?_
    go_upto_region 8 with (fail)
    refine st_ 19 (fun w' => w'.cell? ⟨g, 0, none⟩ = some (.slice (some ⟨gr, 0, none⟩) rs.length c) ∧ w'.cell? ⟨gr, k * 2, none⟩ = some (.int .i64 a) ∧ w'.cell? ⟨gr, k * 2 + 1, none⟩ = some (.int .i64 m)) [] ⟨c0, d0, d1⟩ (fun hHeld => ?_)
    refine pu_ 0 44 1 ?_
    refine pu_ 1 45 3 ?_
    refine pu_ 2 46 7 ?_
    refine pu_ 4 48 23 ?_
    refine pu_ 8 52 279 ?_
    refine pu_ 9 53 791 ?_
    refine pu_ 10 54 1815 ?_
    refine pu_ 12 56 5911 ?_
    refine ta_ 3 47 5919 hHeld ?_
    refine pu_ 5 49 5951 ?_
    refine pu_ 6 50 6015 ?_
    refine ta_ 7 51 6143 hHeld ?_
    refine pu_ 16 4 71679 ?_
    refine ta_ 11 55 73727 hHeld ?_
    refine pu_ 13 57 81919 ?_
    refine pu_ 14 58 98303 ?_
    refine ta_ 15 59 131071 hHeld ?_
    refine pu_ 17 5 262143 ?_
    refine pu_ 18 6 524287 ?_
    refine done_ (by kernel_rfl) ?_
    go_wp2_with fail
    go_ret3
    exact ⟨by rw [HOF.out]; rfl, below_drew (below_drew HB.out)⟩
  | false =>
    have hne : ∀ i, (hi : i < rs.length) → k ≤ i → p < rs[i].1 := by
      intro i hi hki
      have h1 := HHI.out i hi hki
      rcases Nat.lt_or_ge k i with h | h
      · have h2 := HS.out.good.rising k i (by omega) hi h
        have h3 := HHI.out k (by omega) (Nat.le_refl _)
        omega
      · obtain rfl : k = i := by omega
        unfold hitAt at hh
        rw [List.getElem?_eq_getElem hi] at hh
        have : rs[k].1 ≠ p := by simpa using hh
        omega
    rcases Nat.eq_zero_or_pos k with h0 | h0
    · have hof := ofR_none rs p (fun i hi hc => by have := hne i hi (by omega); omega)
      have HOF := Aside0.mk hof
      clear hof hne hh
      have hm1 : (k : Int) - 1 = -1 := by omega
      clear h0
      go_upto_region 6 with (fail)
      refine st_ 23 (fun w' => True) [] trivial (fun hHeld => ?_)
      refine pu_ 0 21 1 ?_
      refine pu_ 1 22 3 ?_
      refine pu_ 2 23 7 ?_
      refine po_ 3 24 15 ?_
      refine po_ 4 25 31 ?_
      refine po_ 5 26 63 ?_
      refine po_ 6 27 127 ?_
      refine po_ 7 28 255 ?_
      refine po_ 8 29 511 ?_
      refine po_ 9 30 1023 ?_
      refine po_ 10 31 2047 ?_
      refine po_ 11 32 4095 ?_
      refine po_ 12 33 8191 ?_
      refine po_ 13 34 16383 ?_
      refine po_ 14 35 32767 ?_
      refine po_ 15 36 65535 ?_
      refine po_ 16 37 131071 ?_
      refine po_ 17 38 262143 ?_
      refine po_ 18 39 524287 ?_
      refine po_ 19 40 1048575 ?_
      refine po_ 20 41 2097151 ?_
      refine po_ 21 42 4194303 ?_
      refine pu_ 22 43 8388607 ?_
      refine done_ (by kernel_rfl) ?_
      go_wp2_with fail
      go_ret3
      exact ⟨by rw [HOF.out]; rfl, below_drew HB.out⟩
    · obtain ⟨q, hq⟩ : ∃ q, k = q + 1 := ⟨k - 1, by omega⟩
      have hql : q < rs.length := by omega
      obtain ⟨gr, rfl, d0, d1⟩ := HS1.out.row.at_ q hql
      have hb1 := HS1.out.behind q hql
      have hlt := HLO.out q hql (by omega)
      have hne2 : ∀ i, (hi : i < rs.length) → q < i → p < rs[i].1 := fun i hi h => hne i hi (by omega)
      have hin : p < rs[q].1 + rs[q].2 → ofR rs p = (rs[q].1, rs[q].2, true) := fun h => ofR_some p q hql HS.out.good (by omega) h
      have hout : ¬ p < rs[q].1 + rs[q].2 → ofR rs p = (0, 0, false) := by
        intro h
        refine ofR_none rs p (fun i hi hc => ?_)
        rcases Nat.lt_trichotomy i q with h2 | h2 | h2
        · have := HS.out.good.apart i q hi hql h2; omega
        · subst h2; omega
        · have := hne2 i hi h2; omega
      obtain ⟨⟨a, m⟩, hr⟩ : ∃ r, rs[q] = r := ⟨_, rfl⟩
      rw [hr] at d0 d1 hb1 hin hout
      simp only at d0 d1 hb1 hin hout
      clear hr hh hne hne2 hlt
      have hk0 : (0 : Int) ≤ (q : Int) := by omega
      have hk1 : (q : Int) < (rs.length : Int) := by omega
      have hkb : decide ((q : Int) < 0) = false := decide_eq_false (by omega)
      have hwk := Aside0.mk (show (k : Int) - 1 = (q : Int) from by omega)
      have hwp := Aside0.mk (show wrap64 (a + m) = a + m from IntWalk.wrap64_in _ ⟨by omega, by omega⟩)
      by_cases hpe : p < a + m
      · have hpb : decide (a + m ≤ p) = false := decide_eq_false (by omega)
        have HOF := Aside0.mk (hin hpe)
        clear hin hout hb1 hpe hq
        have hw := hwp.out
        have hw2 := hwk.out
        go_upto_region 6 with (fail)
        refine st_ 23 (fun w' => w'.cell? ⟨g, 0, none⟩ = some (.slice (some ⟨gr, 0, none⟩) rs.length c) ∧ w'.cell? ⟨gr, q * 2, none⟩ = some (.int .i64 a) ∧ w'.cell? ⟨gr, q * 2 + 1, none⟩ = some (.int .i64 m)) [] ⟨c0, d0, d1⟩ (fun hHeld => ?_)
        refine pu_ 0 21 1 ?_
        refine pu_ 1 22 3 ?_
        refine pu_ 2 23 7 ?_
        refine pu_ 3 24 15 ?_
        refine pu_ 4 25 31 ?_
        refine pu_ 5 26 63 ?_
        refine pu_ 6 27 127 ?_
        refine pu_ 8 29 383 ?_
        refine pu_ 12 33 4479 ?_
        refine pu_ 13 34 12671 ?_
        refine pu_ 14 35 29055 ?_
        refine pu_ 16 37 94591 ?_
        refine ta_ 7 28 94719 hHeld ?_
        refine pu_ 9 30 95231 ?_
        refine pu_ 10 31 96255 ?_
        refine ta_ 11 32 98303 hHeld ?_
        refine ta_ 15 36 131071 hHeld ?_
        refine pu_ 17 38 262143 ?_
        refine pu_ 18 39 524287 ?_
        refine ta_ 19 40 1048575 hHeld ?_
        refine pu_ 20 41 2097151 ?_
        refine pu_ 21 42 4194303 ?_
        refine pu_ 22 43 8388607 ?_
        refine done_ (by kernel_rfl) ?_
        go_upto_region 8 with (fail)
        refine st_ 19 (fun w' => w'.cell? ⟨g, 0, none⟩ = some (.slice (some ⟨gr, 0, none⟩) rs.length c) ∧ w'.cell? ⟨gr, q * 2, none⟩ = some (.int .i64 a) ∧ w'.cell? ⟨gr, q * 2 + 1, none⟩ = some (.int .i64 m)) [] ⟨c0, d0, d1⟩ (fun hHeld => ?_)
        refine pu_ 0 44 1 ?_
        refine pu_ 1 45 3 ?_
        refine pu_ 2 46 7 ?_
        refine pu_ 4 48 23 ?_
        refine pu_ 8 52 279 ?_
        refine pu_ 9 53 791 ?_
        refine pu_ 10 54 1815 ?_
        refine pu_ 12 56 5911 ?_
        refine ta_ 3 47 5919 hHeld ?_
        refine pu_ 5 49 5951 ?_
        refine pu_ 6 50 6015 ?_
        refine ta_ 7 51 6143 hHeld ?_
        refine pu_ 16 4 71679 ?_
        refine ta_ 11 55 73727 hHeld ?_
        refine pu_ 13 57 81919 ?_
        refine pu_ 14 58 98303 ?_
        refine ta_ 15 59 131071 hHeld ?_
        refine pu_ 17 5 262143 ?_
        refine pu_ 18 6 524287 ?_
        refine done_ (by kernel_rfl) ?_
        go_wp2_with fail
        go_ret3
        exact ⟨by rw [HOF.out]; rfl, below_drew (below_drew HB.out)⟩
      · have hpb : decide (a + m ≤ p) = true := decide_eq_true (by omega)
        have HOF := Aside0.mk (hout hpe)
        clear hin hout hb1 hpe hq
        have hw := hwp.out
        have hw2 := hwk.out
        go_upto_region 6 with (fail)
        refine st_ 23 (fun w' => w'.cell? ⟨g, 0, none⟩ = some (.slice (some ⟨gr, 0, none⟩) rs.length c) ∧ w'.cell? ⟨gr, q * 2, none⟩ = some (.int .i64 a) ∧ w'.cell? ⟨gr, q * 2 + 1, none⟩ = some (.int .i64 m)) [] ⟨c0, d0, d1⟩ (fun hHeld => ?_)
        refine pu_ 0 21 1 ?_
        refine pu_ 1 22 3 ?_
        refine pu_ 2 23 7 ?_
        refine pu_ 3 24 15 ?_
        refine pu_ 4 25 31 ?_
        refine pu_ 5 26 63 ?_
        refine pu_ 6 27 127 ?_
        refine pu_ 8 29 383 ?_
        refine pu_ 12 33 4479 ?_
        refine pu_ 13 34 12671 ?_
        refine pu_ 14 35 29055 ?_
        refine pu_ 16 37 94591 ?_
        refine ta_ 7 28 94719 hHeld ?_
        refine pu_ 9 30 95231 ?_
        refine pu_ 10 31 96255 ?_
        refine ta_ 11 32 98303 hHeld ?_
        refine ta_ 15 36 131071 hHeld ?_
        refine pu_ 17 38 262143 ?_
        refine pu_ 18 39 524287 ?_
        refine ta_ 19 40 1048575 hHeld ?_
        refine pu_ 20 41 2097151 ?_
        refine pu_ 21 42 4194303 ?_
        refine pu_ 22 43 8388607 ?_
        refine done_ (by kernel_rfl) ?_
        go_wp2_with fail
        go_ret3
        exact ⟨by rw [HOF.out]; rfl, below_drew HB.out⟩
end Go.Proofs.YtenkdmloolbdaaaGreatDoor.TS
end
section
namespace Go.Proofs.YtenkdmloolbdaaaGreatDoor.TS
open Go.RowKit Go.Proofs.YtenkdmloolbdaaaGreatDoorW.PrintWords Go.Proofs.YtenkdmloolbdaaaGreatDoorW.PrintLast Go.Proofs.YtenkdmloolbdaaaGreatDoorW.PrintMore
set_option linter.unusedVariables false
set_option linter.unusedSimpArgs false
/-- A run taken: where, and what is taken then. -/
def takeL (n : Int) : Int → List (Int × Int) → Int × List (Int × Int)
  | a, [] => (a, [(a, n)])
  | a, r :: rs => if r.1 - a < n then ((takeL n (r.1 + r.2) rs).1, r :: (takeL n (r.1 + r.2) rs).2) else (a, (a, n) :: r :: rs)
theorem takeL_good : ∀ {rs : List (Int × Int)} {lo : Int} (n : Int), From lo rs → 1 ≤ n → (takeL n lo rs).1 + n ≤ 4096 → From lo (takeL n lo rs).2
  | [], lo, n, _, hn, h => ⟨Int.le_refl _, hn, h, trivial⟩
  | r :: rs, lo, n, h, hn, hs => by
    rw [takeL] at hs ⊢
    split at hs
    · rename_i hlt
      rw [if_pos hlt]
      exact ⟨h.1, h.2.1, h.2.2.1, takeL_good n h.2.2.2 hn hs⟩
    · rename_i hlt
      rw [if_neg hlt]
      exact ⟨Int.le_refl _, hn, hs, by omega, h.2.1, h.2.2.1, h.2.2.2⟩
theorem Below.grown {w w' : World} {row : Option Nat} (h : w.grownBy w' row) (g : Nat) : Chg w w' g row := ⟨h.os, h.tape, h.output, h.size, fun k hk _ hr => h.block k hk hr⟩
theorem Chg.set {w w' : World} {g : Nat} {row : Option Nat} (h : Chg w w' g row) (j : Nat) (u : Value) : Chg w (w'.setCell ⟨g, j, none⟩ u) g row :=
  ⟨h.os, h.tape, h.output, by simpa [World.setCell] using h.size, fun k hk hg hr => (Below.heap_setCell w' ⟨g, j, none⟩ u k hg).trans (h.block k hk hg hr)⟩
theorem Own2.setOther {w : World} {base : Nat} {A : Option Addr} {c : Nat} {rs : List (Int × Int)} (h : Own2 w base A c rs) {g : Nat} (hne : Row0 A ≠ some g) (j : Nat) (u : Value) : Own2 (w.setCell ⟨g, j, none⟩ u) base A c rs := by
  refine ⟨h.1, ?_⟩
  rcases h.2 with hn | ⟨b, cap, cur, hs, hbb, hg, rest⟩
  · exact .inl hn
  · injection hs with ha _ hc
    subst ha; subst hc
    refine .inr ⟨b, c, cur, rfl, hbb, ?_, rest⟩
    rw [Below.heap_setCell w ⟨g, j, none⟩ u b (fun e => hne (by have e' : b = g := e; rw [← e']; rfl))]
    exact hg
theorem heap_set0 {w : World} {g : Nat} {v u : Value} {t : TypeId} (h : w.heap[g]? = some (.cells #[v] t (0, 0))) : (w.setCell ⟨g, 0, none⟩ u).heap[g]? = some (.cells #[u] t (0, 0)) := by
  have hl := (Array.getElem?_eq_some_iff.1 h).1
  have he := (Array.getElem?_eq_some_iff.1 h).2
  simp only [World.setCell, Array.getElem?_modify, if_pos rfl, h]
  rfl
end Go.Proofs.YtenkdmloolbdaaaGreatDoor.TS
end
