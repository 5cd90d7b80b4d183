/- (*Space).find, Take, Give, Of, Runs, Free: what they do to a row of runs. -/
import Derived.Test.YtpnmbdhjmlidaaaD
namespace Go.Proofs.Ytpnmbdhjmlidaaa.T
open Go.RowKit Go.Proofs.YtpnmbdhjmlidaaaW.PrintWords Go.Proofs.YtpnmbdhjmlidaaaW.PrintLast Go.Proofs.YtpnmbdhjmlidaaaW.PrintMore
set_option linter.unusedVariables false
set_option linter.unusedSimpArgs false
/-- Runs, rising, apart, from a page on. -/
def From (lo : Int) : List (Int × Int) → Prop
  | [] => True
  | r :: rs => lo ≤ r.1 ∧ 1 ≤ r.2 ∧ r.1 + r.2 ≤ 4096 ∧ From (r.1 + r.2) rs
theorem From.mono {rs : List (Int × Int)} {lo lo' : Int} (h : From lo rs) (hl : lo' ≤ lo) : From lo' rs := by
  cases rs with
  | nil => trivial
  | cons r rs => exact ⟨by have := h.1; omega, h.2⟩
theorem From.all : ∀ {rs : List (Int × Int)} {lo : Int}, From lo rs → ∀ r ∈ rs, lo ≤ r.1 ∧ 1 ≤ r.2 ∧ r.1 + r.2 ≤ 4096
  | [], _, _, r, hr => by cases hr
  | x :: rs, lo, h, r, hr => by
    rcases List.mem_cons.1 hr with rfl | hr
    · exact ⟨h.1, h.2.1, h.2.2.1⟩
    · have := From.all h.2.2.2 r hr
      have := h.1; have := h.2.1
      omega
theorem From.len : ∀ {rs : List (Int × Int)} {lo : Int}, From lo rs → rs = [] ∨ (rs.length : Int) ≤ 4096 - lo
  | [], _, _ => .inl rfl
  | x :: rs, lo, h => by
    refine .inr ?_
    have h1 := h.1; have h2 := h.2.1; have h3 := h.2.2.1
    rcases From.len h.2.2.2 with rfl | hl
    · simp; omega
    · rw [List.length_cons]; omega
theorem From.rising : ∀ {rs : List (Int × Int)} {lo : Int}, From lo rs → Rising rs
  | [], _, _, i, j, hi, _, _ => absurd hi (by simp)
  | x :: rs, lo, h, i, j, hi, hj, hij => by
    rcases j with _ | j
    · omega
    · rcases i with _ | i
      · have := From.all h.2.2.2 (rs[j]'(by simpa using hj)) (List.getElem_mem _)
        have h2 := h.2.1
        simp only [List.getElem_cons_zero, List.getElem_cons_succ]; omega
      · simp only [List.getElem_cons_succ]
        exact From.rising h.2.2.2 i j (by simpa using hi) (by simpa using hj) (by omega)
/-- A space in memory: its block, and the row of its runs. -/
structure Sp (w : World) (base g : Nat) (A : Option Addr) (c : Nat) (rs : List (Int × Int)) : Prop where
  lo : base ≤ g
  cell : w.heap[g]? = some (.cells #[.slice A rs.length c] 48 (0, 0))
  row : Own2 w base A c rs
  ne : Row0 A ≠ some g
  good : From 1 rs
theorem Sp.at0 {w : World} {base g : Nat} {A : Option Addr} {c : Nat} {rs : List (Int × Int)} (h : Sp w base g A c rs) : w.cell? ⟨g, 0, none⟩ = some (.slice A rs.length c) := by
  simp only [World.cell?, h.cell]; rfl
theorem Sp.len {w : World} {base g : Nat} {A : Option Addr} {c : Nat} {rs : List (Int × Int)} (h : Sp w base g A c rs) : rs.length ≤ 4095 := by
  rcases h.good.len with h0 | h0
  · rw [h0]; simp
  · omega
theorem Sp.below {w w' : World} {base g : Nat} {A : Option Addr} {c : Nat} {rs : List (Int × Int)} (h : Sp w base g A c rs) (hb : Below w.heap.size w w') : Sp w' base g A c rs :=
  ⟨h.lo, (hb.block g (Array.getElem?_eq_some_iff.1 h.cell).1).trans h.cell, h.row.below hb, h.ne, h.good⟩
set_option maxHeartbeats 4000000 in
set_option maxRecDepth 100000 in
theorem find_own (base g : Nat) (A : Option Addr) (c : Nat) (rs : List (Int × Int)) (p : Int) (w : World) (h : Sp w base g A c rs) :
    Calls Try.prog 18 #[.pointer (some ⟨g, 0, none⟩), .int .i64 p] w fun e w' => ∃ k : Nat, e = .returned (.tuple #[.int .i64 k, .bool (hitAt rs p k)]) ∧ Place rs p k ∧ Below w.heap.size w w' := by
  have c0 := h.at0
  have HS := Aside0.mk h
  clear h
  go_enter Try.func18, Try.ntmps18
  go_wp2_with (go_at_call 22; (with_reducible refine (search_own A c base rs p _ HS.out.row HS.out.good.rising (Nat.le_trans HS.out.len (by omega))).mono ?_); rintro e_ w1 ⟨k, rfl, hp, hb⟩; have HP := Aside0.mk hp; have HB := Aside0.mk hb; clear hp hb)
  go_ret2
  exact ⟨k, rfl, HP.out, HB.out⟩
/-- What a call may turn: the space's block, and the row of its runs; and what is new. -/
structure Chg (w w' : World) (g : Nat) (row : Option Nat) : Prop where
  os : w'.os = w.os
  tape : w'.tape = w.tape
  output : w'.output = w.output
  size : w.heap.size ≤ w'.heap.size
  block : ∀ k, k < w.heap.size → k ≠ g → some k ≠ row → w'.heap[k]? = w.heap[k]?
theorem Chg.refl (w : World) (g : Nat) (row : Option Nat) : Chg w w g row := ⟨rfl, rfl, rfl, Nat.le_refl _, fun _ _ _ _ => rfl⟩
theorem Chg.of_below {w w' : World} (h : Below w.heap.size w w') (g : Nat) (row : Option Nat) : Chg w w' g row := ⟨h.os, h.tape, h.output, h.size, fun k hk _ _ => h.block k hk⟩
theorem Chg.below {w w' : World} {g : Nat} {row : Option Nat} (h : Chg w w' g row) {B : Nat} (hB : B ≤ w.heap.size) (hg : B ≤ g) (hr : ∀ k, row = some k → B ≤ k) : Below B w w' :=
  ⟨h.os, h.tape, h.output, h.size, fun k hk => h.block k (by omega) (by omega) (fun e => by have := hr k e.symm; omega)⟩
theorem Chg.before {w w1 w2 : World} {g : Nat} {row : Option Nat} (hb : Below w.heap.size w w1) (h : Chg w1 w2 g row) : Chg w w2 g row :=
  ⟨h.os.trans hb.os, h.tape.trans hb.tape, h.output.trans hb.output, Nat.le_trans hb.size h.size, fun k hk hg hr => (h.block k (Nat.lt_of_lt_of_le hk hb.size) hg hr).trans (hb.block k hk)⟩
theorem Own2.rowlt {w : World} {base : Nat} {A : Option Addr} {c : Nat} {rs : List (Int × Int)} (h : Own2 w base A c rs) : ∀ k, Row0 A = some k → base ≤ k ∧ k < w.heap.size := by
  intro k hk
  exact World.ownsRow.lt h k (by rw [own_slice]; exact hk)
def pages (rs : List (Int × Int)) : Int := (rs.map (·.2)).sum
theorem pages_le : ∀ {rs : List (Int × Int)} {lo : Int}, From lo rs → lo ≤ 4096 → 0 ≤ pages rs ∧ pages rs ≤ 4096 - lo
  | [], lo, _, h => by simp [pages]; omega
  | x :: rs, lo, h, hl => by
    have h1 := h.1; have h2 := h.2.1; have h3 := h.2.2.1
    have ih := pages_le h.2.2.2 h3
    have e : pages (x :: rs) = x.2 + pages rs := by simp [pages]
    omega
theorem From.take : ∀ {rs : List (Int × Int)} {lo : Int} (i : Nat), From lo rs → From lo (rs.take i)
  | [], _, _, _ => by simp [From]
  | x :: rs, lo, 0, h => by simp [From]
  | x :: rs, lo, i + 1, h => ⟨h.1, h.2.1, h.2.2.1, From.take i h.2.2.2⟩
theorem pages_succ (rs : List (Int × Int)) (i : Nat) (hi : i < rs.length) : pages (rs.take (i + 1)) = pages (rs.take i) + rs[i].2 := by
  unfold pages
  rw [List.take_add_one, List.getElem?_eq_getElem hi, List.map_append, List.sum_append]
  simp only [Option.toList_some, List.map_cons, List.map_nil, List.sum_cons, List.sum_nil]
  omega
def RelFree (w : World) (base g : Nat) (A : Option Addr) (c : Nat) (rs : List (Int × Int)) (v3 v5 v13 : Value) (wr : World) : Prop :=
  ∃ i : Nat, v13 = .int .i64 i ∧ v3 = .int .i64 (4095 - pages (rs.take i)) ∧ i ≤ rs.length ∧ Own2 wr base A c rs ∧ Below w.heap.size w wr
set_option maxHeartbeats 4000000 in
set_option maxRecDepth 100000 in
theorem free_own (base g : Nat) (A : Option Addr) (c : Nat) (rs : List (Int × Int)) (w : World) (h : Sp w base g A c rs) :
    Calls Try.prog 11 #[.pointer (some ⟨g, 0, none⟩)] w fun e w' => e = .returned (.int .i64 (4095 - pages rs)) ∧ Below w.heap.size w w' := by
  have c0 := h.at0
  have hlen := h.len
  have HS := Aside0.mk h
  clear h
  go_enter Try.func11, Try.ntmps11
  go_wp2_with fail
  go_loopw [3, 5, 13] (fun v3 v5 v13 wr => RelFree w base g A c rs v3 v5 v13 wr) (fun _ _ v13 _ => rs.length - (intOf v13).toNat)
  case atStart => exact ⟨0, rfl, by simp [pages], Nat.zero_le _, HS.out.row, Below.refl _ _⟩
  case round =>
    clear c0
    obtain ⟨i, rfl, rfl, hi, hown, hB⟩ := hrel
    have HOWN := Aside0.mk hown
    have HB := Aside0.mk hB
    clear hown hB
    by_cases hlt : i < rs.length
    · have hltb : decide ((i : Int) < (rs.length : Int)) = true := decide_eq_true (by omega)
      have hltI : (i : Int) < (rs.length : Int) := by omega
      obtain ⟨gr, rfl, d0, d1⟩ := HOWN.out.at_ i hlt
      have hp1 := pages_le (HS.out.good.take i) (by omega)
      have hp2 := pages_le (HS.out.good.take (i + 1)) (by omega)
      have hs := pages_succ rs i hlt
      obtain ⟨r, hr⟩ : ∃ r, rs[i] = r := ⟨_, rfl⟩
      obtain ⟨P, hP⟩ : ∃ P, pages (rs.take i) = P := ⟨_, rfl⟩
      rw [hr] at d0 d1 hs
      rw [hs] at hp2
      rw [hP] at hs hp1 hp2 ⊢
      have HSU := Aside0.mk hs
      clear hr hs
      go_wp2_with fail
      go_roundw
      case rel => exact ⟨i + 1, by go_num, by rw [HSU.out]; go_num, by omega, HOWN.out.below (below_alloc (Below.refl _ _) _), below_then HB.out HB.out.size (below_alloc (Below.refl _ _) _)⟩
      case measure => simp [intOf]; omega
    · have hltb : decide ((i : Int) < (rs.length : Int)) = false := decide_eq_false (by omega)
      have hltI : ¬ ((i : Int) < (rs.length : Int)) := by omega
      have he : rs.take i = rs := List.take_of_length_le (by omega)
      rw [he]
      go_wp2_with fail
      go_ret
      exact ⟨rfl, HB.out⟩
end Go.Proofs.Ytpnmbdhjmlidaaa.T
