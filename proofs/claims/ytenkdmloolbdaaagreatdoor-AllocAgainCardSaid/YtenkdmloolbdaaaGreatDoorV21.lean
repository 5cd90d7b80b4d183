/- (*Space).Give and Take. (*Space).Take. space.New, and messuagelaw17.spaces: it tells true. -/
import Derived.Test.YtenkdmloolbdaaaGreatDoorV20
section
namespace Go.Proofs.YtenkdmloolbdaaaGreatDoor.TS
open Go.RowKit Go.Proofs.YtenkdmloolbdaaaGreatDoorW.PrintWords Go.Proofs.YtenkdmloolbdaaaGreatDoorW.PrintLast Go.Proofs.YtenkdmloolbdaaaGreatDoorW.PrintMore
set_option linter.unusedVariables false
set_option linter.unusedSimpArgs false
/-- A run taken: where, and what is taken then. -/
def takeL (n : Int) : Int → List (Int × Int) → Int × List (Int × Int)
  | a, [] => (a, [(a, n)])
  | a, r :: rs => if r.1 - a < n then ((takeL n (r.1 + r.2) rs).1, r :: (takeL n (r.1 + r.2) rs).2) else (a, (a, n) :: r :: rs)
theorem takeL_good : ∀ {rs : List (Int × Int)} {lo : Int} (n : Int), From lo rs → 1 ≤ n → (takeL n lo rs).1 + n ≤ 4096 → From lo (takeL n lo rs).2
  | [], lo, n, _, hn, h => ⟨Int.le_refl _, hn, h, trivial⟩
  | r :: rs, lo, n, h, hn, hs => by
    rw [takeL] at hs ⊢
    split at hs
    · rename_i hlt
      rw [if_pos hlt]
      exact ⟨h.1, h.2.1, h.2.2.1, takeL_good n h.2.2.2 hn hs⟩
    · rename_i hlt
      rw [if_neg hlt]
      exact ⟨Int.le_refl _, hn, hs, by omega, h.2.1, h.2.2.1, h.2.2.2⟩
theorem Below.grown {w w' : World} {row : Option Nat} (h : w.grownBy w' row) (g : Nat) : Chg w w' g row := ⟨h.os, h.tape, h.output, h.size, fun k hk _ hr => h.block k hk hr⟩
theorem Chg.set {w w' : World} {g : Nat} {row : Option Nat} (h : Chg w w' g row) (j : Nat) (u : Value) : Chg w (w'.setCell ⟨g, j, none⟩ u) g row :=
  ⟨h.os, h.tape, h.output, by simpa [World.setCell] using h.size, fun k hk hg hr => (Below.heap_setCell w' ⟨g, j, none⟩ u k hg).trans (h.block k hk hg hr)⟩
theorem Own2.setOther {w : World} {base : Nat} {A : Option Addr} {c : Nat} {rs : List (Int × Int)} (h : Own2 w base A c rs) {g : Nat} (hne : Row0 A ≠ some g) (j : Nat) (u : Value) : Own2 (w.setCell ⟨g, j, none⟩ u) base A c rs := by
  refine ⟨h.1, ?_⟩
  rcases h.2 with hn | ⟨b, cap, cur, hs, hbb, hg, rest⟩
  · exact .inl hn
  · injection hs with ha _ hc
    subst ha; subst hc
    refine .inr ⟨b, c, cur, rfl, hbb, ?_, rest⟩
    rw [Below.heap_setCell w ⟨g, j, none⟩ u b (fun e => hne (by have e' : b = g := e; rw [← e']; rfl))]
    exact hg
theorem heap_set0 {w : World} {g : Nat} {v u : Value} {t : TypeId} (h : w.heap[g]? = some (.cells #[v] t (0, 0))) : (w.setCell ⟨g, 0, none⟩ u).heap[g]? = some (.cells #[u] t (0, 0)) := by
  have hl := (Array.getElem?_eq_some_iff.1 h).1
  have he := (Array.getElem?_eq_some_iff.1 h).2
  simp only [World.setCell, Array.getElem?_modify, if_pos rfl, h]
  rfl
end Go.Proofs.YtenkdmloolbdaaaGreatDoor.TS
end
section
namespace Go.Proofs.YtenkdmloolbdaaaGreatDoor.TS
open Go.RowKit Go.Proofs.YtenkdmloolbdaaaGreatDoorW.PrintWords Go.Proofs.YtenkdmloolbdaaaGreatDoorW.PrintLast Go.Proofs.YtenkdmloolbdaaaGreatDoorW.PrintMore
set_option linter.unusedVariables false
set_option linter.unusedSimpArgs false
/-- What Take comes to. -/
def takeR (n : Int) (rs : List (Int × Int)) : Int × Int × List (Int × Int) :=
  if n < 1 ∨ 4095 < n then (0, 1, rs) else if 4096 < (takeL n 1 rs).1 + n then (0, 14, rs) else ((takeL n 1 rs).1, 0, (takeL n 1 rs).2)
def Taken (w : World) (base g : Nat) (A : Option Addr) (rs : List (Int × Int)) (n : Int) (e : Ending) (w' : World) : Prop :=
  ∃ A' c, e = .returned (.tuple #[.int .i64 (takeR n rs).1, .int .i64 (takeR n rs).2.1]) ∧ Sp w' base g A' c (takeR n rs).2.2 ∧ Chg w w' g (Row0 A) ∧ (Row0 A' = Row0 A ∨ ∃ b, Row0 A' = some b ∧ w.heap.size ≤ b)
/-- The place where a walk along the runs stands: k runs passed, a the page behind them. -/
def At (n : Int) (rs : List (Int × Int)) (k : Nat) (a : Int) : Prop :=
  k ≤ rs.length ∧ 1 ≤ a ∧ a ≤ 4096 ∧ From a (rs.drop k) ∧ takeL n 1 rs = ((takeL n a (rs.drop k)).1, rs.take k ++ (takeL n a (rs.drop k)).2)
theorem At.next {n : Int} {rs : List (Int × Int)} {k : Nat} {a : Int} (h : At n rs k a) (hk : k < rs.length) (hlt : rs[k].1 - a < n) : At n rs (k + 1) (rs[k].1 + rs[k].2) := by
  obtain ⟨h1, h2, h3, h4, h5⟩ := h
  have e : rs.drop k = rs[k] :: rs.drop (k + 1) := List.drop_eq_getElem_cons hk
  rw [e] at h4 h5
  rw [takeL, if_pos hlt] at h5
  refine ⟨hk, by have := h4.1; have := h4.2.1; omega, h4.2.2.1, h4.2.2.2, ?_⟩
  have et : rs.take (k + 1) = rs.take k ++ [rs[k]] := by rw [List.take_add_one, List.getElem?_eq_getElem hk]; rfl
  rw [h5, et]
  simp only [List.append_assoc, List.singleton_append]
theorem At.stop {n : Int} {rs : List (Int × Int)} {k : Nat} {a : Int} (h : At n rs k a) (hs : k = rs.length ∨ ∃ hk : k < rs.length, ¬ rs[k].1 - a < n) : takeL n 1 rs = (a, rs.take k ++ [(a, n)] ++ rs.drop k) := by
  obtain ⟨h1, h2, h3, h4, h5⟩ := h
  rcases hs with hs | ⟨hk, hlt⟩
  · have e : rs.drop k = [] := List.drop_of_length_le (by omega)
    rw [e] at h5 ⊢
    rw [h5, takeL]; simp
  · have e : rs.drop k = rs[k] :: rs.drop (k + 1) := List.drop_eq_getElem_cons hk
    rw [e] at h5 ⊢
    rw [h5, takeL, if_neg hlt]; simp
theorem insert_sp (base g : Nat) (A : Option Addr) (c : Nat) (rs : List (Int × Int)) (k : Nat) (a n : Int) (w : World) (h : Sp w base g A c rs) (hk : k ≤ rs.length) (l : List (Int × Int)) (hl : rs.take k ++ [(a, n)] ++ rs.drop k = l) :
    Calls Tryz.prog 172 #[.slice A rs.length c, .int .i64 k, .slice (some ⟨w.heap.size, 0, none⟩) 1 1] (w.alloc (.cells #[.int .i64 a, .int .i64 n] 246)) fun e w' => ∃ A' c', e = .returned (.slice A' l.length c') ∧ Own2 w' base A' c' l ∧ Chg w w' g (Row0 A) ∧ (Row0 A' = Row0 A ∨ ∃ b, Row0 A' = some b ∧ w.heap.size ≤ b) ∧ w'.heap[g]? = some (.cells #[.slice A rs.length c] 213 (0, 0)) := by
  subst hl
  have hlen := h.len
  have hb : base ≤ w.heap.size := Nat.le_of_lt (Nat.lt_of_le_of_lt h.lo (Array.getElem?_eq_some_iff.1 h.cell).1)
  have hal : Below w.heap.size w (w.alloc (.cells #[.int .i64 a, .int .i64 n] 246)) := below_alloc (Below.refl _ _) _
  have h1 := h.below hal
  have hnew : (w.alloc (.cells #[.int .i64 a, .int .i64 n] 246)).heap[w.heap.size]? = some (.cells #[.int .i64 a, .int .i64 n] 246 (0, 0)) := heap_alloc_new w _
  have hgl := (Array.getElem?_eq_some_iff.1 h.cell).1
  refine (insert_own A c rs.length k base (flat2 rs) w.heap.size (.int .i64 a) (.int .i64 n) _ h1.row (by have := hal.size; omega) (flat2_one rs) hk (fun e => ?_) hnew rfl rfl (by omega)).mono ?_
  · have := (h.row.rowlt _ e.symm).2; omega
  · rintro e w' ⟨v', rfl, ho, hgr, hat⟩
    have hll : (rs.take k ++ [(a, n)] ++ rs.drop k).length = rs.length + 1 := by
      rw [List.length_append, List.length_append, List.length_take, List.length_drop, List.length_singleton]; omega
    have hfl : flat2 (rs.take k ++ [(a, n)] ++ rs.drop k) = (flat2 rs).take (k * 2) ++ [.int .i64 a, .int .i64 n] ++ (flat2 rs).drop (k * 2) := by
      rw [flat2_append, flat2_append, flat2_take rs k hk, flat2_drop rs k hk]; rfl
    rw [← hll, ← hfl] at ho
    obtain ⟨A', c', rfl⟩ : ∃ A' c', v' = .slice A' (rs.take k ++ [(a, n)] ++ rs.drop k).length c' := by
      rcases ho.2 with ⟨h0, hl⟩ | ⟨b, cap, cur, hv, _⟩
      · omega
      · exact ⟨_, _, hv⟩
    rw [own_slice] at hat
    refine ⟨A', c', rfl, ho, Chg.before hal (Below.grown hgr g), ?_, ?_⟩
    · rcases hat with h2 | ⟨b, h2, h3⟩
      · exact .inl h2
      · exact .inr ⟨b, h2, by have := hal.size; omega⟩
    · exact (hgr.block g (by have := hal.size; omega) (fun e => h.ne e.symm)).trans h1.cell
def RelT (w : World) (base g : Nat) (A : Option Addr) (c : Nat) (rs : List (Int × Int)) (n : Int) (v6 v7 : Value) (wr : World) : Prop :=
  ∃ (k : Nat) (a : Int), v7 = .int .i64 k ∧ v6 = .int .i64 a ∧ At n rs k a ∧ Sp wr base g A c rs ∧ Below w.heap.size w wr
set_option maxHeartbeats 4000000 in
set_option maxRecDepth 100000 in
theorem take_own (base g : Nat) (A : Option Addr) (c : Nat) (rs : List (Int × Int)) (n : Int) (w : World) (h : Sp w base g A c rs) (hn1 : 1 ≤ n) (hn2 : n ≤ 4095) :
    Calls Tryz.prog 120 #[.pointer (some ⟨g, 0, none⟩), .int .i64 n] w fun e w' => Taken w base g A rs n e w' := by
  have hlen := h.len
  have HS := Aside0.mk h
  clear h
  have d1 : decide (n < 1) = false := decide_eq_false (by omega)
  have d1' : ¬ (n < 1) := by omega
  have d2 : decide (4095 < n) = false := decide_eq_false (by omega)
  have d2' : ¬ (4095 < n) := by omega
  go_enter Tryz.func120, Tryz.ntmps120
  go_wp2_with fail
  go_loopw [6, 7] (fun v6 v7 wr => RelT w base g A c rs n v6 v7 wr) (fun _ v7 _ => rs.length - (intOf v7).toNat)
  case atStart => exact ⟨0, 1, rfl, rfl, ⟨Nat.zero_le _, Int.le_refl _, by omega, HS.out.good, by simp⟩, HS.out, Below.refl _ _⟩
  case round =>
    clear d1 d1' d2 d2'
    obtain ⟨k, a, rfl, rfl, hat, hs, hB⟩ := hrel
    have hk := hat.1
    have ha1 := hat.2.1
    have ha2 := hat.2.2.1
    have HAT := Aside0.mk hat
    have HS1 := Aside0.mk hs
    have HB := Aside0.mk hB
    have c0 := hs.at0
    clear hat hs hB
    by_cases hlt : k < rs.length
    · have hltb : decide ((k : Int) < (rs.length : Int)) = true := decide_eq_true (by omega)
      have hltI : (k : Int) < (rs.length : Int) := by omega
      have hk0 : (0 : Int) ≤ (k : Int) := by omega
      obtain ⟨gr, rfl, e0, e1⟩ := HS1.out.row.at_ k hlt
      have hbh := HS1.out.behind k hlt
      obtain ⟨⟨r1, r2⟩, hr⟩ : ∃ r, rs[k] = r := ⟨_, rfl⟩
      rw [hr] at e0 e1 hbh
      simp only at e0 e1 hbh
      have HRR := Aside0.mk hr
      clear hr
      have hq1 := Aside0.mk (show wrap64 (r1 - a) = r1 - a from IntWalk.wrap64_in _ ⟨by omega, by omega⟩)
      by_cases hgo : r1 - a < n
      · have hgob : decide (r1 - a < n) = true := decide_eq_true hgo
        have hw := hq1.out
        have HNX := Aside0.mk (show At n rs (k + 1) (r1 + r2) from by have := HAT.out.next hlt (by rw [HRR.out]; exact hgo); rw [HRR.out] at this; exact this)
        go_upto_region 6 with (fail)
        clear hw
        refine start_ (n := 18) (S := fun w' => w'.cell? ⟨g, 0, none⟩ = some (.slice (some ⟨gr, 0, none⟩) rs.length c) ∧ w'.cell? ⟨gr, k * 2, none⟩ = some (.int .i64 r1) ∧ w'.cell? ⟨gr, k * 2 + 1, none⟩ = some (.int .i64 r2)) (ds := []) #[false, false, false, false, false, false, false, false, false, false, false, false, false, false, false, false, false, false] (by kernel_rfl) rfl rfl ⟨c0, e0, e1⟩ (fun hHeld => ?_)
        refine pure_ (i := 0) (N := some 41) (v := ?_) (a' := ?_) #[true, false, false, false, false, false, false, false, false, false, false, false, false, false, false, false, false, false] rfl rfl (by kernel_rfl) (fun _ _ _ h => h) (Or.inl ⟨by rfl, ?_⟩) ?_ ?_
        rotate_left
        · intro w'
          go_simp
          with_reducible rfl
        rotate_left
        · simp only [Act.put, List.setIfInBounds_toArray, List.set_cons_zero, List.set_cons_succ, i64_w, i32_w]
          rfl
        refine pure_ (i := 1) (N := some 42) (v := ?_) (a' := ?_) #[true, true, false, false, false, false, false, false, false, false, false, false, false, false, false, false, false, false] rfl rfl (by kernel_rfl) (fun _ _ _ h => h) (Or.inl ⟨by rfl, ?_⟩) ?_ ?_
        rotate_left
        · intro w'
          go_simp
          with_reducible rfl
        rotate_left
        · simp only [Act.put, List.setIfInBounds_toArray, List.set_cons_zero, List.set_cons_succ, i64_w, i32_w]
          rfl
        refine pure_ (i := 2) (N := some 43) (v := ?_) (a' := ?_) #[true, true, true, false, false, false, false, false, false, false, false, false, false, false, false, false, false, false] rfl rfl (by kernel_rfl) (fun _ _ _ h => h) (Or.inl ⟨by rfl, ?_⟩) ?_ ?_
        rotate_left
        · intro w'
          go_simp
          with_reducible rfl
        rotate_left
        · simp only [Act.put, List.setIfInBounds_toArray, List.set_cons_zero, List.set_cons_succ, i64_w, i32_w]
          rfl
        refine pure_ (i := 4) (N := some 45) (v := ?_) (a' := ?_) #[true, true, true, false, true, false, false, false, false, false, false, false, false, false, false, false, false, false] rfl rfl (by kernel_rfl) (fun _ _ _ h => h) (Or.inl ⟨by rfl, ?_⟩) ?_ ?_
        rotate_left
        · intro w'
          go_simp
          with_reducible rfl
        rotate_left
        · simp only [Act.put, List.setIfInBounds_toArray, List.set_cons_zero, List.set_cons_succ, i64_w, i32_w]
          rfl
        refine pure_ (i := 8) (N := some 49) (v := ?_) (a' := ?_) #[true, true, true, false, true, false, false, false, true, false, false, false, false, false, false, false, false, false] rfl rfl (by kernel_rfl) (fun _ _ _ h => h) (Or.inl ⟨by rfl, ?_⟩) ?_ ?_
        rotate_left
        · intro w'
          go_simp
          with_reducible rfl
        rotate_left
        · simp only [Act.put, List.setIfInBounds_toArray, List.set_cons_zero, List.set_cons_succ, i64_w, i32_w]
          rfl
        refine pure_ (i := 9) (N := some 50) (v := ?_) (a' := ?_) #[true, true, true, false, true, false, false, false, true, true, false, false, false, false, false, false, false, false] rfl rfl (by kernel_rfl) (fun _ _ _ h => h) (Or.inl ⟨by rfl, ?_⟩) ?_ ?_
        rotate_left
        · intro w'
          go_simp
          with_reducible rfl
        rotate_left
        · simp only [Act.put, List.setIfInBounds_toArray, List.set_cons_zero, List.set_cons_succ, i64_w, i32_w]
          rfl
        refine pure_ (i := 10) (N := some 51) (v := ?_) (a' := ?_) #[true, true, true, false, true, false, false, false, true, true, true, false, false, false, false, false, false, false] rfl rfl (by kernel_rfl) (fun _ _ _ h => h) (Or.inl ⟨by rfl, ?_⟩) ?_ ?_
        rotate_left
        · intro w'
          go_simp
          with_reducible rfl
        rotate_left
        · simp only [Act.put, List.setIfInBounds_toArray, List.set_cons_zero, List.set_cons_succ, i64_w, i32_w]
          rfl
        refine pure_ (i := 12) (N := some 53) (v := ?_) (a' := ?_) #[true, true, true, false, true, false, false, false, true, true, true, false, true, false, false, false, false, false] rfl rfl (by kernel_rfl) (fun _ _ _ h => h) (Or.inl ⟨by rfl, ?_⟩) ?_ ?_
        rotate_left
        · intro w'
          go_simp
          with_reducible rfl
        rotate_left
        · simp only [Act.put, List.setIfInBounds_toArray, List.set_cons_zero, List.set_cons_succ, i64_w, i32_w]
          rfl
        refine take_ (i := 3) (N := some 44) (v := ?_) (a' := ?_) #[true, true, true, true, true, false, false, false, true, true, true, false, true, false, false, false, false, false] rfl rfl (by kernel_rfl) (fun _ _ _ h => h) (Or.inl ⟨by rfl, ?_⟩) hHeld ?_ ?_
        rotate_left
        · rintro w' ⟨s0, s1, s2⟩
          go_simp
          with_reducible rfl
        rotate_left
        · simp only [Act.put, List.setIfInBounds_toArray, List.set_cons_zero, List.set_cons_succ, i64_w, i32_w]
          rfl
        refine pure_ (i := 5) (N := some 46) (v := ?_) (a' := ?_) #[true, true, true, true, true, true, false, false, true, true, true, false, true, false, false, false, false, false] rfl rfl (by kernel_rfl) (fun _ _ _ h => h) (Or.inl ⟨by rfl, ?_⟩) ?_ ?_
        rotate_left
        · intro w'
          go_simp
          with_reducible rfl
        rotate_left
        · simp only [Act.put, List.setIfInBounds_toArray, List.set_cons_zero, List.set_cons_succ, i64_w, i32_w]
          rfl
        refine pure_ (i := 6) (N := some 47) (v := ?_) (a' := ?_) #[true, true, true, true, true, true, true, false, true, true, true, false, true, false, false, false, false, false] rfl rfl (by kernel_rfl) (fun _ _ _ h => h) (Or.inl ⟨by rfl, ?_⟩) ?_ ?_
        rotate_left
        · intro w'
          go_simp
          with_reducible rfl
        rotate_left
        · simp only [Act.put, List.setIfInBounds_toArray, List.set_cons_zero, List.set_cons_succ, i64_w, i32_w]
          rfl
        refine take_ (i := 7) (N := some 48) (v := ?_) (a' := ?_) #[true, true, true, true, true, true, true, true, true, true, true, false, true, false, false, false, false, false] rfl rfl (by kernel_rfl) (fun _ _ _ h => h) (Or.inl ⟨by rfl, ?_⟩) hHeld ?_ ?_
        rotate_left
        · rintro w' ⟨s0, s1, s2⟩
          go_simp
          with_reducible rfl
        rotate_left
        · simp only [Act.put, List.setIfInBounds_toArray, List.set_cons_zero, List.set_cons_succ, i64_w, i32_w]
          rfl
        refine take_ (i := 11) (N := some 52) (v := ?_) (a' := ?_) #[true, true, true, true, true, true, true, true, true, true, true, true, true, false, false, false, false, false] rfl rfl (by kernel_rfl) (fun _ _ _ h => h) (Or.inl ⟨by rfl, ?_⟩) hHeld ?_ ?_
        rotate_left
        · rintro w' ⟨s0, s1, s2⟩
          go_simp
          with_reducible rfl
        rotate_left
        · simp only [Act.put, List.setIfInBounds_toArray, List.set_cons_zero, List.set_cons_succ, i64_w, i32_w]
          rfl
        refine pure_ (i := 13) (N := some 54) (v := ?_) (a' := ?_) #[true, true, true, true, true, true, true, true, true, true, true, true, true, true, false, false, false, false] rfl rfl (by kernel_rfl) (fun _ _ _ h => h) (Or.inl ⟨by rfl, ?_⟩) ?_ ?_
        rotate_left
        · intro w'
          go_simp
          with_reducible rfl
        rotate_left
        · simp only [Act.put, List.setIfInBounds_toArray, List.set_cons_zero, List.set_cons_succ, i64_w, i32_w]
          rfl
        refine pure_ (i := 14) (N := some 55) (v := ?_) (a' := ?_) #[true, true, true, true, true, true, true, true, true, true, true, true, true, true, true, false, false, false] rfl rfl (by kernel_rfl) (fun _ _ _ h => h) (Or.inl ⟨by rfl, ?_⟩) ?_ ?_
        rotate_left
        · intro w'
          go_simp
          with_reducible rfl
        rotate_left
        · simp only [Act.put, List.setIfInBounds_toArray, List.set_cons_zero, List.set_cons_succ, i64_w, i32_w]
          rfl
        refine take_ (i := 15) (N := some 56) (v := ?_) (a' := ?_) #[true, true, true, true, true, true, true, true, true, true, true, true, true, true, true, true, false, false] rfl rfl (by kernel_rfl) (fun _ _ _ h => h) (Or.inl ⟨by rfl, ?_⟩) hHeld ?_ ?_
        rotate_left
        · rintro w' ⟨s0, s1, s2⟩
          go_simp
          with_reducible rfl
        rotate_left
        · simp only [Act.put, List.setIfInBounds_toArray, List.set_cons_zero, List.set_cons_succ, i64_w, i32_w]
          rfl
        refine pure_ (i := 16) (N := some 57) (v := ?_) (a' := ?_) #[true, true, true, true, true, true, true, true, true, true, true, true, true, true, true, true, true, false] rfl rfl (by kernel_rfl) (fun _ _ _ h => h) (Or.inl ⟨by rfl, ?_⟩) ?_ ?_
        rotate_left
        · intro w'
          go_simp
          with_reducible rfl
        rotate_left
        · simp only [Act.put, List.setIfInBounds_toArray, List.set_cons_zero, List.set_cons_succ, i64_w, i32_w]
          rfl
        refine pure_ (i := 17) (N := some 6) (v := ?_) (a' := ?_) #[true, true, true, true, true, true, true, true, true, true, true, true, true, true, true, true, true, true] rfl rfl (by kernel_rfl) (fun _ _ _ h => h) (Or.inl ⟨by rfl, ?_⟩) ?_ ?_
        rotate_left
        · intro w'
          go_simp
          with_reducible rfl
        rotate_left
        · simp only [Act.put, List.setIfInBounds_toArray, List.set_cons_zero, List.set_cons_succ, i64_w, i32_w]
          rfl
        refine done_ (by kernel_rfl) ?_
        go_wp2_with fail
        go_roundw
        case rel => exact ⟨k + 1, r1 + r2, by go_num, by rw [IntWalk.wrap64_in _ ⟨by omega, by omega⟩], HNX.out, HS1.out.below (below_drew (Below.refl _ _)), below_drew HB.out⟩
        case measure => simp [intOf]; omega
      · have hgob : decide (r1 - a < n) = false := decide_eq_false hgo
        have HST := Aside0.mk (HAT.out.stop (.inr ⟨hlt, by rw [HRR.out]; exact hgo⟩))
        by_cases hfull : 4096 < a + n
        · have hfb : decide (4096 < a + n) = true := decide_eq_true hfull
          have hr : takeR n rs = (0, 14, rs) := by unfold takeR; rw [if_neg (by omega), HST.out, if_pos hfull]
          have HR := Aside0.mk hr
          clear hr hfull
          go_wp2_with fail
          go_ret2
          exact ⟨_, c, by rw [HR.out]; rfl, by rw [HR.out]; exact HS1.out, Chg.of_below HB.out _ _, .inl rfl⟩
        · have hfb : decide (4096 < a + n) = false := decide_eq_false hfull
          obtain ⟨l, hl⟩ : ∃ l, rs.take k ++ [(a, n)] ++ rs.drop k = l := ⟨_, rfl⟩
          have hr : takeR n rs = (a, 0, l) := by unfold takeR; rw [if_neg (by omega), HST.out, if_neg hfull, ← hl]
          have hgood : From 1 l := by
            have := takeL_good n HS1.out.good hn1 (by rw [HST.out]; omega)
            rw [HST.out, hl] at this; exact this
          have HL := Aside0.mk hl
          have HGO := Aside0.mk hgood
          have HR := Aside0.mk hr
          clear hr hgood hfull hl
          go_wp2_with (go_at_call 172; (with_reducible refine (insert_sp base g _ c rs k a n _ HS1.out hk l HL.out).mono ?_); rintro e_ w2 ⟨A2, c2, rfl, ho, hch, hrow, hg2⟩; have HO := Aside0.mk ho; have HCH := Aside0.mk hch; have HROW2 := Aside0.mk hrow; have HNE2 := Aside0.mk (show Row0 A2 ≠ some g from fun e => by rcases hrow with h | ⟨b, h, h2⟩; (exact HS1.out.ne (h ▸ e)); (rw [h] at e; injection e with e; have := (Array.getElem?_eq_some_iff.1 HS1.out.cell).1; omega)); clear ho hch hrow; have c2_ : w2.cell? ⟨g, 0, none⟩ = some (.slice (some ⟨gr, 0, none⟩) rs.length c) := (by simp only [World.cell?, hg2]; rfl); have hf2 : w2.frozen? ⟨g, 0, none⟩ = false := (by simp [World.frozen?, hg2]); have HG2 := Aside0.mk hg2; clear hg2)
          go_ret2
          exact ⟨A2, c2, by rw [HR.out]; rfl, by rw [HR.out]; exact ⟨HS1.out.lo, heap_set0 HG2.out, HO.out.setOther HNE2.out 0 _, HNE2.out, HGO.out⟩, (Chg.before HB.out HCH.out).set 0 _, HROW2.out.imp id (fun ⟨b, h1, h2⟩ => ⟨b, h1, by have := HB.out.size; omega⟩)⟩
    · have hltb : decide ((k : Int) < (rs.length : Int)) = false := decide_eq_false (by omega)
      have hltI : ¬ ((k : Int) < (rs.length : Int)) := by omega
      have HST := Aside0.mk (HAT.out.stop (.inl (by omega)))
      by_cases hfull : 4096 < a + n
      · have hfb : decide (4096 < a + n) = true := decide_eq_true hfull
        have hr : takeR n rs = (0, 14, rs) := by unfold takeR; rw [if_neg (by omega), HST.out, if_pos hfull]
        have HR := Aside0.mk hr
        clear hr hfull
        go_wp2_with fail
        go_ret2
        exact ⟨_, c, by rw [HR.out]; rfl, by rw [HR.out]; exact HS1.out, Chg.of_below HB.out _ _, .inl rfl⟩
      · have hfb : decide (4096 < a + n) = false := decide_eq_false hfull
        obtain ⟨l, hl⟩ : ∃ l, rs.take k ++ [(a, n)] ++ rs.drop k = l := ⟨_, rfl⟩
        have hr : takeR n rs = (a, 0, l) := by unfold takeR; rw [if_neg (by omega), HST.out, if_neg hfull, ← hl]
        have hgood : From 1 l := by
          have := takeL_good n HS1.out.good hn1 (by rw [HST.out]; omega)
          rw [HST.out, hl] at this; exact this
        have HL := Aside0.mk hl
        have HGO := Aside0.mk hgood
        have HR := Aside0.mk hr
        clear hr hgood hfull hl
        go_wp2_with (go_at_call 172; (with_reducible refine (insert_sp base g _ c rs k a n _ HS1.out hk l HL.out).mono ?_); rintro e_ w2 ⟨A2, c2, rfl, ho, hch, hrow, hg2⟩; have HO := Aside0.mk ho; have HCH := Aside0.mk hch; have HROW2 := Aside0.mk hrow; have HNE2 := Aside0.mk (show Row0 A2 ≠ some g from fun e => by rcases hrow with h | ⟨b, h, h2⟩; (exact HS1.out.ne (h ▸ e)); (rw [h] at e; injection e with e; have := (Array.getElem?_eq_some_iff.1 HS1.out.cell).1; omega)); clear ho hch hrow; have c2_ : w2.cell? ⟨g, 0, none⟩ = some (.slice A rs.length c) := (by simp only [World.cell?, hg2]; rfl); have hf2 : w2.frozen? ⟨g, 0, none⟩ = false := (by simp [World.frozen?, hg2]); have HG2 := Aside0.mk hg2; clear hg2)
        go_ret2
        exact ⟨A2, c2, by rw [HR.out]; rfl, by rw [HR.out]; exact ⟨HS1.out.lo, heap_set0 HG2.out, HO.out.setOther HNE2.out 0 _, HNE2.out, HGO.out⟩, (Chg.before HB.out HCH.out).set 0 _, HROW2.out.imp id (fun ⟨b, h1, h2⟩ => ⟨b, h1, by have := HB.out.size; omega⟩)⟩
end Go.Proofs.YtenkdmloolbdaaaGreatDoor.TS
end
section
namespace Go.Proofs.YtenkdmloolbdaaaGreatDoor.TS
open Go.RowKit Go.Proofs.YtenkdmloolbdaaaGreatDoorW.PrintWords Go.Proofs.YtenkdmloolbdaaaGreatDoorW.PrintLast Go.Proofs.YtenkdmloolbdaaaGreatDoorW.PrintMore
set_option linter.unusedVariables false
set_option linter.unusedSimpArgs false
theorem Sp.new (w : World) (base : Nat) (hb : base ≤ w.heap.size) : Sp (w.alloc (.cells #[.slice none 0 0] 213)) base w.heap.size none 0 [] :=
  ⟨hb, heap_alloc_new w _, World.ownsRow_nil _ _ _ _, by simp [Row0], trivial⟩
theorem new_own (w : World) :
    Calls Tryz.prog 84 #[] w fun e w' => e = .returned (.pointer (some ⟨w.heap.size, 0, none⟩)) ∧ w' = w.alloc (.cells #[.slice none 0 0] 213) := by
  go_enter Tryz.func84, Tryz.ntmps84
  go_wp2
  go_ret
  exact ⟨rfl, rfl⟩
end Go.Proofs.YtenkdmloolbdaaaGreatDoor.TS
end
