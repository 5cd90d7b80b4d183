/- The heap: a buddy for each node. -/
import Derived.Test.YtenkdmloolbdaaaGreatDoorV10
import Derived.Test.YtenkdmloolbdaaaGreatDoorV08
section
namespace Go.Proofs.YtenkdmloolbdaaaGreatDoor.T
open Go.RowKit Go.Maps Go.WideShapes Go.Proofs.YtenkdmloolbdaaaGreatDoorW.PrintWords Go.Proofs.YtenkdmloolbdaaaGreatDoorW.PrintLast Go.Proofs.YtenkdmloolbdaaaGreatDoorW.PrintMore
set_option linter.unusedVariables false
set_option linter.unusedSimpArgs false
theorem w64 (x : Int) (h : 0 ≤ x ∧ x ≤ 1000000) : wrap64 x = x := IntWalk.wrap64_in _ ⟨by omega, by omega⟩
/-- Pointers to blocks, as elements of a row. -/
def pk : Kd Nat := Kd.scalar (fun b : Nat => Value.pointer (some ⟨b, 0, none⟩)) (fun _ => rfl)
theorem pk_at {w : World} {A : Option Addr} {n : Nat} {xs : List Nat} (h : pk.C w A n xs) (i : Nat) (hi : i < n) (b : Nat) (hb : xs[i]? = some b) : ∃ ad, A = some ad ∧ w.cell? (ad.add i) = some (.pointer (some ⟨b, 0, none⟩)) := by
  obtain ⟨ad, c, e, hl, hK, hc⟩ := Kd.C_get h 0 (i : Int) (by omega) (by omega)
  refine ⟨ad, e, ?_⟩
  have hK' : c = [Value.pointer (some ⟨xs.getD (i : Int).toNat 0, 0, none⟩)] := hK
  rw [Int.toNat_natCast, List.getD_eq_getElem?_getD, hb] at hK'
  have := hc 0 (.pointer (some ⟨b, 0, none⟩)) (by rw [hK']; rfl)
  simpa [show pk.sz = 1 from rfl] using this
/-- A node's buddy. -/
structure Bud where
  c : Nat
  fr : Nat → List Nat
  tk : Int → Option Int
/-- A heap in memory. -/
structure HeapK (κ : Kol) (i : Nat) (w : World) (b each : Nat) (mn lo hi : Int) (bs : List Bud) : Prop where
  row : ∃ v ps, BlkK κ i w b #[.int .i64 each, .int .i64 mn, .int .i64 lo, .int .i64 hi, v] 147 ∧ KR pk 143 κ (i + 1) w v ps ∧ ps.length = bs.length ∧ ∀ j x, bs[j]? = some x → ∃ p, ps[j]? = some p ∧ BuddyK κ (i + 2 + 13 * j) w p each x.c x.fr x.tk
theorem HeapK.upd {I : Nat → Prop} {κ κ1 : Kol} {i b each : Nat} {mn lo hi : Int} {w w1 : World} {bs : List Bud} (h : HeapK κ i w b each mn lo hi bs) (k : Upd I κ w κ1 w1) (hi' : ∀ c, c < 2 + 13 * bs.length → ¬ I (i + c)) : HeapK κ1 i w1 b each mn lo hi bs := by
  obtain ⟨v, ps, h1, h2, h3, h4⟩ := h
  refine ⟨v, ps, h1.upd k (hi' 0 (by omega)), h2.upd k (hi' 1 (by omega)), h3, fun j x hx => ?_⟩
  obtain ⟨p, hp, hb⟩ := h4 j x hx
  have hj := (List.getElem?_eq_some_iff.1 hx).1
  exact ⟨p, hp, hb.upd k (fun c hc => by have := hi' (2 + 13 * j + c) (by omega); rwa [show i + (2 + 13 * j + c) = i + 2 + 13 * j + c by omega] at this)⟩
set_option maxHeartbeats 1000000 in
set_option maxRecDepth 100000 in
theorem heap_at (κ : Kol) (i b each : Nat) (mn lo hi : Int) (v : Value) (ps : List Nat) (j p : Nat) (hp : ps[j]? = some p) (hl : ps.length ≤ 1000) (w : World) (h1 : BlkK κ i w b #[.int .i64 each, .int .i64 mn, .int .i64 lo, .int .i64 hi, v] 147) (h2 : KR pk 143 κ (i + 1) w v ps) :
    Calls Tryz.prog 74 #[.pointer (some ⟨b, 0, none⟩), .int .i64 j] w fun e w' => e = .returned (.pointer (some ⟨p, 0, none⟩)) ∧ w' = w := by
  have hj := (List.getElem?_eq_some_iff.1 hp).1
  obtain ⟨A, c, rfl, hle, hC⟩ := h2.reads
  obtain ⟨ad, rfl, q0⟩ := pk_at hC j (by omega) p hp
  have s4 := h1.blk.at 4 _ rfl
  obtain ⟨m, hm⟩ : ∃ m, ps.length = m := ⟨_, rfl⟩
  have s5 : w.cell? ⟨b, 4, none⟩ = some (.slice (some ad) m c) := by rw [← hm]; exact s4
  have j0 : (0 : Int) ≤ (j : Int) := by omega
  have jI : (j : Int) < (m : Int) := by omega
  have d0 : decide ((j : Int) < 0) = false := decide_eq_false (by omega)
  have d1 : decide (m ≤ j) = false := decide_eq_false (by omega)
  clear h1 h2 hC s4 hle hm hp
  go_enter Tryz.func74, Tryz.ntmps74
  go_wp2_with fail
  go_ret
  exact ⟨rfl, rfl⟩
theorem heap_node (κ : Kol) (i b each : Nat) (mn lo hi : Int) (bs : List Bud) (j : Nat) (x : Bud) (hx : bs[j]? = some x) (hl : bs.length ≤ 1000) (w : World) (h : HeapK κ i w b each mn lo hi bs) :
    Calls Tryz.prog 74 #[.pointer (some ⟨b, 0, none⟩), .int .i64 j] w fun e w' => ∃ p, e = .returned (.pointer (some ⟨p, 0, none⟩)) ∧ BuddyK κ (i + 2 + 13 * j) w p each x.c x.fr x.tk ∧ w' = w := by
  obtain ⟨v, ps, h1, h2, h3, h4⟩ := h
  obtain ⟨p, hp, hb⟩ := h4 j x hx
  exact (heap_at κ i b each mn lo hi v ps j p hp (by omega) w h1 h2).mono (by rintro e w' ⟨rfl, rfl⟩; exact ⟨p, rfl, hb, rfl⟩)
/-- The least order from one on of which there is a free run. -/
def aboveN (fr : Nat → List Nat) (o : Nat) : Option Nat := (List.range 11).find? fun k => decide (o ≤ k) && decide (fr k ≠ [])
theorem range_split : ∀ k : Nat, k < 11 → List.range 11 = List.range k ++ k :: List.range' (k + 1) (10 - k) := by decide
theorem above_n {fr : Nat → List Nat} {o : Nat} {r : Option Nat} (h : aboveOf fr o r) : r = aboveN fr o := by
  unfold aboveN
  symm
  cases r with
  | none =>
    rw [List.find?_eq_none]
    intro k hk
    rw [List.mem_range] at hk
    by_cases e : o ≤ k
    · simp [h k e hk]
    · simp [e]
  | some k =>
    obtain ⟨h1, h2, h3, h4⟩ := h
    rw [List.find?_eq_some_iff_append]
    refine ⟨by simp [h1, h3], List.range k, (List.range' (k + 1) (10 - k)), ?_, ?_⟩
    · exact range_split k h2
    · intro j hj
      rw [List.mem_range] at hj
      by_cases e : o ≤ j
      · simp [h4 j e hj]
      · simp [e]
/-- May a node give a run of an order? -/
def mayB (mn : Int) (x : Bud) (o : Nat) : Bool := (aboveN x.fr o).isSome && decide ((freeS x.fr 11 : Int) - ((2 ^ o : Nat) : Int) ≥ mn)
theorem below_of (κ : Kol) {w w1 : World} (h : RowKit.Below w.heap.size w w1) {i b each : Nat} {mn lo hi : Int} {bs : List Bud} (hb : HeapK κ i w b each mn lo hi bs) : HeapK κ i w1 b each mn lo hi bs := hb.upd (I := fun _ => False) (Upd.of_below κ h) (fun _ _ h => h)
theorem has_is (κ : Kol) (i b n c o : Nat) (fr : Nat → List Nat) (tk : Int → Option Int) (ho : o < 11) (w : World) (h : BuddyK κ i w b n c fr tk) :
    Calls Tryz.prog 76 #[.pointer (some ⟨b, 0, none⟩), .int .i64 o] w fun e w' => e = .returned (.bool (aboveN fr o).isSome) ∧ w' = w :=
  (has_own κ i b n c o fr tk ho w h).mono (by rintro e w' ⟨r, rfl, hr, rfl⟩; rw [above_n hr]; exact ⟨rfl, rfl⟩)
set_option maxHeartbeats 1000000 in
set_option maxRecDepth 100000 in
theorem heap_may (κ : Kol) (i b each : Nat) (mn lo hi : Int) (bs : List Bud) (j o : Nat) (ho : o < 11) (x : Bud) (hx : bs[j]? = some x) (hl : bs.length ≤ 1000) (hf : ∀ k, k < 11 → (x.fr k).length ≤ 1024) (hmn : -100000 ≤ mn) (w : World) (h : HeapK κ i w b each mn lo hi bs) :
    Calls Tryz.prog 31 #[.pointer (some ⟨b, 0, none⟩), .int .i64 j, .int .i64 o] w fun e w' => e = .returned (.bool (mayB mn x o)) ∧ RowKit.Below w.heap.size w w' := by
  have HN := Aside0.mk (heap_node κ i b each mn lo hi bs j x hx hl w h)
  obtain ⟨v, ps, h1, h2, h3, h4⟩ := h
  have HBX := Aside0.mk h1
  obtain ⟨r, hr⟩ : ∃ r, (aboveN x.fr o).isSome = r := ⟨_, rfl⟩
  have hfl := freeS_le hf 11 (Nat.le_refl _)
  have hp := pow_le11 o ho
  have es := shl_64 o ho
  have HHA := Aside0.mk (fun (W : World) (p : Nat) (hW : BuddyK κ (i + 2 + 13 * j) W p each x.c x.fr x.tk) => by have := has_is κ (i + 2 + 13 * j) p each x.c o x.fr x.tk ho W hW; rw [hr] at this; exact this)
  have HFR := Aside0.mk (fun (W : World) (p : Nat) (hW : BuddyK κ (i + 2 + 13 * j) W p each x.c x.fr x.tk) => free_bud κ (i + 2 + 13 * j) p each x.c x.fr x.tk hf W hW)
  obtain ⟨a, ha⟩ : ∃ a, freeS x.fr 11 = a := ⟨_, rfl⟩
  obtain ⟨q, hq⟩ : ∃ q, 2 ^ o = q := ⟨_, rfl⟩
  have HM := Aside0.mk (show mayB mn x o = (r && decide ((a : Int) - (q : Int) ≥ mn)) from by unfold mayB; rw [hr, ha, hq])
  rw [ha] at hfl HFR
  rw [hq] at hp es
  have ew : wrap64 ((a : Int) - (q : Int)) = (a : Int) - (q : Int) := IntWalk.wrap64_in _ ⟨by omega, by omega⟩
  clear h1 h2 h3 h4 hf hfl hp ha hq hr
  rw [HM.out]
  clear HM
  go_enter Tryz.func31, Tryz.ntmps31
  go_upto_region 2 with (go_at_call 74; (with_reducible refine HN.out.mono ?_); rintro e_ w1 ⟨p, rfl, q1, rfl⟩; have HB := Aside0.mk q1; clear q1)
  have s1 := HBX.out.blk.at 1 (.int .i64 mn) rfl
  cases r
  · refine start_ (n := 17) (S := fun w' => w'.cell? ⟨b, 1, none⟩ = some (.int .i64 mn)) (ds := []) #[false, false, false, false, false, false, false, false, false, false, false, false, false, false, false, false, false] (by kernel_rfl) rfl rfl (s1) (fun hHeld => ?_)
    have hd_ := below_drew (RowKit.Below.refl w1.heap.size w1)
    have HD := Aside0.mk hd_
    have n0_ := Aside0.mk (HB.out.upd (I := fun _ => False) (Upd.of_below κ hd_) (fun _ _ h => h))
    clear HB HBX hd_
    generalize w1.drew = wd at *
    refine pure_ (i := 0) (N := some 11) (v := ?_) (a' := ?_) #[true, false, false, false, false, false, false, false, false, false, false, false, false, false, false, false, false] rfl rfl (by kernel_rfl) (fun _ _ _ h => h) (Or.inl ⟨by rfl, ?_⟩) ?_ ?_
    rotate_left
    · intro w'
      go_simp
      with_reducible rfl
    rotate_left
    · simp only [Act.put, List.setIfInBounds_toArray, List.set_cons_zero, List.set_cons_succ, i64_w, i32_w]
      rfl
    refine pure_ (i := 1) (N := some 12) (v := ?_) (a' := ?_) #[true, true, false, false, false, false, false, false, false, false, false, false, false, false, false, false, false] rfl rfl (by kernel_rfl) (fun _ _ _ h => h) (Or.inl ⟨by rfl, ?_⟩) ?_ ?_
    rotate_left
    · intro w'
      go_simp
      with_reducible rfl
    rotate_left
    · simp only [Act.put, List.setIfInBounds_toArray, List.set_cons_zero, List.set_cons_succ, i64_w, i32_w]
      rfl
    refine one_ (i := 2) (N := some 13) #[true, true, true, false, false, false, false, false, false, false, false, false, false, false, false, false, false] rfl rfl (by kernel_rfl) (by decide) (fun K hK => ?_)
    refine goes_ Tryz.func76 (by kernel_rfl) rfl #[.pointer (some ⟨p, 0, none⟩), .int .i64 o] (by rfl) rfl rfl (by simp only [List.map_toArray, List.map_cons, List.map_nil]; rfl) ?_
    with_reducible refine (HHA.out _ p n0_.out).mono ?_
    rintro e_ w3 ⟨rfl, rfl⟩
    refine ⟨_, rfl, ?_⟩
    refine hK.out _ _ (hHeld) (fun hHeld => ?_)
    clear hK K
    refine norm_ (a' := ?_) ?_ ?_
    rotate_left
    · show Act.put _ (some 13) _ = _
      simp only [Act.put, List.setIfInBounds_toArray, List.set_cons_zero, List.set_cons_succ, i64_w, i32_w]
      rfl
    refine pure_ (i := 3) (N := some 14) (v := ?_) (a' := ?_) #[true, true, true, true, false, false, false, false, false, false, false, false, false, false, false, false, false] rfl rfl (by kernel_rfl) (fun _ _ _ h => h) (Or.inl ⟨by rfl, ?_⟩) ?_ ?_
    rotate_left
    · intro w'
      go_simp
      with_reducible rfl
    rotate_left
    · simp only [Act.put, List.setIfInBounds_toArray, List.set_cons_zero, List.set_cons_succ, i64_w, i32_w]
      rfl
    refine pure_ (i := 4) (N := some 15) (v := undef) (a' := ?_) #[true, true, true, true, true, false, false, false, false, false, false, false, false, false, false, false, false] rfl rfl (by kernel_rfl) (fun _ _ _ h => h) (Or.inr ⟨by rfl, rfl⟩) ?_ ?_
    rotate_left
    · simp only [Act.put, List.setIfInBounds_toArray, List.set_cons_zero, List.set_cons_succ, i64_w, i32_w]
      rfl
    refine pure_ (i := 5) (N := some 16) (v := undef) (a' := ?_) #[true, true, true, true, true, true, false, false, false, false, false, false, false, false, false, false, false] rfl rfl (by kernel_rfl) (fun _ _ _ h => h) (Or.inr ⟨by rfl, rfl⟩) ?_ ?_
    rotate_left
    · simp only [Act.put, List.setIfInBounds_toArray, List.set_cons_zero, List.set_cons_succ, i64_w, i32_w]
      rfl
    refine pure_ (i := 6) (N := some 17) (v := undef) (a' := ?_) #[true, true, true, true, true, true, true, false, false, false, false, false, false, false, false, false, false] rfl rfl (by kernel_rfl) (fun _ _ _ h => h) (Or.inr ⟨by rfl, rfl⟩) ?_ ?_
    rotate_left
    · simp only [Act.put, List.setIfInBounds_toArray, List.set_cons_zero, List.set_cons_succ, i64_w, i32_w]
      rfl
    refine pure_ (i := 7) (N := some 18) (v := undef) (a' := ?_) #[true, true, true, true, true, true, true, true, false, false, false, false, false, false, false, false, false] rfl rfl (by kernel_rfl) (fun _ _ _ h => h) (Or.inr ⟨by rfl, rfl⟩) ?_ ?_
    rotate_left
    · simp only [Act.put, List.setIfInBounds_toArray, List.set_cons_zero, List.set_cons_succ, i64_w, i32_w]
      rfl
    refine pure_ (i := 8) (N := some 19) (v := undef) (a' := ?_) #[true, true, true, true, true, true, true, true, true, false, false, false, false, false, false, false, false] rfl rfl (by kernel_rfl) (fun _ _ _ h => h) (Or.inr ⟨by rfl, rfl⟩) ?_ ?_
    rotate_left
    · simp only [Act.put, List.setIfInBounds_toArray, List.set_cons_zero, List.set_cons_succ, i64_w, i32_w]
      rfl
    refine pure_ (i := 9) (N := some 20) (v := undef) (a' := ?_) #[true, true, true, true, true, true, true, true, true, true, false, false, false, false, false, false, false] rfl rfl (by kernel_rfl) (fun _ _ _ h => h) (Or.inr ⟨by rfl, rfl⟩) ?_ ?_
    rotate_left
    · simp only [Act.put, List.setIfInBounds_toArray, List.set_cons_zero, List.set_cons_succ, i64_w, i32_w]
      rfl
    refine pure_ (i := 10) (N := some 21) (v := undef) (a' := ?_) #[true, true, true, true, true, true, true, true, true, true, true, false, false, false, false, false, false] rfl rfl (by kernel_rfl) (fun _ _ _ h => h) (Or.inr ⟨by rfl, rfl⟩) ?_ ?_
    rotate_left
    · simp only [Act.put, List.setIfInBounds_toArray, List.set_cons_zero, List.set_cons_succ, i64_w, i32_w]
      rfl
    refine pure_ (i := 11) (N := some 22) (v := undef) (a' := ?_) #[true, true, true, true, true, true, true, true, true, true, true, true, false, false, false, false, false] rfl rfl (by kernel_rfl) (fun _ _ _ h => h) (Or.inr ⟨by rfl, rfl⟩) ?_ ?_
    rotate_left
    · simp only [Act.put, List.setIfInBounds_toArray, List.set_cons_zero, List.set_cons_succ, i64_w, i32_w]
      rfl
    refine pure_ (i := 12) (N := some 23) (v := undef) (a' := ?_) #[true, true, true, true, true, true, true, true, true, true, true, true, true, false, false, false, false] rfl rfl (by kernel_rfl) (fun _ _ _ h => h) (Or.inr ⟨by rfl, rfl⟩) ?_ ?_
    rotate_left
    · simp only [Act.put, List.setIfInBounds_toArray, List.set_cons_zero, List.set_cons_succ, i64_w, i32_w]
      rfl
    refine pure_ (i := 13) (N := some 24) (v := undef) (a' := ?_) #[true, true, true, true, true, true, true, true, true, true, true, true, true, true, false, false, false] rfl rfl (by kernel_rfl) (fun _ _ _ h => h) (Or.inr ⟨by rfl, rfl⟩) ?_ ?_
    rotate_left
    · simp only [Act.put, List.setIfInBounds_toArray, List.set_cons_zero, List.set_cons_succ, i64_w, i32_w]
      rfl
    refine pure_ (i := 14) (N := some 25) (v := undef) (a' := ?_) #[true, true, true, true, true, true, true, true, true, true, true, true, true, true, true, false, false] rfl rfl (by kernel_rfl) (fun _ _ _ h => h) (Or.inr ⟨by rfl, rfl⟩) ?_ ?_
    rotate_left
    · simp only [Act.put, List.setIfInBounds_toArray, List.set_cons_zero, List.set_cons_succ, i64_w, i32_w]
      rfl
    refine pure_ (i := 15) (N := some 26) (v := ?_) (a' := ?_) #[true, true, true, true, true, true, true, true, true, true, true, true, true, true, true, true, false] rfl rfl (by kernel_rfl) (fun _ _ _ h => h) (Or.inl ⟨by rfl, ?_⟩) ?_ ?_
    rotate_left
    · intro w'
      go_simp
      with_reducible rfl
    rotate_left
    · simp only [Act.put, List.setIfInBounds_toArray, List.set_cons_zero, List.set_cons_succ, i64_w, i32_w]
      rfl
    refine pure_ (i := 16) (N := some 6) (v := ?_) (a' := ?_) #[true, true, true, true, true, true, true, true, true, true, true, true, true, true, true, true, true] rfl rfl (by kernel_rfl) (fun _ _ _ h => h) (Or.inl ⟨by rfl, ?_⟩) ?_ ?_
    rotate_left
    · intro w'
      go_simp
      with_reducible rfl
    rotate_left
    · simp only [Act.put, List.setIfInBounds_toArray, List.set_cons_zero, List.set_cons_succ, i64_w, i32_w]
      rfl
    refine done_ (by kernel_rfl) ?_
    go_wp2_with fail
    go_ret
    exact ⟨rfl, HD.out⟩
  · refine start_ (n := 17) (S := fun w' => w'.cell? ⟨b, 1, none⟩ = some (.int .i64 mn)) (ds := []) #[false, false, false, false, false, false, false, false, false, false, false, false, false, false, false, false, false] (by kernel_rfl) rfl rfl (s1) (fun hHeld => ?_)
    have hd_ := below_drew (RowKit.Below.refl w1.heap.size w1)
    have HD := Aside0.mk hd_
    have n0_ := Aside0.mk (HB.out.upd (I := fun _ => False) (Upd.of_below κ hd_) (fun _ _ h => h))
    clear HB HBX hd_
    generalize w1.drew = wd at *
    refine pure_ (i := 0) (N := some 11) (v := ?_) (a' := ?_) #[true, false, false, false, false, false, false, false, false, false, false, false, false, false, false, false, false] rfl rfl (by kernel_rfl) (fun _ _ _ h => h) (Or.inl ⟨by rfl, ?_⟩) ?_ ?_
    rotate_left
    · intro w'
      go_simp
      with_reducible rfl
    rotate_left
    · simp only [Act.put, List.setIfInBounds_toArray, List.set_cons_zero, List.set_cons_succ, i64_w, i32_w]
      rfl
    refine pure_ (i := 1) (N := some 12) (v := ?_) (a' := ?_) #[true, true, false, false, false, false, false, false, false, false, false, false, false, false, false, false, false] rfl rfl (by kernel_rfl) (fun _ _ _ h => h) (Or.inl ⟨by rfl, ?_⟩) ?_ ?_
    rotate_left
    · intro w'
      go_simp
      with_reducible rfl
    rotate_left
    · simp only [Act.put, List.setIfInBounds_toArray, List.set_cons_zero, List.set_cons_succ, i64_w, i32_w]
      rfl
    refine one_ (i := 2) (N := some 13) #[true, true, true, false, false, false, false, false, false, false, false, false, false, false, false, false, false] rfl rfl (by kernel_rfl) (by decide) (fun K hK => ?_)
    refine goes_ Tryz.func76 (by kernel_rfl) rfl #[.pointer (some ⟨p, 0, none⟩), .int .i64 o] (by rfl) rfl rfl (by simp only [List.map_toArray, List.map_cons, List.map_nil]; rfl) ?_
    with_reducible refine (HHA.out _ p n0_.out).mono ?_
    rintro e_ w3 ⟨rfl, rfl⟩
    refine ⟨_, rfl, ?_⟩
    refine hK.out _ _ (hHeld) (fun hHeld => ?_)
    clear hK K
    refine norm_ (a' := ?_) ?_ ?_
    rotate_left
    · show Act.put _ (some 13) _ = _
      simp only [Act.put, List.setIfInBounds_toArray, List.set_cons_zero, List.set_cons_succ, i64_w, i32_w]
      rfl
    refine pure_ (i := 3) (N := some 14) (v := ?_) (a' := ?_) #[true, true, true, true, false, false, false, false, false, false, false, false, false, false, false, false, false] rfl rfl (by kernel_rfl) (fun _ _ _ h => h) (Or.inl ⟨by rfl, ?_⟩) ?_ ?_
    rotate_left
    · intro w'
      go_simp
      with_reducible rfl
    rotate_left
    · simp only [Act.put, List.setIfInBounds_toArray, List.set_cons_zero, List.set_cons_succ, i64_w, i32_w]
      rfl
    refine pure_ (i := 4) (N := some 15) (v := ?_) (a' := ?_) #[true, true, true, true, true, false, false, false, false, false, false, false, false, false, false, false, false] rfl rfl (by kernel_rfl) (fun _ _ _ h => h) (Or.inl ⟨by rfl, ?_⟩) ?_ ?_
    rotate_left
    · intro w'
      go_simp
      with_reducible rfl
    rotate_left
    · simp only [Act.put, List.setIfInBounds_toArray, List.set_cons_zero, List.set_cons_succ, i64_w, i32_w]
      rfl
    refine pure_ (i := 6) (N := some 17) (v := ?_) (a' := ?_) #[true, true, true, true, true, false, true, false, false, false, false, false, false, false, false, false, false] rfl rfl (by kernel_rfl) (fun _ _ _ h => h) (Or.inl ⟨by rfl, ?_⟩) ?_ ?_
    rotate_left
    · intro w'
      go_simp
      with_reducible rfl
    rotate_left
    · simp only [Act.put, List.setIfInBounds_toArray, List.set_cons_zero, List.set_cons_succ, i64_w, i32_w]
      rfl
    refine pure_ (i := 7) (N := some 18) (v := ?_) (a' := ?_) #[true, true, true, true, true, false, true, true, false, false, false, false, false, false, false, false, false] rfl rfl (by kernel_rfl) (fun _ _ _ h => h) (Or.inl ⟨by rfl, ?_⟩) ?_ ?_
    rotate_left
    · intro w'
      go_simp
      with_reducible rfl
    rotate_left
    · simp only [Act.put, List.setIfInBounds_toArray, List.set_cons_zero, List.set_cons_succ, i64_w, i32_w]
      rfl
    refine pure_ (i := 9) (N := some 20) (v := ?_) (a' := ?_) #[true, true, true, true, true, false, true, true, false, true, false, false, false, false, false, false, false] rfl rfl (by kernel_rfl) (fun _ _ _ h => h) (Or.inl ⟨by rfl, ?_⟩) ?_ ?_
    rotate_left
    · intro w'
      go_simp
      with_reducible rfl
    rotate_left
    · simp only [Act.put, List.setIfInBounds_toArray, List.set_cons_zero, List.set_cons_succ, i64_w, i32_w]
      rfl
    refine pure_ (i := 10) (N := some 21) (v := ?_) (a' := ?_) #[true, true, true, true, true, false, true, true, false, true, true, false, false, false, false, false, false] rfl rfl (by kernel_rfl) (fun _ _ _ h => h) (Or.inl ⟨by rfl, ?_⟩) ?_ ?_
    rotate_left
    · intro w'
      go_simp
      with_reducible rfl
    rotate_left
    · simp only [Act.put, List.setIfInBounds_toArray, List.set_cons_zero, List.set_cons_succ, i64_w, i32_w]
      rfl
    refine pure_ (i := 11) (N := some 22) (v := ?_) (a' := ?_) #[true, true, true, true, true, false, true, true, false, true, true, true, false, false, false, false, false] rfl rfl (by kernel_rfl) (fun _ _ _ h => h) (Or.inl ⟨by rfl, ?_⟩) ?_ ?_
    rotate_left
    · intro w'
      go_simp
      with_reducible rfl
    rotate_left
    · simp only [Act.put, List.setIfInBounds_toArray, List.set_cons_zero, List.set_cons_succ, i64_w, i32_w]
      rfl
    refine pure_ (i := 12) (N := some 23) (v := ?_) (a' := ?_) #[true, true, true, true, true, false, true, true, false, true, true, true, true, false, false, false, false] rfl rfl (by kernel_rfl) (fun _ _ _ h => h) (Or.inl ⟨by rfl, ?_⟩) ?_ ?_
    rotate_left
    · intro w'
      go_simp
      with_reducible rfl
    rotate_left
    · simp only [Act.put, List.setIfInBounds_toArray, List.set_cons_zero, List.set_cons_succ, i64_w, i32_w]
      rfl
    refine take_ (i := 13) (N := some 24) (v := ?_) (a' := ?_) #[true, true, true, true, true, false, true, true, false, true, true, true, true, true, false, false, false] rfl rfl (by kernel_rfl) (fun _ _ _ h => h) (Or.inl ⟨by rfl, ?_⟩) hHeld ?_ ?_
    rotate_left
    · intro w' s0
      go_simp
      with_reducible rfl
    rotate_left
    · simp only [Act.put, List.setIfInBounds_toArray, List.set_cons_zero, List.set_cons_succ, i64_w, i32_w]
      rfl
    refine one_ (i := 5) (N := some 16) #[true, true, true, true, true, true, true, true, false, true, true, true, true, true, false, false, false] rfl rfl (by kernel_rfl) (by decide) (fun K hK => ?_)
    refine goes_ Tryz.func75 (by kernel_rfl) rfl #[.pointer (some ⟨p, 0, none⟩)] (by rfl) rfl rfl (by simp only [List.map_toArray, List.map_cons, List.map_nil]; rfl) ?_
    with_reducible refine (HFR.out _ p n0_.out).mono ?_
    rintro e_ w3 ⟨rfl, rfl⟩
    refine ⟨_, rfl, ?_⟩
    refine hK.out _ _ (hHeld) (fun hHeld => ?_)
    clear hK K
    refine norm_ (a' := ?_) ?_ ?_
    rotate_left
    · show Act.put _ (some 16) _ = _
      simp only [Act.put, List.setIfInBounds_toArray, List.set_cons_zero, List.set_cons_succ, i64_w, i32_w]
      rfl
    refine pure_ (i := 8) (N := some 19) (v := ?_) (a' := ?_) #[true, true, true, true, true, true, true, true, true, true, true, true, true, true, false, false, false] rfl rfl (by kernel_rfl) (fun _ _ _ h => h) (Or.inl ⟨by rfl, ?_⟩) ?_ ?_
    rotate_left
    · intro w'
      go_simp
      with_reducible rfl
    rotate_left
    · simp only [Act.put, List.setIfInBounds_toArray, List.set_cons_zero, List.set_cons_succ, i64_w, i32_w]
      rfl
    refine pure_ (i := 14) (N := some 25) (v := ?_) (a' := ?_) #[true, true, true, true, true, true, true, true, true, true, true, true, true, true, true, false, false] rfl rfl (by kernel_rfl) (fun _ _ _ h => h) (Or.inl ⟨by rfl, ?_⟩) ?_ ?_
    rotate_left
    · intro w'
      go_simp
      with_reducible rfl
    rotate_left
    · simp only [Act.put, List.setIfInBounds_toArray, List.set_cons_zero, List.set_cons_succ, i64_w, i32_w]
      rfl
    refine pure_ (i := 15) (N := some 26) (v := ?_) (a' := ?_) #[true, true, true, true, true, true, true, true, true, true, true, true, true, true, true, true, false] rfl rfl (by kernel_rfl) (fun _ _ _ h => h) (Or.inl ⟨by rfl, ?_⟩) ?_ ?_
    rotate_left
    · intro w'
      go_simp
      with_reducible rfl
    rotate_left
    · simp only [Act.put, List.setIfInBounds_toArray, List.set_cons_zero, List.set_cons_succ, i64_w, i32_w]
      rfl
    refine pure_ (i := 16) (N := some 6) (v := ?_) (a' := ?_) #[true, true, true, true, true, true, true, true, true, true, true, true, true, true, true, true, true] rfl rfl (by kernel_rfl) (fun _ _ _ h => h) (Or.inl ⟨by rfl, ?_⟩) ?_ ?_
    rotate_left
    · intro w'
      go_simp
      with_reducible rfl
    rotate_left
    · simp only [Act.put, List.setIfInBounds_toArray, List.set_cons_zero, List.set_cons_succ, i64_w, i32_w]
      rfl
    refine done_ (by kernel_rfl) ?_
    go_wp2_with fail
    go_ret
    exact ⟨rfl, HD.out⟩
def RelAll (w : World) (mn : Int) (o : Nat) (bs : List Bud) (v5 v14 : Value) (wr : World) : Prop :=
  ∃ j : Nat, v14 = .int .i64 j ∧ j ≤ bs.length ∧ Kd.R Kd.bool 4 wr w.heap.size (fun _ => True) v5 ((bs.take j).map fun x => mayB mn x o) ∧ RowKit.Below w.heap.size w wr
set_option maxHeartbeats 2000000 in
set_option maxRecDepth 100000 in
theorem heap_all (κ : Kol) (i b each : Nat) (mn lo hi : Int) (bs : List Bud) (o : Nat) (ho : o < 11) (hl : bs.length ≤ 1000) (hf : ∀ x ∈ bs, ∀ k, k < 11 → (x.fr k).length ≤ 1024) (hmn : -100000 ≤ mn) (w : World) (h : HeapK κ i w b each mn lo hi bs) :
    Calls Tryz.prog 48 #[.pointer (some ⟨b, 0, none⟩), .int .i64 o] w fun e w' => ∃ A c, e = .returned (.slice A bs.length c) ∧ bs.length ≤ c ∧ Kd.bool.C w' A bs.length (bs.map fun x => mayB mn x o) ∧ RowKit.Below w.heap.size w w' := by
  have HH := Aside0.mk h
  obtain ⟨v, ps, h1, h2, h3, h4⟩ := h
  obtain ⟨A, c, rfl, hle, hC⟩ := h2.reads
  obtain ⟨m, hm⟩ : ∃ m, ps.length = m := ⟨_, rfl⟩
  have s4 : w.cell? ⟨b, 4, none⟩ = some (.slice A m c) := by rw [← hm]; exact h1.blk.at 4 _ rfl
  have HMB := Aside0.mk (show bs.length = m by omega)
  have HF := Aside0.mk hf
  have info4 : (Tryz.prog.info? 4).map (fun i => (i.zero, i.size, i.bytes)) = some (some (.bool false), 1, 1) := by kernel_rfl
  clear h1 h2 h3 h4 hC hle hf hm
  go_enter Tryz.func48, Tryz.ntmps48
  go_wp2_with fail
  have H0 := Aside0.mk (show RelAll w mn o bs (.slice none 0 0) (.int .i64 0) w from ⟨0, rfl, Nat.zero_le _, Kd.R_nil _ _ _ _ _, RowKit.Below.refl _ _⟩)
  go_loopw [5, 6, 14] (fun v5 _ v14 wr => RelAll w mn o bs v5 v14 wr) (fun _ _ v14 _ => m - (intOf v14).toNat)
  case atStart => exact H0.out
  case round =>
    clear H0 s4
    obtain ⟨j, rfl, hj, hR, hB⟩ := hrel
    have HR := Aside0.mk hR
    have HB := Aside0.mk hB
    have hmb := HMB.out
    clear hR hB
    by_cases hlt : j < m
    · have jI : (j : Int) < (m : Int) := by omega
      have j0 : (0 : Int) ≤ (j : Int) := by omega
      obtain ⟨x, hx⟩ : ∃ x, bs[j]? = some x := ⟨_, List.getElem?_eq_getElem (by omega)⟩
      have HX := Aside0.mk hx
      have HM := Aside0.mk (heap_may κ i b each mn lo hi bs j o ho x hx hl (HF.out x (List.mem_of_getElem? hx)) hmn wr (below_of κ HB.out HH.out))
      clear hx
      go_wp2_with (first | (go_at_call 31; (with_reducible refine HM.out.mono ?_); rintro e_ w1 ⟨rfl, hb⟩; have HR1 := Aside0.mk (Kd.R_below HR.out hb); have HB1 := Aside0.mk (below_then HB.out HB.out.size hb); clear hb) | ((with_reducible refine gate_builtin (b := .append) (xs := #[.tmp 17, .tmp 22]) rfl ?_); at_builtin; refine Kd.R_append Kd.bool (w0 := w) w.heap.size rfl (.tmp 17) (.tmp 22) 93 4 (.bool false) 1 rfl Tryz.underlying93 info4 rfl (by decide) (by omega) u5 ((bs.take j).map fun x => mayB mn x o) (mayB mn x o) [.bool (mayB mn x o)] (fun _ => True) (fun _ => False) rfl rfl ?aP (fun _ hk => hk.elim) ?aF ?aO ?aB ?aS ?aL ?_; (case aP => exact rfl); (case aB => exact HB1.out); (case aF => exact (fun _ _ => trivial)); (case aO => exact HR1.out); (case aS => exact HB1.out.size); (case aL => simp; omega); intro v7 w7 ho7 hb7 hg7 hat7; have H7 := Aside0.mk (And.intro ho7 hb7); clear ho7 hb7 hg7 hat7))
      refine ⟨⟨j + 1, by simp, by omega, ?_, H7.out.2⟩, ?_⟩
      · have := H7.out.1
        rw [List.take_add_one, HX.out]
        simpa using this
      · simp only [intOf]; omega
    · obtain rfl : j = m := by omega
      obtain ⟨A2, c2, rfl, hle2, hC2⟩ := Kd.R_reads HR.out
      have HC2 := Aside0.mk (And.intro hle2 hC2)
      clear hle2 hC2 HR
      go_wp2_with fail
      go_ret
      have hlen : ((bs.take j).map fun x => mayB mn x o).length = bs.length := by rw [List.length_map, List.length_take]; omega
      have htk : bs.take j = bs := List.take_of_length_le (by omega)
      obtain ⟨g1, g2⟩ := HC2.out
      rw [hlen] at g1 g2
      rw [htk] at g2
      exact ⟨A2, c2, by rw [hlen]; rfl, g1, g2, HB.out⟩
/-- A heap whose node j has another buddy. -/
theorem HeapK.put {κ : Kol} {i b each : Nat} {mn lo hi : Int} {w w1 : World} {bs : List Bud} {j p : Nat} {x y : Bud} {v : Value} {ps : List Nat} (h1 : BlkK κ i w b #[.int .i64 each, .int .i64 mn, .int .i64 lo, .int .i64 hi, v] 147) (h2 : KR pk 143 κ (i + 1) w v ps) (h3 : ps.length = bs.length) (h4 : ∀ j x, bs[j]? = some x → ∃ p, ps[j]? = some p ∧ BuddyK κ (i + 2 + 13 * j) w p each x.c x.fr x.tk)
    (hx : bs[j]? = some x) (hp : ps[j]? = some p) (hb : BuddyK κ (i + 2 + 13 * j) w1 p each y.c y.fr y.tk) (hU : Upd (fun z => i + 2 + 13 * j < z ∧ z < i + 2 + 13 * j + 13) κ w κ w1) : HeapK κ i w1 b each mn lo hi (bs.set j y) := by
  refine ⟨v, ps, h1.upd hU (by omega), h2.upd hU (by omega), by rw [List.length_set]; exact h3, fun q z hz => ?_⟩
  rw [List.getElem?_set] at hz
  split at hz
  · rename_i e
    subst e
    split at hz
    · obtain rfl := Option.some.inj hz
      exact ⟨p, hp, hb⟩
    · simp at hz
  · rename_i e
    obtain ⟨p', hp', hb'⟩ := h4 q z hz
    exact ⟨p', hp', hb'.upd hU (fun c hc => by omega)⟩
set_option maxHeartbeats 2000000 in
set_option maxRecDepth 100000 in
theorem heap_take [SortI] (κ : Kol) (i b each : Nat) (mn lo hi : Int) (bs : List Bud) (j o K y : Nat) (r : List Nat) (x : Bud) (hx : bs[j]? = some x) (hl : bs.length ≤ 8) (hmn : -100000 ≤ mn) (ho : o ≤ K) (hK : K < 11) (hy : x.fr K = y :: r) (hmin : ∀ q, o ≤ q → q < K → x.fr q = []) (hok : BudOK each x.fr) (hc : x.c < 1000000) (hmay : mayB mn x o = true) (w : World) (h : HeapK κ i w b each mn lo hi bs) :
    Calls Tryz.prog 101 #[.pointer (some ⟨b, 0, none⟩), .int .i64 j, .int .i64 o] w fun e w' => e = .returned (.tuple #[.int .i64 ((j * each + y : Nat) : Int), .int .i64 0]) ∧ HeapK κ i w' b each mn lo hi (bs.set j ⟨x.c + 1, frAt x.fr K y o, putF x.tk y o⟩) ∧ Upd (fun z => i + 2 + 13 * j < z ∧ z < i + 2 + 13 * j + 13) κ w κ w' := by
  have hj := (List.getElem?_eq_some_iff.1 hx).1
  have HM := Aside0.mk (heap_may κ i b each mn lo hi bs j o (by omega) x hx (by omega) hok.len hmn w h)
  rw [hmay] at HM
  have HH := Aside0.mk h
  obtain ⟨v, ps, h1, h2, h3, h4⟩ := h
  obtain ⟨p, hp, hb⟩ := h4 j x hx
  have HN := Aside0.mk (heap_at κ i b each mn lo hi v ps j p hp (by omega) w h1 h2)
  have HB := Aside0.mk hb
  have HX := Aside0.mk hx
  have hh1 : i + 2 + 13 * j > i := by omega
  have H1 := Aside0.mk (And.intro h1 (And.intro h2 (And.intro h3 (And.intro h4 hp))))
  have hyl : y ≤ 1024 := Nat.le_trans (Nat.le_add_right _ _) (Nat.le_trans (hok.lt K hK y (by rw [hy]; simp)) hok.max)
  have hem := hok.max
  have HT := Aside0.mk (fun (W : World) (p : Nat) hW => take_bud κ (i + 2 + 13 * j) p each x.c o K y r x.fr x.tk ho hK hy hmin hok hc W hW)
  have o0 : (0 : Int) ≤ (o : Int) := by omega
  have o1 : (o : Int) ≤ 10 := by omega
  have hje : j * each ≤ 8 * 1024 := Nat.mul_le_mul (by omega) hem
  obtain ⟨je, hje2⟩ : ∃ je, j * each = je := ⟨_, rfl⟩
  rw [hje2] at hje ⊢
  have g0 : (0 : Int) ≤ (je : Int) + (y : Int) ∧ (je : Int) + (y : Int) ≤ 1000000 := by omega
  have g1 : (0 : Int) ≤ (je : Int) ∧ (je : Int) ≤ 1000000 := by omega
  have e1 : wrap64 ((j : Int) * (each : Int)) = (je : Int) := by rw [← Int.natCast_mul, hje2]; exact w64 _ g1
  have e2 : wrap64 ((je : Int) + (y : Int)) = (je : Int) + (y : Int) := w64 _ g0
  have s0 := h1.blk.at 0 (.int .i64 each) rfl
  have HH1 := Aside0.mk hh1
  clear g0 g1 hh1 hmay hyl hem hmin hok hj hje hje2 h1 h2 h3 h4 hp hb hx
  go_enter Tryz.func101, Tryz.ntmps101
  go_wp2_with (first | (go_at_call 74; (with_reducible refine HN.out.mono ?_); rintro e_ w1 ⟨rfl, rfl⟩) | (go_at_call 31; (with_reducible refine HM.out.mono ?_); rintro e_ w2 ⟨rfl, hb⟩; have HB2 := Aside0.mk hb; clear hb) | (go_at_call 155; (with_reducible refine (HT.out _ p (HB.out.upd (I := fun _ => False) (Upd.of_below κ HB2.out) (fun _ _ h => h))).mono ?_); rintro e_ w3 ⟨rfl, q1, q2⟩; have HQ := Aside0.mk (And.intro q1 ((Upd.of_below κ HB2.out).then q2 (fun c hc => hc))); have t0 := (H1.out.1.upd HQ.out.2 (by omega)).blk.at 0 (.int .i64 each) rfl; clear q1 q2 s0))
  go_ret2
  obtain ⟨k1, k2, k3, k4, k5⟩ := H1.out
  refine ⟨by rw [Int.natCast_add]; simp [e1, e2], HeapK.put k1 k2 k3 k4 HX.out k5 HQ.out.1 HQ.out.2, HQ.out.2⟩
end Go.Proofs.YtenkdmloolbdaaaGreatDoor.T
end
