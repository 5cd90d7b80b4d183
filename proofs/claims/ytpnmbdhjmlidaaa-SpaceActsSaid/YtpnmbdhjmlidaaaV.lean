/- The walk of messuagelaw17.SpaceActs. -/
import Derived.Test.YtpnmbdhjmlidaaaU
namespace Go.Proofs.Ytpnmbdhjmlidaaa.T
open Go.RowKit Go.Proofs.YtpnmbdhjmlidaaaW.PrintWords Go.Proofs.YtpnmbdhjmlidaaaW.PrintLast Go.Proofs.YtpnmbdhjmlidaaaW.PrintMore
set_option linter.unusedVariables false
set_option linter.unusedSimpArgs false
def Acts (w : World) (A0 : Option Addr) (acts : List (Int × Int)) : Prop := ∀ i, (h : i < acts.length) → ∃ ad : Addr, A0 = some ad ∧ w.cell? (ad.add (i * 2)) = some (.int .i64 acts[i].1) ∧ w.cell? ⟨(ad.add (i * 2)).block, (ad.add (i * 2)).off + 1, none⟩ = some (.int .i64 acts[i].2)
def RelA (w : World) (gs gr : Nat) (acts : List (Int × Int)) (v12 : Value) (wr : World) : Prop :=
  ∃ (i : Nat) (l : List (Int × Int)), v12 = .int .i64 i ∧ i ≤ acts.length ∧ i ≤ 60 ∧ TwoE w gs gr l l wr
def RelZ (w5 : World) (l : List (Int × Int)) (v25 v26 : Value) (wr : World) : Prop :=
  ∃ i : Nat, v26 = .int .i64 i ∧ v25 = .int .i64 (4095 - pages (l.take i)) ∧ i ≤ l.length ∧ Below w5.heap.size w5 wr
theorem Two.new (w0 w : World) (hb : Below w0.heap.size w0 w) : Two w0 ((w.alloc (.cells #[.slice none 0 0] 48)).alloc (.cells #[.slice none 0 0] 42)) w.heap.size (w.heap.size + 1) none none 0 0 [] [] := by
  have h2 := heap_alloc_new (w.alloc (.cells #[.slice none 0 0] 48)) (.cells #[.slice none 0 0] 42)
  rw [World.size_alloc] at h2
  refine ⟨(Sp.new w w0.heap.size hb.size).below (below_alloc (Below.refl _ _) _), ⟨by have := hb.size; omega, h2, World.ownsRow_nil _ _ _ _, by simp [Row0], trivial⟩, by omega, by simp [Row0], by simp [Row0], by simp [Row0], below_alloc (below_alloc hb _) _⟩
theorem good_of {w0 w : World} {gs gr : Nat} {l1 l2 : List (Int × Int)} (h : TwoE w0 gs gr l1 l2 w) : From 1 l1 := by
  obtain ⟨A, B, c, d, h⟩ := h
  exact h.sp.good
set_option maxHeartbeats 4000000 in
set_option maxRecDepth 100000 in
theorem acts_walk (A0 : Option Addr) (c0 : Nat) (acts : List (Int × Int)) (w : World) (hrd : Acts w A0 acts) (hmax : acts.length ≤ 9223372036854775807) (hc0 : acts.length ≤ c0) :
    Calls Try.prog 5 #[.slice A0 acts.length c0] w fun e w' => e = .returned (.bool true) ∧ Below w.heap.size w w' := by
  have HRD := Aside0.mk hrd
  have HB := Aside0.mk (Below.refl w.heap.size w)
  clear hrd
  go_enter Try.func5, Try.ntmps5
  go_upto_region 6 with (first
    | (go_at_call 12; (with_reducible refine (none_nil _).mono ?_); rintro e_ w2 ⟨rfl, hw⟩; rw [hw]; clear hw w2)
    | (go_at_call 8; (with_reducible refine (nil_take 1 _).mono ?_); rintro e_ w2 ⟨rfl, hw⟩; rw [hw]; clear hw w2)
    | (go_at_call 9; (with_reducible refine (nil_give 1 _).mono ?_); rintro e_ w2 ⟨rfl, hw⟩; rw [hw]; clear hw w2)
    | (go_at_call 10; (with_reducible refine (nil_of 1 _).mono ?_); rintro e_ w2 ⟨rfl, hw⟩; rw [hw]; clear hw w2)
    | (go_at_call 13; (with_reducible refine (nil_runs _).mono ?_); rintro e_ w2 ⟨rfl, hw⟩; rw [hw]; clear hw w2)
    | (go_at_call 11; (with_reducible refine (nil_free _).mono ?_); rintro e_ w2 ⟨rfl, hw⟩; rw [hw]; clear hw w2)
    | (go_at_call 7; (with_reducible refine (spaces_true _).mono ?_); rintro e_ w2 ⟨rfl, hb⟩; have HB_ := Aside0.mk (below_then HB.out HB.out.size hb); clear HB hb; have HB := HB_; clear HB_))
  go_upto_region 7 with (go_at_call 6; (with_reducible refine (new_own _).mono ?_); rintro e_ w3 ⟨rfl, rfl⟩)
  have H0 := Aside0.mk (Two.new w w2 HB.out)
  go_wp2_with fail
  go_loopw [12, 13, 14, 15, 16, 17, 18, 19, 20, 21, 22, 23] (fun v12 v13 v14 v15 v16 v17 v18 v19 v20 v21 v22 v23 wr => RelA w w2.heap.size (w2.heap.size + 1) acts v12 wr) (fun v12 _ _ _ _ _ _ _ _ _ _ _ _ => acts.length - (intOf v12).toNat)
  case atStart => exact ⟨0, [], rfl, Nat.zero_le _, by omega, none, none, 0, 0, H0.out⟩
  case round =>
    clear H0 HB
    obtain ⟨i, l, rfl, hi, hi60, ht⟩ := hrel
    have HT := Aside0.mk ht
    clear ht
    have hi0 : (0 : Int) ≤ (i : Int) := by omega
    by_cases hcond : i < acts.length ∧ i < 60
    · obtain ⟨hlt, h60⟩ := hcond
      have hltI : (i : Int) < (acts.length : Int) := by omega
      have hltb : decide ((i : Int) < (acts.length : Int)) = true := decide_eq_true hltI
      have h60I : (i : Int) < 60 := by omega
      have h60b : decide ((i : Int) < 60) = true := decide_eq_true h60I
      obtain ⟨ad, rfl, p0, p1⟩ := HRD.out i hlt
      have p0 := pw_cell_below (w := w) HT.out.low p0
      have p1 := pw_cell_below (w := w) HT.out.low p1
      obtain ⟨⟨what, n⟩, hact⟩ : ∃ a, acts[i] = a := ⟨_, rfl⟩
      rw [hact] at p0 p1
      simp only at p0 p1
      clear hact
      have hm := wm5_in what
      unfold wm5 at hm
      rcases hm with hm | hm | hm | hm | hm
      · obtain ⟨⟨a, er, l'⟩, htk⟩ : ∃ r, takeR n l = r := ⟨_, rfl⟩
        have HK := Aside0.mk htk
        have hxx : (a != a) = false := by simp
        have hee : (er != er) = false := by simp
        clear htk
        go_wp2_with (first
          | (go_at_call 8; (with_reducible refine (two_take n a er HT.out HK.out).mono ?_); rintro e_ w3 ⟨rfl, ht⟩; have HT_ := Aside0.mk ht; clear HT ht; have HT := HT_; clear HT_)
          | (go_at_call 14; (with_reducible refine (two_reftake n a er HT.out HK.out).mono ?_); rintro e_ w3 ⟨rfl, ht⟩; have HT_ := Aside0.mk ht; clear HT ht; have HT := HT_; clear HT_))
        go_roundw
        case rel => exact ⟨i + 1, l', by go_num, by omega, by omega, HT.out⟩
        case measure => simp [intOf]; omega
      · obtain ⟨⟨a, er, l'⟩, htk⟩ : ∃ r, takeR n l = r := ⟨_, rfl⟩
        have HK := Aside0.mk htk
        have hxx : (a != a) = false := by simp
        have hee : (er != er) = false := by simp
        clear htk
        go_wp2_with (first
          | (go_at_call 8; (with_reducible refine (two_take n a er HT.out HK.out).mono ?_); rintro e_ w3 ⟨rfl, ht⟩; have HT_ := Aside0.mk ht; clear HT ht; have HT := HT_; clear HT_)
          | (go_at_call 14; (with_reducible refine (two_reftake n a er HT.out HK.out).mono ?_); rintro e_ w3 ⟨rfl, ht⟩; have HT_ := Aside0.mk ht; clear HT ht; have HT := HT_; clear HT_))
        go_roundw
        case rel => exact ⟨i + 1, l', by go_num, by omega, by omega, HT.out⟩
        case measure => simp [intOf]; omega
      · obtain ⟨B, d, c0, hl4, hld, hd9, hat⟩ := HT.out.ref
        have HAT := Aside0.mk hat
        clear hat
        by_cases hl0 : l.length = 0
        · have hl1 : ¬ (0 : Int) < (l.length : Int) := by omega
          have hl1b : decide ((0 : Int) < (l.length : Int)) = false := decide_eq_false hl1
          obtain ⟨⟨a, er, l'⟩, htk⟩ : ∃ r, giveR n l = r := ⟨_, rfl⟩
          have HK := Aside0.mk htk
          have hxx : (a != a) = false := by simp
          have hee : (er != er) = false := by simp
          clear htk hl0
          go_wp2_with (first
          | (go_at_call 9; (with_reducible refine (two_give n a er HT.out HK.out).mono ?_); rintro e_ w3 ⟨rfl, ht⟩; have HT_ := Aside0.mk ht; clear HT ht; have HT := HT_; clear HT_)
          | (go_at_call 15; (with_reducible refine (two_refgive n a er HT.out HK.out).mono ?_); rintro e_ w3 ⟨rfl, ht⟩; have HT_ := Aside0.mk ht; clear HT ht; have HT := HT_; clear HT_))
          go_roundw
          case rel => exact ⟨i + 1, l', by go_num, by omega, by omega, HT.out⟩
          case measure => simp [intOf]; omega
        · have hl1 : (0 : Int) < (l.length : Int) := by omega
          have hl1b : decide ((0 : Int) < (l.length : Int)) = true := decide_eq_true hl1
          have hnn : 0 ≤ IntKind.u64.wrap n := by rw [IntKind.wrap_u64]; omega
          have hr1 := Int.tmod_nonneg (l.length : Int) hnn
          have hr2 := Int.tmod_lt_of_pos (IntKind.u64.wrap n) hl1
          obtain ⟨k, hk⟩ := Int.eq_ofNat_of_zero_le hr1
          have hkl : k < l.length := by omega
          have hwr : IntKind.u64.wrap (l.length : Int) = l.length := IntWalk.u64_in _ ⟨by omega, by omega⟩
          have hw64 : wrap64 ((IntKind.u64.wrap n).tmod (l.length : Int)) = (k : Int) := by rw [hk]; exact IntWalk.wrap64_in _ ⟨by omega, by omega⟩
          have hln : ¬ l = [] := fun e => hl0 (by rw [e]; rfl)
          have hk0 : (0 : Int) ≤ (k : Int) := by omega
          have hkI : (k : Int) < (l.length : Int) := by omega
          obtain ⟨gb, rfl, q0, q1⟩ := HAT.out k hkl
          obtain ⟨n', hn'⟩ : ∃ x, l[k].1 = x := ⟨_, rfl⟩
          rw [hn'] at q0
          clear hn' q1 hnn hr1 hr2 hk hl0
          obtain ⟨⟨a, er, l'⟩, htk⟩ : ∃ r, giveR n' l = r := ⟨_, rfl⟩
          have HK := Aside0.mk htk
          have hxx : (a != a) = false := by simp
          have hee : (er != er) = false := by simp
          have HTD := Aside0.mk (HT.out.below (below_drew (Below.refl wr.heap.size wr)))
          clear htk HT HAT
          go_upto_region 20 with (fail)
          refine start_ (n := 18) (S := fun w' => w'.cell? ⟨w2.heap.size + 1, 0, none⟩ = some (.slice (some ⟨gb, 0, none⟩) l.length d) ∧ w'.cell? ⟨gb, k * 2, none⟩ = some (.int .i64 n')) (ds := []) #[false, false, false, false, false, false, false, false, false, false, false, false, false, false, false, false, false, false] (by kernel_rfl) rfl rfl ⟨c0, q0⟩ (fun hHeld => ?_)
          refine pure_ (i := 0) (N := some 116) (v := ?_) (a' := ?_) #[true, false, false, false, false, false, false, false, false, false, false, false, false, false, false, false, false, false] rfl rfl (by kernel_rfl) (fun _ _ _ h => h) (Or.inl ⟨by rfl, ?_⟩) ?_ ?_
          rotate_left
          · intro w'
            go_simp
            with_reducible rfl
          rotate_left
          · simp only [Act.put, List.setIfInBounds_toArray, List.set_cons_zero, List.set_cons_succ, i64_w, i32_w]
            rfl
          refine pure_ (i := 1) (N := some 117) (v := ?_) (a' := ?_) #[true, true, false, false, false, false, false, false, false, false, false, false, false, false, false, false, false, false] rfl rfl (by kernel_rfl) (fun _ _ _ h => h) (Or.inl ⟨by rfl, ?_⟩) ?_ ?_
          rotate_left
          · intro w'
            go_simp
            with_reducible rfl
          rotate_left
          · simp only [Act.put, List.setIfInBounds_toArray, List.set_cons_zero, List.set_cons_succ, i64_w, i32_w]
            rfl
          refine pure_ (i := 2) (N := some 118) (v := ?_) (a' := ?_) #[true, true, true, false, false, false, false, false, false, false, false, false, false, false, false, false, false, false] rfl rfl (by kernel_rfl) (fun _ _ _ h => h) (Or.inl ⟨by rfl, ?_⟩) ?_ ?_
          rotate_left
          · intro w'
            go_simp
            with_reducible rfl
          rotate_left
          · simp only [Act.put, List.setIfInBounds_toArray, List.set_cons_zero, List.set_cons_succ, i64_w, i32_w]
            rfl
          refine pure_ (i := 4) (N := some 120) (v := ?_) (a' := ?_) #[true, true, true, false, true, false, false, false, false, false, false, false, false, false, false, false, false, false] rfl rfl (by kernel_rfl) (fun _ _ _ h => h) (Or.inl ⟨by rfl, ?_⟩) ?_ ?_
          rotate_left
          · intro w'
            go_simp
            with_reducible rfl
          rotate_left
          · simp only [Act.put, List.setIfInBounds_toArray, List.set_cons_zero, List.set_cons_succ, i64_w, i32_w]
            rfl
          refine pure_ (i := 5) (N := some 121) (v := ?_) (a' := ?_) #[true, true, true, false, true, true, false, false, false, false, false, false, false, false, false, false, false, false] rfl rfl (by kernel_rfl) (fun _ _ _ h => h) (Or.inl ⟨by rfl, ?_⟩) ?_ ?_
          rotate_left
          · intro w'
            go_simp
            with_reducible rfl
          rotate_left
          · simp only [Act.put, List.setIfInBounds_toArray, List.set_cons_zero, List.set_cons_succ, i64_w, i32_w]
            rfl
          refine pure_ (i := 6) (N := some 122) (v := ?_) (a' := ?_) #[true, true, true, false, true, true, true, false, false, false, false, false, false, false, false, false, false, false] rfl rfl (by kernel_rfl) (fun _ _ _ h => h) (Or.inl ⟨by rfl, ?_⟩) ?_ ?_
          rotate_left
          · intro w'
            go_simp
            with_reducible rfl
          rotate_left
          · simp only [Act.put, List.setIfInBounds_toArray, List.set_cons_zero, List.set_cons_succ, i64_w, i32_w]
            rfl
          refine pure_ (i := 7) (N := some 123) (v := ?_) (a' := ?_) #[true, true, true, false, true, true, true, true, false, false, false, false, false, false, false, false, false, false] rfl rfl (by kernel_rfl) (fun _ _ _ h => h) (Or.inl ⟨by rfl, ?_⟩) ?_ ?_
          rotate_left
          · intro w'
            go_simp
            with_reducible rfl
          rotate_left
          · simp only [Act.put, List.setIfInBounds_toArray, List.set_cons_zero, List.set_cons_succ, i64_w, i32_w]
            rfl
          refine pure_ (i := 8) (N := some 124) (v := ?_) (a' := ?_) #[true, true, true, false, true, true, true, true, true, false, false, false, false, false, false, false, false, false] rfl rfl (by kernel_rfl) (fun _ _ _ h => h) (Or.inl ⟨by rfl, ?_⟩) ?_ ?_
          rotate_left
          · intro w'
            go_simp
            with_reducible rfl
          rotate_left
          · simp only [Act.put, List.setIfInBounds_toArray, List.set_cons_zero, List.set_cons_succ, i64_w, i32_w]
            rfl
          refine take_ (i := 3) (N := some 119) (v := ?_) (a' := ?_) #[true, true, true, true, true, true, true, true, true, false, false, false, false, false, false, false, false, false] rfl rfl (by kernel_rfl) (fun _ _ _ h => h) (Or.inl ⟨by rfl, ?_⟩) hHeld ?_ ?_
          rotate_left
          · rintro w' ⟨s0, s1⟩
            go_simp
            with_reducible rfl
          rotate_left
          · simp only [Act.put, List.setIfInBounds_toArray, List.set_cons_zero, List.set_cons_succ, i64_w, i32_w]
            rfl
          refine take_ (i := 9) (N := some 125) (v := ?_) (a' := ?_) #[true, true, true, true, true, true, true, true, true, true, false, false, false, false, false, false, false, false] rfl rfl (by kernel_rfl) (fun _ _ _ h => h) (Or.inl ⟨by rfl, ?_⟩) hHeld ?_ ?_
          rotate_left
          · rintro w' ⟨s0, s1⟩
            go_simp
            with_reducible rfl
          rotate_left
          · simp only [Act.put, List.setIfInBounds_toArray, List.set_cons_zero, List.set_cons_succ, i64_w, i32_w]
            rfl
          refine pure_ (i := 10) (N := some 126) (v := ?_) (a' := ?_) #[true, true, true, true, true, true, true, true, true, true, true, false, false, false, false, false, false, false] rfl rfl (by kernel_rfl) (fun _ _ _ h => h) (Or.inl ⟨by rfl, ?_⟩) ?_ ?_
          rotate_left
          · intro w'
            go_simp
            with_reducible rfl
          rotate_left
          · simp only [Act.put, List.setIfInBounds_toArray, List.set_cons_zero, List.set_cons_succ, i64_w, i32_w]
            rfl
          refine pure_ (i := 11) (N := some 127) (v := ?_) (a' := ?_) #[true, true, true, true, true, true, true, true, true, true, true, true, false, false, false, false, false, false] rfl rfl (by kernel_rfl) (fun _ _ _ h => h) (Or.inl ⟨by rfl, ?_⟩) ?_ ?_
          rotate_left
          · intro w'
            go_simp
            with_reducible rfl
          rotate_left
          · simp only [Act.put, List.setIfInBounds_toArray, List.set_cons_zero, List.set_cons_succ, i64_w, i32_w]
            rfl
          refine pure_ (i := 12) (N := some 128) (v := ?_) (a' := ?_) #[true, true, true, true, true, true, true, true, true, true, true, true, true, false, false, false, false, false] rfl rfl (by kernel_rfl) (fun _ _ _ h => h) (Or.inl ⟨by rfl, ?_⟩) ?_ ?_
          rotate_left
          · intro w'
            go_simp
            with_reducible rfl
          rotate_left
          · simp only [Act.put, List.setIfInBounds_toArray, List.set_cons_zero, List.set_cons_succ, i64_w, i32_w]
            rfl
          refine pure_ (i := 13) (N := some 129) (v := ?_) (a' := ?_) #[true, true, true, true, true, true, true, true, true, true, true, true, true, true, false, false, false, false] rfl rfl (by kernel_rfl) (fun _ _ _ h => h) (Or.inl ⟨by rfl, ?_⟩) ?_ ?_
          rotate_left
          · intro w'
            go_simp
            with_reducible rfl
          rotate_left
          · simp only [Act.put, List.setIfInBounds_toArray, List.set_cons_zero, List.set_cons_succ, i64_w, i32_w]
            rfl
          refine pure_ (i := 14) (N := some 130) (v := ?_) (a' := ?_) #[true, true, true, true, true, true, true, true, true, true, true, true, true, true, true, false, false, false] rfl rfl (by kernel_rfl) (fun _ _ _ h => h) (Or.inl ⟨by rfl, ?_⟩) ?_ ?_
          rotate_left
          · intro w'
            go_simp
            with_reducible rfl
          rotate_left
          · simp only [Act.put, List.setIfInBounds_toArray, List.set_cons_zero, List.set_cons_succ, i64_w, i32_w]
            rfl
          refine pure_ (i := 15) (N := some 131) (v := ?_) (a' := ?_) #[true, true, true, true, true, true, true, true, true, true, true, true, true, true, true, true, false, false] rfl rfl (by kernel_rfl) (fun _ _ _ h => h) (Or.inl ⟨by rfl, ?_⟩) ?_ ?_
          rotate_left
          · intro w'
            go_simp
            with_reducible rfl
          rotate_left
          · simp only [Act.put, List.setIfInBounds_toArray, List.set_cons_zero, List.set_cons_succ, i64_w, i32_w]
            rfl
          refine take_ (i := 16) (N := some 132) (v := ?_) (a' := ?_) #[true, true, true, true, true, true, true, true, true, true, true, true, true, true, true, true, true, false] rfl rfl (by kernel_rfl) (fun _ _ _ h => h) (Or.inl ⟨by rfl, ?_⟩) hHeld ?_ ?_
          rotate_left
          · rintro w' ⟨s0, s1⟩
            go_simp
            with_reducible rfl
          rotate_left
          · simp only [Act.put, List.setIfInBounds_toArray, List.set_cons_zero, List.set_cons_succ, i64_w, i32_w]
            rfl
          refine pure_ (i := 17) (N := some 13) (v := ?_) (a' := ?_) #[true, true, true, true, true, true, true, true, true, true, true, true, true, true, true, true, true, true] rfl rfl (by kernel_rfl) (fun _ _ _ h => h) (Or.inl ⟨by rfl, ?_⟩) ?_ ?_
          rotate_left
          · intro w'
            go_simp
            with_reducible rfl
          rotate_left
          · simp only [Act.put, List.setIfInBounds_toArray, List.set_cons_zero, List.set_cons_succ, i64_w, i32_w]
            rfl
          refine done_ (by kernel_rfl) ?_
          have HT := HTD
          clear HTD hw64 hwr
          go_wp2_with (first
          | (go_at_call 9; (with_reducible refine (two_give n' a er HT.out HK.out).mono ?_); rintro e_ w3 ⟨rfl, ht⟩; have HT_ := Aside0.mk ht; clear HT ht; have HT := HT_; clear HT_)
          | (go_at_call 15; (with_reducible refine (two_refgive n' a er HT.out HK.out).mono ?_); rintro e_ w3 ⟨rfl, ht⟩; have HT_ := Aside0.mk ht; clear HT ht; have HT := HT_; clear HT_))
          go_roundw
          case rel => exact ⟨i + 1, l', by go_num, by omega, by omega, HT.out⟩
          case measure => simp [intOf]; omega
      · obtain ⟨⟨a, er, l'⟩, htk⟩ : ∃ r, giveR n l = r := ⟨_, rfl⟩
        have HK := Aside0.mk htk
        have hxx : (a != a) = false := by simp
        have hee : (er != er) = false := by simp
        clear htk
        go_wp2_with (first
          | (go_at_call 9; (with_reducible refine (two_give n a er HT.out HK.out).mono ?_); rintro e_ w3 ⟨rfl, ht⟩; have HT_ := Aside0.mk ht; clear HT ht; have HT := HT_; clear HT_)
          | (go_at_call 15; (with_reducible refine (two_refgive n a er HT.out HK.out).mono ?_); rintro e_ w3 ⟨rfl, ht⟩; have HT_ := Aside0.mk ht; clear HT ht; have HT := HT_; clear HT_))
        go_roundw
        case rel => exact ⟨i + 1, l', by go_num, by omega, by omega, HT.out⟩
        case measure => simp [intOf]; omega
      · obtain ⟨⟨a, m, t⟩, htk⟩ : ∃ r, ofR l n = r := ⟨_, rfl⟩
        have HK := Aside0.mk htk
        have hxx : (a != a) = false := by simp
        have hee : (m != m) = false := by simp
        have htt : (t != t) = false := by simp
        clear htk
        go_wp2_with (first
          | (go_at_call 10; (with_reducible refine (two_of n a m t HT.out HK.out).mono ?_); rintro e_ w3 ⟨rfl, ht⟩; have HT_ := Aside0.mk ht; clear HT ht; have HT := HT_; clear HT_)
          | (go_at_call 16; (with_reducible refine (two_refof n a m t HT.out HK.out).mono ?_); rintro e_ w3 ⟨rfl, ht⟩; have HT_ := Aside0.mk ht; clear HT ht; have HT := HT_; clear HT_))
        go_roundw
        case rel => exact ⟨i + 1, l, by go_num, by omega, by omega, HT.out⟩
        case measure => simp [intOf]; omega
    · have hex : (decide ((i : Int) < (acts.length : Int)) = false ∧ ¬ (i : Int) < (acts.length : Int)) ∨ (decide ((i : Int) < (acts.length : Int)) = true ∧ (i : Int) < (acts.length : Int) ∧ decide ((i : Int) < 60) = false ∧ ¬ (i : Int) < 60) := by
        by_cases h1 : i < acts.length
        · exact .inr ⟨decide_eq_true (by omega), by omega, decide_eq_false (by omega), by omega⟩
        · exact .inl ⟨decide_eq_false (by omega), by omega⟩
      clear hcond
      obtain ⟨B, d, c0, hl4, hld, hd9, hat⟩ := HT.out.ref
      have HLE := Aside0.mk (And.intro hl4 (And.intro hld hd9))
      clear hl4 hld hd9 hat c0
      rcases hex with ⟨hd1, hd3⟩ | ⟨hd1, hd3, hd2, hd4⟩
      all_goals
        have hll : ((l.length : Int) != (l.length : Int)) = false := by simp
        have HPG := Aside0.mk (good_of HT.out)
        go_wp2_with (go_at_call 13; (with_reducible refine (two_runs HT.out).mono ?_); rintro e_ w5 ⟨AR, cR, rfl, hl5, hcR, hcR9, har, ht⟩; obtain ⟨B5, d5, c0, hl4, hld, hd9, hat⟩ := ht.ref; have HT5 := Aside0.mk ht; have HAR := Aside0.mk har; have HAT := Aside0.mk hat; have HC0 := Aside0.mk c0; clear hat ht har HT HLE)
        go_loopw [25, 26] (fun v25 v26 wr => RelZ w5 l v25 v26 wr) (fun _ v26 _ => l.length - (intOf v26).toNat)
        case atStart => exact ⟨0, rfl, by simp [pages], Nat.zero_le _, Below.refl _ _⟩
        case round =>
          clear c0
          obtain ⟨j, rfl, rfl, hj, hb5⟩ := hrel
          have HB5 := Aside0.mk hb5
          clear hb5
          by_cases hjl : j < l.length
          · have hj0 : (0 : Int) ≤ (j : Int) := by omega
            have hjI : (j : Int) < (l.length : Int) := by omega
            have hjb : decide ((j : Int) < (l.length : Int)) = true := decide_eq_true hjI
            obtain ⟨ga, rfl, r0⟩ := HAR.out j hjl
            obtain ⟨gb, rfl, q0, q1⟩ := HAT.out j hjl
            have c0 := HC0.out
            have hg := good_of HT5.out
            have hbj := hg.all _ (List.getElem_mem hjl)
            have hps := pages_succ l j hjl
            have hp1 := pages_le (hg.take j) (by omega)
            obtain ⟨⟨a, m⟩, hr⟩ : ∃ r, l[j] = r := ⟨_, rfl⟩
            rw [hr] at r0 q0 q1 hbj hps
            simp only at r0 q0 q1 hbj hps
            obtain ⟨q, hq⟩ : ∃ q, pages (l.take j) = q := ⟨_, rfl⟩
            rw [hq] at hp1 hps ⊢
            have HPS := Aside0.mk hps
            obtain ⟨b1, b2⟩ := hp1
            obtain ⟨b3, b4, b5⟩ := hbj
            have b9 : m ≤ 4095 := by omega
            have b6 : 0 ≤ 4095 - q := by omega
            have b7 : 4095 - q ≤ 4095 := by omega
            have hxx : (a != a) = false := by simp
            have r0 := pw_cell_below HB5.out r0
            have q0 := pw_cell_below HB5.out q0
            have q1 := pw_cell_below HB5.out q1
            have c0 := pw_cell_below HB5.out c0
            clear hg hps hr hq b1 b2 b3 b5
            go_upto_region 40 with (fail)
            refine start_ (n := 13) (S := fun w' => w'.cell? ⟨ga, j, none⟩ = some (.int .i64 a) ∧ w'.cell? ⟨w2.heap.size + 1, 0, none⟩ = some (.slice (some ⟨gb, 0, none⟩) l.length d5) ∧ w'.cell? ⟨gb, j * 2, none⟩ = some (.int .i64 a)) (ds := []) #[false, false, false, false, false, false, false, false, false, false, false, false, false] (by kernel_rfl) rfl rfl ⟨r0, c0, q0⟩ (fun hHeld => ?_)
            refine pure_ (i := 0) (N := some 212) (v := ?_) (a' := ?_) #[true, false, false, false, false, false, false, false, false, false, false, false, false] rfl rfl (by kernel_rfl) (fun _ _ _ h => h) (Or.inl ⟨by rfl, ?_⟩) ?_ ?_
            rotate_left
            · intro w'
              go_simp
              with_reducible rfl
            rotate_left
            · simp only [Act.put, List.setIfInBounds_toArray, List.set_cons_zero, List.set_cons_succ, i64_w, i32_w]
              rfl
            refine pure_ (i := 1) (N := some 213) (v := ?_) (a' := ?_) #[true, true, false, false, false, false, false, false, false, false, false, false, false] rfl rfl (by kernel_rfl) (fun _ _ _ h => h) (Or.inl ⟨by rfl, ?_⟩) ?_ ?_
            rotate_left
            · intro w'
              go_simp
              with_reducible rfl
            rotate_left
            · simp only [Act.put, List.setIfInBounds_toArray, List.set_cons_zero, List.set_cons_succ, i64_w, i32_w]
              rfl
            refine pure_ (i := 2) (N := some 214) (v := ?_) (a' := ?_) #[true, true, true, false, false, false, false, false, false, false, false, false, false] rfl rfl (by kernel_rfl) (fun _ _ _ h => h) (Or.inl ⟨by rfl, ?_⟩) ?_ ?_
            rotate_left
            · intro w'
              go_simp
              with_reducible rfl
            rotate_left
            · simp only [Act.put, List.setIfInBounds_toArray, List.set_cons_zero, List.set_cons_succ, i64_w, i32_w]
              rfl
            refine pure_ (i := 4) (N := some 216) (v := ?_) (a' := ?_) #[true, true, true, false, true, false, false, false, false, false, false, false, false] rfl rfl (by kernel_rfl) (fun _ _ _ h => h) (Or.inl ⟨by rfl, ?_⟩) ?_ ?_
            rotate_left
            · intro w'
              go_simp
              with_reducible rfl
            rotate_left
            · simp only [Act.put, List.setIfInBounds_toArray, List.set_cons_zero, List.set_cons_succ, i64_w, i32_w]
              rfl
            refine pure_ (i := 5) (N := some 217) (v := ?_) (a' := ?_) #[true, true, true, false, true, true, false, false, false, false, false, false, false] rfl rfl (by kernel_rfl) (fun _ _ _ h => h) (Or.inl ⟨by rfl, ?_⟩) ?_ ?_
            rotate_left
            · intro w'
              go_simp
              with_reducible rfl
            rotate_left
            · simp only [Act.put, List.setIfInBounds_toArray, List.set_cons_zero, List.set_cons_succ, i64_w, i32_w]
              rfl
            refine pure_ (i := 6) (N := some 218) (v := ?_) (a' := ?_) #[true, true, true, false, true, true, true, false, false, false, false, false, false] rfl rfl (by kernel_rfl) (fun _ _ _ h => h) (Or.inl ⟨by rfl, ?_⟩) ?_ ?_
            rotate_left
            · intro w'
              go_simp
              with_reducible rfl
            rotate_left
            · simp only [Act.put, List.setIfInBounds_toArray, List.set_cons_zero, List.set_cons_succ, i64_w, i32_w]
              rfl
            refine pure_ (i := 8) (N := some 220) (v := ?_) (a' := ?_) #[true, true, true, false, true, true, true, false, true, false, false, false, false] rfl rfl (by kernel_rfl) (fun _ _ _ h => h) (Or.inl ⟨by rfl, ?_⟩) ?_ ?_
            rotate_left
            · intro w'
              go_simp
              with_reducible rfl
            rotate_left
            · simp only [Act.put, List.setIfInBounds_toArray, List.set_cons_zero, List.set_cons_succ, i64_w, i32_w]
              rfl
            refine take_ (i := 3) (N := some 215) (v := ?_) (a' := ?_) #[true, true, true, true, true, true, true, false, true, false, false, false, false] rfl rfl (by kernel_rfl) (fun _ _ _ h => h) (Or.inl ⟨by rfl, ?_⟩) hHeld ?_ ?_
            rotate_left
            · rintro w' ⟨s0, s1, s2⟩
              go_simp
              with_reducible rfl
            rotate_left
            · simp only [Act.put, List.setIfInBounds_toArray, List.set_cons_zero, List.set_cons_succ, i64_w, i32_w]
              rfl
            refine take_ (i := 7) (N := some 219) (v := ?_) (a' := ?_) #[true, true, true, true, true, true, true, true, true, false, false, false, false] rfl rfl (by kernel_rfl) (fun _ _ _ h => h) (Or.inl ⟨by rfl, ?_⟩) hHeld ?_ ?_
            rotate_left
            · rintro w' ⟨s0, s1, s2⟩
              go_simp
              with_reducible rfl
            rotate_left
            · simp only [Act.put, List.setIfInBounds_toArray, List.set_cons_zero, List.set_cons_succ, i64_w, i32_w]
              rfl
            refine pure_ (i := 9) (N := some 221) (v := ?_) (a' := ?_) #[true, true, true, true, true, true, true, true, true, true, false, false, false] rfl rfl (by kernel_rfl) (fun _ _ _ h => h) (Or.inl ⟨by rfl, ?_⟩) ?_ ?_
            rotate_left
            · intro w'
              go_simp
              with_reducible rfl
            rotate_left
            · simp only [Act.put, List.setIfInBounds_toArray, List.set_cons_zero, List.set_cons_succ, i64_w, i32_w]
              rfl
            refine pure_ (i := 10) (N := some 222) (v := ?_) (a' := ?_) #[true, true, true, true, true, true, true, true, true, true, true, false, false] rfl rfl (by kernel_rfl) (fun _ _ _ h => h) (Or.inl ⟨by rfl, ?_⟩) ?_ ?_
            rotate_left
            · intro w'
              go_simp
              with_reducible rfl
            rotate_left
            · simp only [Act.put, List.setIfInBounds_toArray, List.set_cons_zero, List.set_cons_succ, i64_w, i32_w]
              rfl
            refine take_ (i := 11) (N := some 223) (v := ?_) (a' := ?_) #[true, true, true, true, true, true, true, true, true, true, true, true, false] rfl rfl (by kernel_rfl) (fun _ _ _ h => h) (Or.inl ⟨by rfl, ?_⟩) hHeld ?_ ?_
            rotate_left
            · rintro w' ⟨s0, s1, s2⟩
              go_simp
              with_reducible rfl
            rotate_left
            · simp only [Act.put, List.setIfInBounds_toArray, List.set_cons_zero, List.set_cons_succ, i64_w, i32_w]
              rfl
            refine pure_ (i := 12) (N := some 224) (v := ?_) (a' := ?_) #[true, true, true, true, true, true, true, true, true, true, true, true, true] rfl rfl (by kernel_rfl) (fun _ _ _ h => h) (Or.inl ⟨by rfl, ?_⟩) ?_ ?_
            rotate_left
            · intro w'
              go_simp
              with_reducible rfl
            rotate_left
            · simp only [Act.put, List.setIfInBounds_toArray, List.set_cons_zero, List.set_cons_succ, i64_w, i32_w]
              rfl
            refine done_ (by kernel_rfl) ?_
            go_wp2_with fail
            go_roundw
            case rel => exact ⟨j + 1, by go_num, by rw [HPS.out]; congr 1; omega, by omega, below_drew HB5.out⟩
            case measure => simp [intOf]; omega
          · obtain rfl : j = l.length := by omega
            have hjI : ¬ (l.length : Int) < (l.length : Int) := by omega
            have hjb : decide ((l.length : Int) < (l.length : Int)) = false := decide_eq_false hjI
            have he : l.take l.length = l := List.take_length
            rw [he]
            obtain ⟨f, hf⟩ : ∃ f, 4095 - pages l = f := ⟨_, rfl⟩
            rw [hf]
            have HF := Aside0.mk hf
            have HT6 := Aside0.mk (HT5.out.below HB5.out)
            have hff : (f == f) = true := by simp
            clear he hf
            go_wp2_with (go_at_call 11; (with_reducible refine (two_free f HF.out HT6.out).mono ?_); rintro e_ w6 ⟨rfl, ht⟩; have HT7 := Aside0.mk ht; clear ht HT6)
            go_ret
            exact ⟨rfl, HT7.out.low⟩
end Go.Proofs.Ytpnmbdhjmlidaaa.T
