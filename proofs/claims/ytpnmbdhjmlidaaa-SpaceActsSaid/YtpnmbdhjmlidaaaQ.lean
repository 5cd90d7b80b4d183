/- The reference's DocGive. -/
import Derived.Test.YtpnmbdhjmlidaaaP
namespace Go.Proofs.Ytpnmbdhjmlidaaa.T
open Go.RowKit Go.Proofs.YtpnmbdhjmlidaaaW.PrintWords Go.Proofs.YtpnmbdhjmlidaaaW.PrintLast Go.Proofs.YtpnmbdhjmlidaaaW.PrintMore
set_option linter.unusedVariables false
set_option linter.unusedSimpArgs false
theorem mid_below {w : World} {base g7 c7 k : Nat} {l : List (Int × Int)} {v1 : Value} {w1 : World} (hbase : base ≤ w.heap.size) (hrow : w.ownsRow base 35 2 (.slice (some ⟨g7, 0, none⟩) l.length c7) l.length (flat2 l)) (hk : k < l.length) (hl : l.length ≤ 100000)
    (hr1 : ∀ ty, (Builtin.append_ #[32, 32] ty #[.slice (some ⟨w.heap.size, 0, none⟩) 0 0, .slice (some ⟨g7, 0, none⟩) k c7]).run Try.prog (w.alloc (.cells #[] 35)) = .ok v1 w1) : Below w.heap.size w w1 := by
  obtain ⟨i0, hi0, hz0, hzs, hzb⟩ := info_parts info_two
  have hal : Below w.heap.size w (w.alloc (.cells #[] 35)) := below_alloc (Below.refl _ _) _
  have hmade := World.ownsRow_made w (base := base) (e := 35) (size := 2) #[] 0 hbase (by omega) (by simp)
  have hrow1 := row_below hrow hal
  have hsrc1 : ∀ j u, (flat2 (l.take k))[j]? = some u → (w.alloc (.cells #[] 35)).cell? ((⟨g7, 0, none⟩ : Addr).add j) = some u := by
    intro j u hj
    rw [Addr.add_lit, Nat.zero_add]
    refine row2_cells hrow1 j u ?_
    rw [← flat2_take l k (by omega), List.getElem?_take] at hj
    split at hj
    · exact hj
    · cases hj
  obtain ⟨v1', w1', hr, ho, hg, _, hat⟩ := run_append_own_at (P := Try.prog) (w := w.alloc (.cells #[] 35)) base 32 0 35 i0 _ 2 16 Try.underlying32 hi0 hz0 hzs hzb rfl (by decide) _ 0 [] hmade ⟨g7, 0, none⟩ k c7 (flat2 (l.take k)) (by rw [flat2_len, List.length_take]; omega) hsrc1 (flat2_one _) (by unfold maxLen; omega) (by omega) (by have := hal.size; omega)
  have h2 := (hr1 0).symm.trans hr
  injection h2 with _ h3
  rw [h3]
  exact below_grownB hal hal.size hg (fun j hj => by simp [Value.ownBlock] at hj; omega)
theorem row_set {w : World} {base e size n : Nat} {v : Value} {xs : List Value} (h : w.ownsRow base e size v n xs) {g : Nat} (hne : v.ownBlock ≠ some g) (j : Nat) (u : Value) : (w.setCell ⟨g, j, none⟩ u).ownsRow base e size v n xs := by
  refine ⟨h.1, ?_⟩
  rcases h.2 with hn | ⟨b, cap, cur, rfl, hbb, hg, rest⟩
  · exact .inl hn
  · refine .inr ⟨b, cap, cur, rfl, hbb, ?_, rest⟩
    rw [Below.heap_setCell w ⟨g, j, none⟩ u b (fun e => hne (by have e' : b = g := e; rw [← e']; rfl))]
    exact hg
/-- What DocGive comes to. -/
def DGiven (w : World) (base g : Nat) (l : List (Int × Int)) (p : Int) (e : Ending) (w' : World) : Prop :=
  match giveL p l with
  | none => e = .returned (.tuple #[.int .i64 0, .int .i64 13]) ∧ Below w.heap.size w w'
  | some (n, l2) => ∃ A' c', e = .returned (.tuple #[.int .i64 n, .int .i64 0]) ∧ Rf w' base g A' c' l2 ∧ Chg w w' g none ∧ (∀ k, Row0 A' = some k → w.heap.size ≤ k)
def RelD (w : World) (base g : Nat) (A : Option Addr) (c : Nat) (l : List (Int × Int)) (p : Int) (v6 : Value) (wr : World) : Prop :=
  ∃ i : Nat, v6 = .int .i64 i ∧ i ≤ l.length ∧ (∀ q, (h : q < l.length) → q < i → l[q].1 ≠ p) ∧ wr = w
set_option maxHeartbeats 4000000 in
set_option maxRecDepth 100000 in
theorem refgive_own (base g : Nat) (A : Option Addr) (c : Nat) (l : List (Int × Int)) (p : Int) (w : World) (h : Rf w base g A c l) :
    Calls Try.prog 15 #[.pointer (some ⟨g, 0, none⟩), .int .i64 p] w fun e w' => DGiven w base g l p e w' := by
  have hlen := h.len
  have hcap := h.cap
  have c0 := h.at0
  have H0 := Aside0.mk (show RelD w base g A c l p (.int .i64 0) w from ⟨0, rfl, Nat.zero_le _, fun _ _ h => by omega, rfl⟩)
  have HRF := Aside0.mk h
  clear h
  go_enter Try.func15, Try.ntmps15
  go_wp2_with fail
  go_loopw [6] (fun v6 wr => RelD w base g A c l p v6 wr) (fun v6 _ => l.length - (intOf v6).toNat)
  case atStart => exact H0.out
  case round =>
    clear H0
    obtain ⟨i, rfl, hi, hno, hwr⟩ := hrel
    subst hwr
    have HNO := Aside0.mk hno
    clear hno
    by_cases hlt : i < l.length
    · have hltI : (i : Int) < (l.length : Int) := by omega
      have hltb : decide ((i : Int) < (l.length : Int)) = true := decide_eq_true hltI
      have hi0 : (0 : Int) ≤ (i : Int) := by omega
      obtain ⟨g7, rfl, d0, d1⟩ := row2_at HRF.out.row i hlt
      have hgv : l[i].1 = p → giveL p l = some (l[i].2, l.take i ++ l.drop (i + 1)) := fun h1 => giveL_at p l i hlt h1 (fun q hq hql => HNO.out q hq hql)
      obtain ⟨⟨a, m⟩, hr⟩ : ∃ r, l[i] = r := ⟨_, rfl⟩
      rw [hr] at d0 d1 hgv
      simp only at d0 d1 hgv
      have HRR := Aside0.mk hr
      clear hr
      by_cases hap : a = p
      · subst hap
        have HGV := Aside0.mk (hgv rfl)
        have hab : (a == a) = true := by simp
        clear hgv
        obtain ⟨Ad, hAd⟩ : ∃ Ad : Addr, (if c = i + 1 then some (⟨g7, 0, none⟩ : Addr) else some ⟨g7, (i + 1) * 2, none⟩) = some Ad := by
          by_cases h : c = i + 1
          · exact ⟨_, if_pos h⟩
          · exact ⟨_, if_neg h⟩
        have HAD := Aside0.mk hAd
        obtain ⟨l2, hl2⟩ : ∃ l2, l.take i ++ l.drop (i + 1) = l2 := ⟨_, rfl⟩
        rw [hl2] at HGV
        have HL2 := Aside0.mk hl2
        have HGO := Aside0.mk (HRF.out.good.give a m l2 HGV.out)
        clear hAd hl2
        go_upto_region 6 with (fail)
        refine start_ (n := 20) (S := fun w' => w'.cell? ⟨g, 0, none⟩ = some (.slice (some ⟨g7, 0, none⟩) l.length c)) (ds := [19]) #[false, false, false, false, false, false, false, false, false, false, false, false, false, false, false, false, false, false, false, false] (by kernel_rfl) rfl rfl (c0) (fun hHeld => ?_)
        have n1 := Aside0.mk (HRF.out.below (below_drew (Below.refl wr.heap.size wr)))
        have HW0 := Aside0.mk (below_drew (Below.refl wr.heap.size wr))
        have hwsz : wr.drew.heap.size = wr.heap.size := rfl
        have HWS := Aside0.mk hwsz
        have hglt := (Array.getElem?_eq_some_iff.1 HRF.out.cell).1
        have HGL := Aside0.mk hglt
        clear HRF c0 d0 d1 hwsz hglt
        generalize wr.drew = wd at *
        have HRF := n1
        clear n1
        obtain ⟨k1, hk1e⟩ : ∃ k1, i + 1 = k1 := ⟨_, rfl⟩
        have hbs := Nat.le_of_lt (Nat.lt_of_le_of_lt HRF.out.lo (Array.getElem?_eq_some_iff.1 HRF.out.cell).1)
        obtain ⟨v1, w5, v2, w6, hr1, hr2, hrow5, hb5, hf5, A8, c8, hv2, hlc8, hc8⟩ := two_parts hbs HRF.out.row hlt (by omega) Ad HAD.out (c - k1)
        have HB1 := Aside0.mk (mid_below hbs HRF.out.row hlt (by omega) hr1)
        have hAd := HAD.out
        rw [hk1e] at hr2 hAd
        rw [HL2.out] at hrow5 hv2 hlc8
        subst hv2
        have hfr : ∀ k, Row0 A8 = some k → wr.heap.size ≤ k := fun k hk => by have := hf5 k (by rw [own_slice]; exact hk); rw [HWS.out] at this; exact this
        have hne6 : Row0 A8 ≠ some g := fun e => by have := hfr g e; have := HGL.out; omega
        have HF6 := Aside0.mk hfr
        have HN6 := Aside0.mk hne6
        have HC6 := Aside0.mk (HRF.out.below hb5).cell
        have c6 := (HRF.out.below hb5).at0
        have f6 := (HRF.out.below hb5).notFrozen
        have HR6 := Aside0.mk (row_set hrow5 (g := g) (by rw [own_slice]; exact hne6) 0 (.slice A8 l2.length c8))
        have HCH := Aside0.mk ((Chg.of_below (HW0.out.trans (by rw [← HWS.out]; exact hb5)) g none).set 0 (.slice A8 l2.length c8))
        have hcw := HRF.out.at0
        have hkc : i ≤ c := by omega
        have hk1l : k1 ≤ l.length := by omega
        have hk1c : k1 ≤ c := by omega
        have hk1i : (k1 : Int) ≤ (l.length : Int) := by omega
        have hk1z : (0 : Int) ≤ (k1 : Int) := by omega
        have hki : (i : Int) ≤ (l.length : Int) := by omega
        clear hrow5 hb5 hf5 hfr hne6 hbs
        have hwk : wrap64 ((i : Int) + 1) = (k1 : Int) := by rw [IntWalk.wrap64_in _ ⟨by omega, by omega⟩]; omega
        refine pure_ (i := 0) (N := some 35) (v := ?_) (a' := ?_) #[true, false, false, false, false, false, false, false, false, false, false, false, false, false, false, false, false, false, false, false] rfl rfl (by kernel_rfl) (fun _ _ _ h => h) (Or.inl ⟨by rfl, ?_⟩) ?_ ?_
        rotate_left
        · intro w'
          go_simp
          with_reducible rfl
        rotate_left
        · simp only [Act.put, List.setIfInBounds_toArray, List.set_cons_zero, List.set_cons_succ, i64_w, i32_w]
          rfl
        refine pure_ (i := 2) (N := some 37) (v := ?_) (a' := ?_) #[true, false, true, false, false, false, false, false, false, false, false, false, false, false, false, false, false, false, false, false] rfl rfl (by kernel_rfl) (fun _ _ _ h => h) (Or.inl ⟨by rfl, ?_⟩) ?_ ?_
        rotate_left
        · intro w'
          go_simp
          with_reducible rfl
        rotate_left
        · simp only [Act.put, List.setIfInBounds_toArray, List.set_cons_zero, List.set_cons_succ, i64_w, i32_w]
          rfl
        refine pure_ (i := 3) (N := some 38) (v := ?_) (a' := ?_) #[true, false, true, true, false, false, false, false, false, false, false, false, false, false, false, false, false, false, false, false] rfl rfl (by kernel_rfl) (fun _ _ _ h => h) (Or.inl ⟨by rfl, ?_⟩) ?_ ?_
        rotate_left
        · intro w'
          go_simp
          with_reducible rfl
        rotate_left
        · simp only [Act.put, List.setIfInBounds_toArray, List.set_cons_zero, List.set_cons_succ, i64_w, i32_w]
          rfl
        refine pure_ (i := 4) (N := some 39) (v := ?_) (a' := ?_) #[true, false, true, true, true, false, false, false, false, false, false, false, false, false, false, false, false, false, false, false] rfl rfl (by kernel_rfl) (fun _ _ _ h => h) (Or.inl ⟨by rfl, ?_⟩) ?_ ?_
        rotate_left
        · intro w'
          go_simp
          with_reducible rfl
        rotate_left
        · simp only [Act.put, List.setIfInBounds_toArray, List.set_cons_zero, List.set_cons_succ, i64_w, i32_w]
          rfl
        refine pure_ (i := 6) (N := some 41) (v := ?_) (a' := ?_) #[true, false, true, true, true, false, true, false, false, false, false, false, false, false, false, false, false, false, false, false] rfl rfl (by kernel_rfl) (fun _ _ _ h => h) (Or.inl ⟨by rfl, ?_⟩) ?_ ?_
        rotate_left
        · intro w'
          go_simp
          with_reducible rfl
        rotate_left
        · simp only [Act.put, List.setIfInBounds_toArray, List.set_cons_zero, List.set_cons_succ, i64_w, i32_w]
          rfl
        refine pure_ (i := 9) (N := some 44) (v := ?_) (a' := ?_) #[true, false, true, true, true, false, true, false, false, true, false, false, false, false, false, false, false, false, false, false] rfl rfl (by kernel_rfl) (fun _ _ _ h => h) (Or.inl ⟨by rfl, ?_⟩) ?_ ?_
        rotate_left
        · intro w'
          go_simp
          with_reducible rfl
        rotate_left
        · simp only [Act.put, List.setIfInBounds_toArray, List.set_cons_zero, List.set_cons_succ, i64_w, i32_w]
          rfl
        refine pure_ (i := 10) (N := some 45) (v := ?_) (a' := ?_) #[true, false, true, true, true, false, true, false, false, true, true, false, false, false, false, false, false, false, false, false] rfl rfl (by kernel_rfl) (fun _ _ _ h => h) (Or.inl ⟨by rfl, ?_⟩) ?_ ?_
        rotate_left
        · intro w'
          go_simp
          with_reducible rfl
        rotate_left
        · simp only [Act.put, List.setIfInBounds_toArray, List.set_cons_zero, List.set_cons_succ, i64_w, i32_w]
          rfl
        refine pure_ (i := 11) (N := some 46) (v := ?_) (a' := ?_) #[true, false, true, true, true, false, true, false, false, true, true, true, false, false, false, false, false, false, false, false] rfl rfl (by kernel_rfl) (fun _ _ _ h => h) (Or.inl ⟨by rfl, ?_⟩) ?_ ?_
        rotate_left
        · intro w'
          go_simp
          with_reducible rfl
        rotate_left
        · simp only [Act.put, List.setIfInBounds_toArray, List.set_cons_zero, List.set_cons_succ, i64_w, i32_w]
          rfl
        refine pure_ (i := 13) (N := some 48) (v := ?_) (a' := ?_) #[true, false, true, true, true, false, true, false, false, true, true, true, false, true, false, false, false, false, false, false] rfl rfl (by kernel_rfl) (fun _ _ _ h => h) (Or.inl ⟨by rfl, ?_⟩) ?_ ?_
        rotate_left
        · intro w'
          go_simp
          with_reducible rfl
        rotate_left
        · simp only [Act.put, List.setIfInBounds_toArray, List.set_cons_zero, List.set_cons_succ, i64_w, i32_w]
          rfl
        refine pure_ (i := 14) (N := some 49) (v := ?_) (a' := ?_) #[true, false, true, true, true, false, true, false, false, true, true, true, false, true, true, false, false, false, false, false] rfl rfl (by kernel_rfl) (fun _ _ _ h => h) (Or.inl ⟨by rfl, ?_⟩) ?_ ?_
        rotate_left
        · intro w'
          go_simp
          with_reducible rfl
        rotate_left
        · simp only [Act.put, List.setIfInBounds_toArray, List.set_cons_zero, List.set_cons_succ, i64_w, i32_w]
          rfl
        refine take_ (i := 5) (N := some 40) (v := ?_) (a' := ?_) #[true, false, true, true, true, true, true, false, false, true, true, true, false, true, true, false, false, false, false, false] rfl rfl (by kernel_rfl) (fun _ _ _ h => h) (Or.inl ⟨by rfl, ?_⟩) hHeld ?_ ?_
        rotate_left
        · intro w' s0
          go_simp
          with_reducible rfl
        rotate_left
        · simp only [Act.put, List.setIfInBounds_toArray, List.set_cons_zero, List.set_cons_succ, i64_w, i32_w]
          rfl
        refine pure_ (i := 7) (N := some 42) (v := ?_) (a' := ?_) #[true, false, true, true, true, true, true, true, false, true, true, true, false, true, true, false, false, false, false, false] rfl rfl (by kernel_rfl) (fun _ _ _ h => h) (Or.inl ⟨by rfl, ?_⟩) ?_ ?_
        rotate_left
        · intro w'
          go_simp
          with_reducible rfl
        rotate_left
        · simp only [Act.put, List.setIfInBounds_toArray, List.set_cons_zero, List.set_cons_succ, i64_w, i32_w]
          rfl
        refine take_ (i := 12) (N := some 47) (v := ?_) (a' := ?_) #[true, false, true, true, true, true, true, true, false, true, true, true, true, true, true, false, false, false, false, false] rfl rfl (by kernel_rfl) (fun _ _ _ h => h) (Or.inl ⟨by rfl, ?_⟩) hHeld ?_ ?_
        rotate_left
        · intro w' s0
          go_simp
          with_reducible rfl
        rotate_left
        · simp only [Act.put, List.setIfInBounds_toArray, List.set_cons_zero, List.set_cons_succ, i64_w, i32_w]
          rfl
        refine pure_ (i := 15) (N := some 50) (v := ?_) (a' := ?_) #[true, false, true, true, true, true, true, true, false, true, true, true, true, true, true, true, false, false, false, false] rfl rfl (by kernel_rfl) (fun _ _ _ h => h) (Or.inl ⟨by rfl, ?_⟩) ?_ ?_
        rotate_left
        · intro w'
          go_simp
          with_reducible rfl
        rotate_left
        · simp only [Act.put, List.setIfInBounds_toArray, List.set_cons_zero, List.set_cons_succ, i64_w, i32_w]
          rfl
        refine one_ (i := 1) (N := some 36) #[true, true, true, true, true, true, true, true, false, true, true, true, true, true, true, true, false, false, false, false] rfl rfl (by kernel_rfl) (by decide) (fun K hK => ?_)
        refine value_ (w1 := ?_) (v := ?_) (by rfl) rfl ?_ ?_
        rotate_left 2
        · go_simp
          constructor
          · rfl
          · rfl
        refine hK.out _ _ ((HRF.out.below (below_alloc (Below.refl _ _) _)).at0) (fun hHeld => ?_)
        clear hK K
        refine norm_ (a' := ?_) ?_ ?_
        rotate_left
        · show Act.put _ (some 36) _ = _
          simp only [Act.put, List.setIfInBounds_toArray, List.set_cons_zero, List.set_cons_succ, i64_w, i32_w]
          rfl
        refine one_ (i := 8) (N := some 43) #[true, true, true, true, true, true, true, true, true, true, true, true, true, true, true, true, false, false, false, false] rfl rfl (by kernel_rfl) (by decide) (fun K hK => ?_)
        refine step_append_eq rfl _ _ 32 32 rfl _ _ rfl rfl (hr1 _) ?_
        refine hK.out _ _ ((HRF.out.below HB1.out).at0) (fun hHeld => ?_)
        clear hK K
        refine norm_ (a' := ?_) ?_ ?_
        rotate_left
        · show Act.put _ (some 43) _ = _
          simp only [Act.put, List.setIfInBounds_toArray, List.set_cons_zero, List.set_cons_succ, i64_w, i32_w]
          rfl
        refine one_ (i := 16) (N := some 51) #[true, true, true, true, true, true, true, true, true, true, true, true, true, true, true, true, true, false, false, false] rfl rfl (by kernel_rfl) (by decide) (fun K hK => ?_)
        refine step_append_eq rfl _ _ 32 32 rfl _ _ rfl rfl (hr2 _) ?_
        refine hK.out _ _ (c6) (fun hHeld => ?_)
        clear hK K
        refine norm_ (a' := ?_) ?_ ?_
        rotate_left
        · show Act.put _ (some 51) _ = _
          simp only [Act.put, List.setIfInBounds_toArray, List.set_cons_zero, List.set_cons_succ, i64_w, i32_w]
          rfl
        refine pure_ (i := 17) (N := some 52) (v := ?_) (a' := ?_) #[true, true, true, true, true, true, true, true, true, true, true, true, true, true, true, true, true, true, false, false] rfl rfl (by kernel_rfl) (fun _ _ _ h => h) (Or.inl ⟨by rfl, ?_⟩) ?_ ?_
        rotate_left
        · intro w'
          go_simp
          with_reducible rfl
        rotate_left
        · simp only [Act.put, List.setIfInBounds_toArray, List.set_cons_zero, List.set_cons_succ, i64_w, i32_w]
          rfl
        refine pure_ (i := 18) (N := some 53) (v := ?_) (a' := ?_) #[true, true, true, true, true, true, true, true, true, true, true, true, true, true, true, true, true, true, true, false] rfl rfl (by kernel_rfl) (fun _ _ _ h => h) (Or.inl ⟨by rfl, ?_⟩) ?_ ?_
        rotate_left
        · intro w'
          go_simp
          with_reducible rfl
        rotate_left
        · simp only [Act.put, List.setIfInBounds_toArray, List.set_cons_zero, List.set_cons_succ, i64_w, i32_w]
          rfl
        refine last_ (i := 19) (N := none) #[true, true, true, true, true, true, true, true, true, true, true, true, true, true, true, true, true, true, true, true] rfl rfl (by kernel_rfl) (by decide) (fun K hK => ?_)
        refine skip_ (w1 := ?_) (by rfl) rfl ?_ ?_
        rotate_left
        · go_simp
          rfl
        refine hK.out _ _ ?_
        clear hK K
        refine done_ (by kernel_rfl) ?_
        go_wp2_with fail
        go_ret2
        unfold DGiven
        rw [HGV.out]
        exact ⟨A8, c8, rfl, ⟨HRF.out.lo, heap_set0 HC6.out, HR6.out, HN6.out, HGO.out⟩, HCH.out, HF6.out⟩
      · have hab : (a == p) = false := by simp [hap]
        have HAP := Aside0.mk hap
        clear hgv hap
        go_wp2_with fail
        go_roundw
        case rel => exact ⟨i + 1, by go_num, by omega, fun q hq hlt2 => by
          rcases Nat.lt_or_ge q i with h | h
          · exact HNO.out q hq h
          · obtain rfl : q = i := by omega
            rw [HRR.out]; exact HAP.out, rfl⟩
        case measure => simp [intOf]; omega
    · have hltI : ¬ (i : Int) < (l.length : Int) := by omega
      have hltb : decide ((i : Int) < (l.length : Int)) = false := decide_eq_false hltI
      have HGV := Aside0.mk (giveL_none p l (fun q hq => HNO.out q hq (by omega)))
      go_wp2_with fail
      go_ret2
      unfold DGiven
      rw [HGV.out]
      exact ⟨rfl, Below.refl _ _⟩
end Go.Proofs.Ytpnmbdhjmlidaaa.T
