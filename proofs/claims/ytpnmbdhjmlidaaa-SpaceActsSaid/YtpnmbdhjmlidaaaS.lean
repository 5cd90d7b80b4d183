/- The reference's DocTake. -/
import Derived.Test.YtpnmbdhjmlidaaaQ
namespace Go.Proofs.Ytpnmbdhjmlidaaa.T
open Go.RowKit Go.Proofs.YtpnmbdhjmlidaaaW.PrintWords Go.Proofs.YtpnmbdhjmlidaaaW.PrintLast Go.Proofs.YtpnmbdhjmlidaaaW.PrintMore
set_option linter.unusedVariables false
set_option linter.unusedSimpArgs false
/-- What may stand behind an append: no element at the nil slice, or cells that lie in the world. -/
def Srcs (W : World) (src : Value) (m : Nat) (news : List Value) : Prop :=
  (src = .slice none 0 0 ∧ m = 0 ∧ news = []) ∨ ∃ ad c, src = .slice (some ad) m c ∧ news.length = m * 2 ∧ (∀ j u, news[j]? = some u → W.cell? (ad.add j) = some u) ∧ ∀ u ∈ news, u.oneCell' = true
theorem app_part (W : World) (base b n c m : Nat) (xs news : List Value) (src : Value) (hown : W.ownsRow base 35 2 (.slice (some ⟨b, 0, none⟩) n c) n xs) (hs : Srcs W src m news) (hbase : base ≤ W.heap.size) (hl : n + m ≤ 100000) :
    ∃ v' w', (∀ ty, (Builtin.append_ #[32, 32] ty #[.slice (some ⟨b, 0, none⟩) n c, src]).run Try.prog W = .ok v' w') ∧ w'.ownsRow base 35 2 v' (n + m) (xs ++ news) ∧ W.grownBy w' (some b) ∧ (v'.ownBlock = some b ∨ v'.ownBlock = some W.heap.size) := by
  obtain ⟨i0, hi0, hz0, hzs, hzb⟩ := info_parts info_two
  rcases hs with ⟨rfl, rfl, rfl⟩ | ⟨ad, c2, rfl, hnl, hcells, hone⟩
  · have hnc : n ≤ c := by
      rcases hown.2 with ⟨h0, _⟩ | ⟨_, _, _, hv, _, _, hnc, _⟩
      · cases h0
      · injection hv with _ _ hcc; omega
    refine ⟨.slice (some ⟨b, 0, none⟩) n c, W, fun ty => ?_, by simpa using hown, ⟨rfl, rfl, rfl, Nat.le_refl _, fun _ _ _ => rfl⟩, .inl rfl⟩
    simp [Builtin.append_, run_underlying Try.underlying32, sizeOf, typeInfo, hi0, Builtin.lenOf, Builtin.firstCells, hnc, loadCells, loadCellsFrom, storeCells]
  · obtain ⟨v', w', hr, ho, hg, _, hat⟩ := run_append_own_at (P := Try.prog) (w := W) base 32 0 35 i0 _ 2 16 Try.underlying32 hi0 hz0 hzs hzb rfl (by decide) _ n xs hown ad m c2 news hnl hcells hone (by unfold maxLen; omega) (by omega) hbase
    exact ⟨v', w', fun ty => hr, ho, hg, hat⟩
theorem srcs_take {W : World} {base c k : Nat} {A : Option Addr} {l : List (Int × Int)} (h : W.ownsRow base 35 2 (.slice A l.length c) l.length (flat2 l)) (hk : k ≤ l.length) : Srcs W (.slice A k c) k (flat2 (l.take k)) := by
  rcases h.2 with ⟨h0, hl⟩ | ⟨g, cap, cur, hv, _⟩
  · injection h0 with h1 h2 h3
    subst h1; subst h3
    obtain rfl : k = 0 := by omega
    exact .inl ⟨rfl, rfl, by simp [flat2]⟩
  · injection hv with h1 _ h3
    subst h1; subst h3
    refine .inr ⟨_, _, rfl, by rw [flat2_len, List.length_take]; omega, fun j u hj => ?_, flat2_one _⟩
    rw [Addr.add_lit, Nat.zero_add]
    refine row2_cells h j u ?_
    rw [← flat2_take l k hk, List.getElem?_take] at hj
    split at hj
    · exact hj
    · cases hj
theorem srcs_drop {W : World} {base c k : Nat} {A AB : Option Addr} {l : List (Int × Int)} (h : W.ownsRow base 35 2 (.slice A l.length c) l.length (flat2 l)) (hk : k ≤ l.length) (hAB : (if c = k then A else Option.map (fun x => x.add (k * 2)) A) = AB) : Srcs W (.slice AB (l.length - k) (c - k)) (l.length - k) (flat2 (l.drop k)) := by
  rcases h.2 with ⟨h0, hl⟩ | ⟨g, cap, cur, hv, _, _, hnc, _⟩
  · injection h0 with h1 h2 h3
    subst h1; subst h3
    obtain rfl : k = 0 := by omega
    have hl0 : l = [] := List.eq_nil_of_length_eq_zero hl
    subst hl0
    simp at hAB
    subst hAB
    exact .inl ⟨rfl, rfl, by simp [flat2]⟩
  · injection hv with h1 _ h3
    subst h1; subst h3
    by_cases hc : c = k
    · rw [if_pos hc] at hAB
      subst hAB
      have hn : l.drop k = [] := List.drop_of_length_le (by omega)
      refine .inr ⟨_, _, rfl, by rw [flat2_len, List.length_drop], fun j u hj => ?_, flat2_one _⟩
      rw [hn] at hj; simp [flat2] at hj
    · rw [if_neg hc] at hAB
      simp only [Option.map_some] at hAB
      subst hAB
      refine .inr ⟨_, _, rfl, by rw [flat2_len, List.length_drop], fun j u hj => ?_, flat2_one _⟩
      rw [Addr.add_lit, Addr.add_lit, Nat.zero_add]
      refine row2_cells h _ u ?_
      rw [← flat2_drop l k hk, List.getElem?_drop] at hj
      exact hj
/-- The first append: onto an empty row that was laid in block a. -/
theorem part1 {wd W : World} {base a c k : Nat} {A : Option Addr} {l : List (Int × Int)} (hbase : base ≤ wd.heap.size) (hrow : wd.ownsRow base 35 2 (.slice A l.length c) l.length (flat2 l)) (hk : k ≤ l.length) (hl : l.length ≤ 4095) (hb : Below wd.heap.size wd W) (ha : W.heap[a]? = some (.cells #[] 35 (0, 0))) (haw : wd.heap.size ≤ a) :
    ∃ b c' w1, (∀ ty, (Builtin.append_ #[32, 32] ty #[.slice (some ⟨a, 0, none⟩) 0 0, .slice A k c]).run Try.prog W = .ok (.slice (some ⟨b, 0, none⟩) k c') w1) ∧ w1.ownsRow base 35 2 (.slice (some ⟨b, 0, none⟩) k c') k (flat2 (l.take k)) ∧ Below wd.heap.size wd w1 ∧ W.grownBy w1 (some a) ∧ (b = a ∨ b = W.heap.size) := by
  have hrow1 := row_below hrow hb
  have hem : W.ownsRow base 35 2 (.slice (some ⟨a, 0, none⟩) 0 0) 0 [] := ⟨by simp, .inr ⟨a, 0, #[], rfl, Nat.le_trans hbase haw, ha, Nat.le_refl _, by unfold maxLen; omega, by simp, by simp⟩⟩
  obtain ⟨v', w', hr, ho, hg, hat⟩ := app_part W base a 0 0 k [] _ _ hem (srcs_take hrow1 hk) (by have := hb.size; omega) (by omega)
  have hb1 : Below wd.heap.size wd w' := below_grownB hb hb.size hg (fun j hj => by injection hj with hj; omega)
  rw [Nat.zero_add, List.nil_append] at ho
  rcases ho.2 with ⟨h0, _⟩ | ⟨b, cap, cur, hv, _⟩
  · rw [h0] at hat; simp [Value.ownBlock] at hat
  · refine ⟨b, cap, w', fun ty => by rw [hr ty, hv], by rw [← hv]; exact ho, hb1, hg, ?_⟩
    rw [hv] at hat
    simpa [Value.ownBlock] using hat
def DTaken (w : World) (base g : Nat) (A : Option Addr) (l : List (Int × Int)) (n : Int) (e : Ending) (w' : World) : Prop :=
  ∃ A' c', e = .returned (.tuple #[.int .i64 (takeR n l).1, .int .i64 (takeR n l).2.1]) ∧ Rf w' base g A' c' (takeR n l).2.2 ∧ Chg w w' g none ∧ (A' = A ∨ ∀ k, Row0 A' = some k → w.heap.size ≤ k)
theorem srcs_one {W : World} {vb : Nat} {a n : Int} (h : W.heap[vb]? = some (.cells #[.int .i64 a, .int .i64 n] 35 (0, 0))) : Srcs W (.slice (some ⟨vb, 0, none⟩) 1 1) 1 [.int .i64 a, .int .i64 n] := by
  refine .inr ⟨_, _, rfl, rfl, fun j u hj => ?_, by simp [Value.oneCell']⟩
  rw [Addr.add_lit]
  rcases j with _ | _ | j
  · simp at hj; subst hj
    simp only [World.cell?]
    rw [h]; rfl
  · simp at hj; subst hj
    simp only [World.cell?]
    rw [h]; rfl
  · simp at hj
theorem own_form {w : World} {base e size n : Nat} {v : Value} {xs : List Value} (h : w.ownsRow base e size v n xs) {x y : Nat} (hv : v.ownBlock = some x ∨ v.ownBlock = some y) : ∃ b c, v = .slice (some ⟨b, 0, none⟩) n c := by
  rcases h.2 with ⟨h0, _⟩ | ⟨b, cap, cur, hs, _⟩
  · rw [h0] at hv; simp [Value.ownBlock] at hv
  · exact ⟨b, cap, hs⟩
theorem own_block {b n c x y : Nat} (h : (Value.slice (some ⟨b, 0, none⟩) n c).ownBlock = some x ∨ (Value.slice (some ⟨b, 0, none⟩) n c).ownBlock = some y) : b = x ∨ b = y := by
  simpa [Value.ownBlock] using h
def RelDT (w : World) (base g : Nat) (A : Option Addr) (c : Nat) (l : List (Int × Int)) (n : Int) (v6 v7 : Value) (wr : World) : Prop :=
  ∃ (k : Nat) (a : Int), v7 = .int .i64 k ∧ v6 = .int .i64 a ∧ At n l k a ∧ Rf wr base g A c l ∧ Below w.heap.size w wr
set_option maxHeartbeats 4000000 in
set_option maxRecDepth 100000 in
theorem reftake_own (base g : Nat) (A : Option Addr) (c : Nat) (l : List (Int × Int)) (n : Int) (w : World) (h : Rf w base g A c l) (hn1 : 1 ≤ n) (hn2 : n ≤ 4095) :
    Calls Try.prog 14 #[.pointer (some ⟨g, 0, none⟩), .int .i64 n] w fun e w' => DTaken w base g A l n e w' := by
  have hlen := h.len
  have hcap := h.cap
  have HRF := Aside0.mk h
  clear h
  have d1 : decide (n < 1) = false := decide_eq_false (by omega)
  have d1' : ¬ (n < 1) := by omega
  have d2 : decide (4095 < n) = false := decide_eq_false (by omega)
  have d2' : ¬ (4095 < n) := by omega
  go_enter Try.func14, Try.ntmps14
  go_wp2_with fail
  go_loopw [6, 7] (fun v6 v7 wr => RelDT w base g A c l n v6 v7 wr) (fun _ v7 _ => l.length - (intOf v7).toNat)
  case atStart => exact ⟨0, 1, rfl, rfl, ⟨Nat.zero_le _, Int.le_refl _, by omega, HRF.out.good, by simp⟩, HRF.out, Below.refl _ _⟩
  case round =>
    clear d1 d1' d2 d2' HRF
    obtain ⟨k, a, rfl, rfl, hat, hs, hB⟩ := hrel
    have hk := hat.1
    have ha1 := hat.2.1
    have ha2 := hat.2.2.1
    have HAT := Aside0.mk hat
    have HRF := Aside0.mk hs
    have HB := Aside0.mk hB
    have c0 := hs.at0
    clear hat hs hB
    by_cases hgo : ∃ h : k < l.length, l[k].1 - a < n
    · obtain ⟨hlt, hgo⟩ := hgo
      have hltb : decide ((k : Int) < (l.length : Int)) = true := decide_eq_true (by omega)
      have hltI : (k : Int) < (l.length : Int) := by omega
      have hk0 : (0 : Int) ≤ (k : Int) := by omega
      obtain ⟨gr, rfl, e0, e1⟩ := row2_at HRF.out.row k hlt
      have hbh := HRF.out.good.all _ (List.getElem_mem hlt)
      have HNX := Aside0.mk (HAT.out.next hlt hgo)
      obtain ⟨⟨r1, r2⟩, hr⟩ : ∃ r, l[k] = r := ⟨_, rfl⟩
      rw [hr] at e0 e1 hbh hgo HNX
      simp only at e0 e1 hbh hgo HNX
      clear hr
      have hgob : decide (r1 - a < n) = true := decide_eq_true hgo
      clear hgo
      go_upto_region 6 with (fail)
      refine start_ (n := 18) (S := fun w' => w'.cell? ⟨g, 0, none⟩ = some (.slice (some ⟨gr, 0, none⟩) l.length c) ∧ w'.cell? ⟨gr, k * 2, none⟩ = some (.int .i64 r1) ∧ w'.cell? ⟨gr, k * 2 + 1, none⟩ = some (.int .i64 r2)) (ds := []) #[false, false, false, false, false, false, false, false, false, false, false, false, false, false, false, false, false, false] (by kernel_rfl) rfl rfl ⟨c0, e0, e1⟩ (fun hHeld => ?_)
      refine pure_ (i := 0) (N := some 35) (v := ?_) (a' := ?_) #[true, false, false, false, false, false, false, false, false, false, false, false, false, false, false, false, false, false] rfl rfl (by kernel_rfl) (fun _ _ _ h => h) (Or.inl ⟨by rfl, ?_⟩) ?_ ?_
      rotate_left
      · intro w'
        go_simp
        with_reducible rfl
      rotate_left
      · simp only [Act.put, List.setIfInBounds_toArray, List.set_cons_zero, List.set_cons_succ, i64_w, i32_w]
        rfl
      refine pure_ (i := 1) (N := some 36) (v := ?_) (a' := ?_) #[true, true, false, false, false, false, false, false, false, false, false, false, false, false, false, false, false, false] rfl rfl (by kernel_rfl) (fun _ _ _ h => h) (Or.inl ⟨by rfl, ?_⟩) ?_ ?_
      rotate_left
      · intro w'
        go_simp
        with_reducible rfl
      rotate_left
      · simp only [Act.put, List.setIfInBounds_toArray, List.set_cons_zero, List.set_cons_succ, i64_w, i32_w]
        rfl
      refine pure_ (i := 2) (N := some 37) (v := ?_) (a' := ?_) #[true, true, true, false, false, false, false, false, false, false, false, false, false, false, false, false, false, false] rfl rfl (by kernel_rfl) (fun _ _ _ h => h) (Or.inl ⟨by rfl, ?_⟩) ?_ ?_
      rotate_left
      · intro w'
        go_simp
        with_reducible rfl
      rotate_left
      · simp only [Act.put, List.setIfInBounds_toArray, List.set_cons_zero, List.set_cons_succ, i64_w, i32_w]
        rfl
      refine pure_ (i := 4) (N := some 39) (v := ?_) (a' := ?_) #[true, true, true, false, true, false, false, false, false, false, false, false, false, false, false, false, false, false] rfl rfl (by kernel_rfl) (fun _ _ _ h => h) (Or.inl ⟨by rfl, ?_⟩) ?_ ?_
      rotate_left
      · intro w'
        go_simp
        with_reducible rfl
      rotate_left
      · simp only [Act.put, List.setIfInBounds_toArray, List.set_cons_zero, List.set_cons_succ, i64_w, i32_w]
        rfl
      refine pure_ (i := 8) (N := some 43) (v := ?_) (a' := ?_) #[true, true, true, false, true, false, false, false, true, false, false, false, false, false, false, false, false, false] rfl rfl (by kernel_rfl) (fun _ _ _ h => h) (Or.inl ⟨by rfl, ?_⟩) ?_ ?_
      rotate_left
      · intro w'
        go_simp
        with_reducible rfl
      rotate_left
      · simp only [Act.put, List.setIfInBounds_toArray, List.set_cons_zero, List.set_cons_succ, i64_w, i32_w]
        rfl
      refine pure_ (i := 9) (N := some 44) (v := ?_) (a' := ?_) #[true, true, true, false, true, false, false, false, true, true, false, false, false, false, false, false, false, false] rfl rfl (by kernel_rfl) (fun _ _ _ h => h) (Or.inl ⟨by rfl, ?_⟩) ?_ ?_
      rotate_left
      · intro w'
        go_simp
        with_reducible rfl
      rotate_left
      · simp only [Act.put, List.setIfInBounds_toArray, List.set_cons_zero, List.set_cons_succ, i64_w, i32_w]
        rfl
      refine pure_ (i := 10) (N := some 45) (v := ?_) (a' := ?_) #[true, true, true, false, true, false, false, false, true, true, true, false, false, false, false, false, false, false] rfl rfl (by kernel_rfl) (fun _ _ _ h => h) (Or.inl ⟨by rfl, ?_⟩) ?_ ?_
      rotate_left
      · intro w'
        go_simp
        with_reducible rfl
      rotate_left
      · simp only [Act.put, List.setIfInBounds_toArray, List.set_cons_zero, List.set_cons_succ, i64_w, i32_w]
        rfl
      refine pure_ (i := 12) (N := some 47) (v := ?_) (a' := ?_) #[true, true, true, false, true, false, false, false, true, true, true, false, true, false, false, false, false, false] rfl rfl (by kernel_rfl) (fun _ _ _ h => h) (Or.inl ⟨by rfl, ?_⟩) ?_ ?_
      rotate_left
      · intro w'
        go_simp
        with_reducible rfl
      rotate_left
      · simp only [Act.put, List.setIfInBounds_toArray, List.set_cons_zero, List.set_cons_succ, i64_w, i32_w]
        rfl
      refine take_ (i := 3) (N := some 38) (v := ?_) (a' := ?_) #[true, true, true, true, true, false, false, false, true, true, true, false, true, false, false, false, false, false] rfl rfl (by kernel_rfl) (fun _ _ _ h => h) (Or.inl ⟨by rfl, ?_⟩) hHeld ?_ ?_
      rotate_left
      · rintro w' ⟨s0, s1, s2⟩
        go_simp
        with_reducible rfl
      rotate_left
      · simp only [Act.put, List.setIfInBounds_toArray, List.set_cons_zero, List.set_cons_succ, i64_w, i32_w]
        rfl
      refine pure_ (i := 5) (N := some 40) (v := ?_) (a' := ?_) #[true, true, true, true, true, true, false, false, true, true, true, false, true, false, false, false, false, false] rfl rfl (by kernel_rfl) (fun _ _ _ h => h) (Or.inl ⟨by rfl, ?_⟩) ?_ ?_
      rotate_left
      · intro w'
        go_simp
        with_reducible rfl
      rotate_left
      · simp only [Act.put, List.setIfInBounds_toArray, List.set_cons_zero, List.set_cons_succ, i64_w, i32_w]
        rfl
      refine pure_ (i := 6) (N := some 41) (v := ?_) (a' := ?_) #[true, true, true, true, true, true, true, false, true, true, true, false, true, false, false, false, false, false] rfl rfl (by kernel_rfl) (fun _ _ _ h => h) (Or.inl ⟨by rfl, ?_⟩) ?_ ?_
      rotate_left
      · intro w'
        go_simp
        with_reducible rfl
      rotate_left
      · simp only [Act.put, List.setIfInBounds_toArray, List.set_cons_zero, List.set_cons_succ, i64_w, i32_w]
        rfl
      refine take_ (i := 7) (N := some 42) (v := ?_) (a' := ?_) #[true, true, true, true, true, true, true, true, true, true, true, false, true, false, false, false, false, false] rfl rfl (by kernel_rfl) (fun _ _ _ h => h) (Or.inl ⟨by rfl, ?_⟩) hHeld ?_ ?_
      rotate_left
      · rintro w' ⟨s0, s1, s2⟩
        go_simp
        with_reducible rfl
      rotate_left
      · simp only [Act.put, List.setIfInBounds_toArray, List.set_cons_zero, List.set_cons_succ, i64_w, i32_w]
        rfl
      refine take_ (i := 11) (N := some 46) (v := ?_) (a' := ?_) #[true, true, true, true, true, true, true, true, true, true, true, true, true, false, false, false, false, false] rfl rfl (by kernel_rfl) (fun _ _ _ h => h) (Or.inl ⟨by rfl, ?_⟩) hHeld ?_ ?_
      rotate_left
      · rintro w' ⟨s0, s1, s2⟩
        go_simp
        with_reducible rfl
      rotate_left
      · simp only [Act.put, List.setIfInBounds_toArray, List.set_cons_zero, List.set_cons_succ, i64_w, i32_w]
        rfl
      refine pure_ (i := 13) (N := some 48) (v := ?_) (a' := ?_) #[true, true, true, true, true, true, true, true, true, true, true, true, true, true, false, false, false, false] rfl rfl (by kernel_rfl) (fun _ _ _ h => h) (Or.inl ⟨by rfl, ?_⟩) ?_ ?_
      rotate_left
      · intro w'
        go_simp
        with_reducible rfl
      rotate_left
      · simp only [Act.put, List.setIfInBounds_toArray, List.set_cons_zero, List.set_cons_succ, i64_w, i32_w]
        rfl
      refine pure_ (i := 14) (N := some 49) (v := ?_) (a' := ?_) #[true, true, true, true, true, true, true, true, true, true, true, true, true, true, true, false, false, false] rfl rfl (by kernel_rfl) (fun _ _ _ h => h) (Or.inl ⟨by rfl, ?_⟩) ?_ ?_
      rotate_left
      · intro w'
        go_simp
        with_reducible rfl
      rotate_left
      · simp only [Act.put, List.setIfInBounds_toArray, List.set_cons_zero, List.set_cons_succ, i64_w, i32_w]
        rfl
      refine take_ (i := 15) (N := some 50) (v := ?_) (a' := ?_) #[true, true, true, true, true, true, true, true, true, true, true, true, true, true, true, true, false, false] rfl rfl (by kernel_rfl) (fun _ _ _ h => h) (Or.inl ⟨by rfl, ?_⟩) hHeld ?_ ?_
      rotate_left
      · rintro w' ⟨s0, s1, s2⟩
        go_simp
        with_reducible rfl
      rotate_left
      · simp only [Act.put, List.setIfInBounds_toArray, List.set_cons_zero, List.set_cons_succ, i64_w, i32_w]
        rfl
      refine pure_ (i := 16) (N := some 51) (v := ?_) (a' := ?_) #[true, true, true, true, true, true, true, true, true, true, true, true, true, true, true, true, true, false] rfl rfl (by kernel_rfl) (fun _ _ _ h => h) (Or.inl ⟨by rfl, ?_⟩) ?_ ?_
      rotate_left
      · intro w'
        go_simp
        with_reducible rfl
      rotate_left
      · simp only [Act.put, List.setIfInBounds_toArray, List.set_cons_zero, List.set_cons_succ, i64_w, i32_w]
        rfl
      refine pure_ (i := 17) (N := some 6) (v := ?_) (a' := ?_) #[true, true, true, true, true, true, true, true, true, true, true, true, true, true, true, true, true, true] rfl rfl (by kernel_rfl) (fun _ _ _ h => h) (Or.inl ⟨by rfl, ?_⟩) ?_ ?_
      rotate_left
      · intro w'
        go_simp
        with_reducible rfl
      rotate_left
      · simp only [Act.put, List.setIfInBounds_toArray, List.set_cons_zero, List.set_cons_succ, i64_w, i32_w]
        rfl
      refine done_ (by kernel_rfl) ?_
      go_wp2_with fail
      go_roundw
      case rel => exact ⟨k + 1, r1 + r2, by go_num, by rw [IntWalk.wrap64_in _ ⟨by omega, by omega⟩], HNX.out, HRF.out.below (below_drew (Below.refl _ _)), below_drew HB.out⟩
      case measure => simp [intOf]; omega
    · have hstop : k = l.length ∨ ∃ hk : k < l.length, ¬ l[k].1 - a < n := by
        rcases Nat.lt_or_ge k l.length with h | h
        · exact .inr ⟨h, fun h2 => hgo ⟨h, h2⟩⟩
        · exact .inl (by omega)
      have HST := Aside0.mk (HAT.out.stop hstop)
      have hcp := HRF.out.cap
      obtain ⟨AB, hAB⟩ : ∃ AB, (if c = k then A else Option.map (fun x => x.add (k * 2)) A) = AB := ⟨_, rfl⟩
      have HAB := Aside0.mk hAB
      clear hgo hAB
      by_cases hfull : 4096 < a + n
      · have hfb : decide (4096 < a + n) = true := decide_eq_true hfull
        have hr : takeR n l = (0, 14, l) := by unfold takeR; rw [if_neg (by omega), HST.out, if_pos hfull]
        have HR := Aside0.mk hr
        clear hr hfull
        rcases hstop with hstop | ⟨hlt, hst⟩
        · have hltb : decide ((k : Int) < (l.length : Int)) = false := decide_eq_false (by omega)
          have hltI : ¬ (k : Int) < (l.length : Int) := by omega
          go_wp2_with fail
          go_ret2
          exact ⟨A, c, by rw [HR.out]; rfl, by rw [HR.out]; exact HRF.out, Chg.of_below HB.out _ _, .inl rfl⟩
        · have hltb : decide ((k : Int) < (l.length : Int)) = true := decide_eq_true (by omega)
          have hltI : (k : Int) < (l.length : Int) := by omega
          have hk0 : (0 : Int) ≤ (k : Int) := by omega
          obtain ⟨gr, rfl, e0, e1⟩ := row2_at HRF.out.row k hlt
          have hbh := HRF.out.good.all _ (List.getElem_mem hlt)
          obtain ⟨⟨r1, r2⟩, hr⟩ : ∃ r, l[k] = r := ⟨_, rfl⟩
          rw [hr] at e0 e1 hbh hst
          simp only at e0 e1 hbh hst
          have hgob : decide (r1 - a < n) = false := decide_eq_false hst
          clear hr hst
          go_wp2_with fail
          go_ret2
          exact ⟨_, c, by rw [HR.out]; rfl, by rw [HR.out]; exact HRF.out, Chg.of_below HB.out _ _, .inl rfl⟩
      · have hfb : decide (4096 < a + n) = false := decide_eq_false hfull
        obtain ⟨l3, hl3⟩ : ∃ l3, l.take k ++ [(a, n)] ++ l.drop k = l3 := ⟨_, rfl⟩
        have hr : takeR n l = (a, 0, l3) := by unfold takeR; rw [if_neg (by omega), HST.out, if_neg hfull, ← hl3]
        have hgood : From 1 l3 := by
          have := takeL_good n HRF.out.good hn1 (by rw [HST.out]; omega)
          rw [HST.out, hl3] at this; exact this
        have hlen3 : k + 1 + (l.length - k) = l3.length := by
          rw [← hl3, List.length_append, List.length_append, List.length_take, List.length_drop, List.length_singleton]; omega
        have hfl3 : flat2 (l.take k) ++ [.int .i64 a, .int .i64 n] ++ flat2 (l.drop k) = flat2 l3 := by
          rw [← hl3, flat2_append, flat2_append]; rfl
        have HR := Aside0.mk hr
        have HGO := Aside0.mk hgood
        have HL3 := Aside0.mk hlen3
        have HF3 := Aside0.mk hfl3
        clear hr hgood hlen3 hfl3 hl3 hfull
        have hki : (k : Int) ≤ (l.length : Int) := by omega
        have hkz : (0 : Int) ≤ (k : Int) := by omega
        have hkc : k ≤ c := by omega
        rcases hstop with hstop | ⟨hlt, hst⟩
        · have hltb : decide ((k : Int) < (l.length : Int)) = false := decide_eq_false (by omega)
          have hltI : ¬ (k : Int) < (l.length : Int) := by omega
          clear hstop
          go_upto_region 10 with (fail)
          have hAB := HAB.out
          refine start_ (n := 24) (S := fun w' => w'.cell? ⟨g, 0, none⟩ = some (.slice A l.length c)) (ds := [23]) #[false, false, false, false, false, false, false, false, false, false, false, false, false, false, false, false, false, false, false, false, false, false, false, false] (by kernel_rfl) rfl rfl (c0) (fun hHeld => ?_)
          have n1 := Aside0.mk (HRF.out.below (below_drew (Below.refl wr.heap.size wr)))
          have HB1 := Aside0.mk (below_drew HB.out)
          clear HRF HB c0
          generalize wr.drew = wd at *
          have HRF := n1
          have HB := HB1
          clear n1 HB1
          have HBS := Aside0.mk (Nat.le_of_lt (Nat.lt_of_le_of_lt HRF.out.lo (Array.getElem?_eq_some_iff.1 HRF.out.cell).1))
          have HGL := Aside0.mk (Array.getElem?_eq_some_iff.1 HRF.out.cell).1
          refine pure_ (i := 0) (N := some 58) (v := ?_) (a' := ?_) #[true, false, false, false, false, false, false, false, false, false, false, false, false, false, false, false, false, false, false, false, false, false, false, false] rfl rfl (by kernel_rfl) (fun _ _ _ h => h) (Or.inl ⟨by rfl, ?_⟩) ?_ ?_
          rotate_left
          · intro w'
            go_simp
            with_reducible rfl
          rotate_left
          · simp only [Act.put, List.setIfInBounds_toArray, List.set_cons_zero, List.set_cons_succ, i64_w, i32_w]
            rfl
          refine pure_ (i := 2) (N := some 60) (v := ?_) (a' := ?_) #[true, false, true, false, false, false, false, false, false, false, false, false, false, false, false, false, false, false, false, false, false, false, false, false] rfl rfl (by kernel_rfl) (fun _ _ _ h => h) (Or.inl ⟨by rfl, ?_⟩) ?_ ?_
          rotate_left
          · intro w'
            go_simp
            with_reducible rfl
          rotate_left
          · simp only [Act.put, List.setIfInBounds_toArray, List.set_cons_zero, List.set_cons_succ, i64_w, i32_w]
            rfl
          refine pure_ (i := 3) (N := some 61) (v := ?_) (a' := ?_) #[true, false, true, true, false, false, false, false, false, false, false, false, false, false, false, false, false, false, false, false, false, false, false, false] rfl rfl (by kernel_rfl) (fun _ _ _ h => h) (Or.inl ⟨by rfl, ?_⟩) ?_ ?_
          rotate_left
          · intro w'
            go_simp
            with_reducible rfl
          rotate_left
          · simp only [Act.put, List.setIfInBounds_toArray, List.set_cons_zero, List.set_cons_succ, i64_w, i32_w]
            rfl
          refine pure_ (i := 4) (N := some 62) (v := ?_) (a' := ?_) #[true, false, true, true, true, false, false, false, false, false, false, false, false, false, false, false, false, false, false, false, false, false, false, false] rfl rfl (by kernel_rfl) (fun _ _ _ h => h) (Or.inl ⟨by rfl, ?_⟩) ?_ ?_
          rotate_left
          · intro w'
            go_simp
            with_reducible rfl
          rotate_left
          · simp only [Act.put, List.setIfInBounds_toArray, List.set_cons_zero, List.set_cons_succ, i64_w, i32_w]
            rfl
          refine pure_ (i := 6) (N := some 64) (v := ?_) (a' := ?_) #[true, false, true, true, true, false, true, false, false, false, false, false, false, false, false, false, false, false, false, false, false, false, false, false] rfl rfl (by kernel_rfl) (fun _ _ _ h => h) (Or.inl ⟨by rfl, ?_⟩) ?_ ?_
          rotate_left
          · intro w'
            go_simp
            with_reducible rfl
          rotate_left
          · simp only [Act.put, List.setIfInBounds_toArray, List.set_cons_zero, List.set_cons_succ, i64_w, i32_w]
            rfl
          refine pure_ (i := 9) (N := some 67) (v := ?_) (a' := ?_) #[true, false, true, true, true, false, true, false, false, true, false, false, false, false, false, false, false, false, false, false, false, false, false, false] rfl rfl (by kernel_rfl) (fun _ _ _ h => h) (Or.inl ⟨by rfl, ?_⟩) ?_ ?_
          rotate_left
          · intro w'
            go_simp
            with_reducible rfl
          rotate_left
          · simp only [Act.put, List.setIfInBounds_toArray, List.set_cons_zero, List.set_cons_succ, i64_w, i32_w]
            rfl
          refine pure_ (i := 10) (N := some 68) (v := ?_) (a' := ?_) #[true, false, true, true, true, false, true, false, false, true, true, false, false, false, false, false, false, false, false, false, false, false, false, false] rfl rfl (by kernel_rfl) (fun _ _ _ h => h) (Or.inl ⟨by rfl, ?_⟩) ?_ ?_
          rotate_left
          · intro w'
            go_simp
            with_reducible rfl
          rotate_left
          · simp only [Act.put, List.setIfInBounds_toArray, List.set_cons_zero, List.set_cons_succ, i64_w, i32_w]
            rfl
          refine pure_ (i := 11) (N := some 69) (v := ?_) (a' := ?_) #[true, false, true, true, true, false, true, false, false, true, true, true, false, false, false, false, false, false, false, false, false, false, false, false] rfl rfl (by kernel_rfl) (fun _ _ _ h => h) (Or.inl ⟨by rfl, ?_⟩) ?_ ?_
          rotate_left
          · intro w'
            go_simp
            with_reducible rfl
          rotate_left
          · simp only [Act.put, List.setIfInBounds_toArray, List.set_cons_zero, List.set_cons_succ, i64_w, i32_w]
            rfl
          refine pure_ (i := 14) (N := some 72) (v := ?_) (a' := ?_) #[true, false, true, true, true, false, true, false, false, true, true, true, false, false, true, false, false, false, false, false, false, false, false, false] rfl rfl (by kernel_rfl) (fun _ _ _ h => h) (Or.inl ⟨by rfl, ?_⟩) ?_ ?_
          rotate_left
          · intro w'
            go_simp
            with_reducible rfl
          rotate_left
          · simp only [Act.put, List.setIfInBounds_toArray, List.set_cons_zero, List.set_cons_succ, i64_w, i32_w]
            rfl
          refine pure_ (i := 15) (N := some 73) (v := ?_) (a' := ?_) #[true, false, true, true, true, false, true, false, false, true, true, true, false, false, true, true, false, false, false, false, false, false, false, false] rfl rfl (by kernel_rfl) (fun _ _ _ h => h) (Or.inl ⟨by rfl, ?_⟩) ?_ ?_
          rotate_left
          · intro w'
            go_simp
            with_reducible rfl
          rotate_left
          · simp only [Act.put, List.setIfInBounds_toArray, List.set_cons_zero, List.set_cons_succ, i64_w, i32_w]
            rfl
          refine pure_ (i := 16) (N := some 74) (v := ?_) (a' := ?_) #[true, false, true, true, true, false, true, false, false, true, true, true, false, false, true, true, true, false, false, false, false, false, false, false] rfl rfl (by kernel_rfl) (fun _ _ _ h => h) (Or.inl ⟨by rfl, ?_⟩) ?_ ?_
          rotate_left
          · intro w'
            go_simp
            with_reducible rfl
          rotate_left
          · simp only [Act.put, List.setIfInBounds_toArray, List.set_cons_zero, List.set_cons_succ, i64_w, i32_w]
            rfl
          refine pure_ (i := 18) (N := some 76) (v := ?_) (a' := ?_) #[true, false, true, true, true, false, true, false, false, true, true, true, false, false, true, true, true, false, true, false, false, false, false, false] rfl rfl (by kernel_rfl) (fun _ _ _ h => h) (Or.inl ⟨by rfl, ?_⟩) ?_ ?_
          rotate_left
          · intro w'
            go_simp
            with_reducible rfl
          rotate_left
          · simp only [Act.put, List.setIfInBounds_toArray, List.set_cons_zero, List.set_cons_succ, i64_w, i32_w]
            rfl
          refine take_ (i := 5) (N := some 63) (v := ?_) (a' := ?_) #[true, false, true, true, true, true, true, false, false, true, true, true, false, false, true, true, true, false, true, false, false, false, false, false] rfl rfl (by kernel_rfl) (fun _ _ _ h => h) (Or.inl ⟨by rfl, ?_⟩) hHeld ?_ ?_
          rotate_left
          · intro w' s0
            go_simp
            with_reducible rfl
          rotate_left
          · simp only [Act.put, List.setIfInBounds_toArray, List.set_cons_zero, List.set_cons_succ, i64_w, i32_w]
            rfl
          refine pure_ (i := 7) (N := some 65) (v := ?_) (a' := ?_) #[true, false, true, true, true, true, true, true, false, true, true, true, false, false, true, true, true, false, true, false, false, false, false, false] rfl rfl (by kernel_rfl) (fun _ _ _ h => h) (Or.inl ⟨by rfl, ?_⟩) ?_ ?_
          rotate_left
          · intro w'
            go_simp
            with_reducible rfl
          rotate_left
          · simp only [Act.put, List.setIfInBounds_toArray, List.set_cons_zero, List.set_cons_succ, i64_w, i32_w]
            rfl
          refine take_ (i := 17) (N := some 75) (v := ?_) (a' := ?_) #[true, false, true, true, true, true, true, true, false, true, true, true, false, false, true, true, true, true, true, false, false, false, false, false] rfl rfl (by kernel_rfl) (fun _ _ _ h => h) (Or.inl ⟨by rfl, ?_⟩) hHeld ?_ ?_
          rotate_left
          · intro w' s0
            go_simp
            with_reducible rfl
          rotate_left
          · simp only [Act.put, List.setIfInBounds_toArray, List.set_cons_zero, List.set_cons_succ, i64_w, i32_w]
            rfl
          refine pure_ (i := 19) (N := some 77) (v := ?_) (a' := ?_) #[true, false, true, true, true, true, true, true, false, true, true, true, false, false, true, true, true, true, true, true, false, false, false, false] rfl rfl (by kernel_rfl) (fun _ _ _ h => h) (Or.inl ⟨by rfl, ?_⟩) ?_ ?_
          rotate_left
          · intro w'
            go_simp
            with_reducible rfl
          rotate_left
          · simp only [Act.put, List.setIfInBounds_toArray, List.set_cons_zero, List.set_cons_succ, i64_w, i32_w]
            rfl
          refine join_ (σ := Nat × Nat × Nat × Nat) 5 #[true, true, true, true, true, true, true, true, true, true, true, true, true, false, true, true, true, true, true, true, false, false, false, false] (fun s => [(59, .slice (some ⟨s.1, 0, none⟩) 0 0), (66, .slice (some ⟨s.2.1, 0, none⟩) k s.2.2.1), (70, .slice (some ⟨s.2.2.2, 0, none⟩) 1 1)]) (fun s w_ => w_.ownsRow base 35 2 (.slice (some ⟨s.2.1, 0, none⟩) k s.2.2.1) k (flat2 (l.take k)) ∧ w_.heap[s.2.2.2]? = some (.cells #[.int .i64 a, .int .i64 n] 35 (0, 0)) ∧ s.2.1 ≠ s.2.2.2 ∧ wd.heap.size ≤ s.2.1 ∧ wd.heap.size ≤ s.2.2.2 ∧ Below wd.heap.size wd w_) ?_ ?_
          rotate_left
          · intro hCont
            refine two_ (i := 1) (j := 12) (Ni := some 59) (Nj := some 70) #[true, true, true, true, true, true, true, true, false, true, true, true, false, false, true, true, true, true, true, true, false, false, false, false] #[true, false, true, true, true, true, true, true, false, true, true, true, true, false, true, true, true, true, true, true, false, false, false, false] rfl rfl rfl rfl (by kernel_rfl) (by decide) (by decide) (fun K hK => ?_) (fun K hK => ?_)
            · skip
              refine value_ (w1 := ?_) (v := ?_) (by rfl) rfl ?_ ?_
              rotate_left 2
              · go_simp
                constructor
                · rfl
                · rfl
              refine hK.out _ _ ((HRF.out.below (below_alloc (Below.refl _ _) _)).at0) (fun hHeld => ?_)
              clear hK K
              refine norm_ (a' := ?_) ?_ ?_
              rotate_left
              · show Act.put _ (some 59) _ = _
                simp only [Act.put, List.setIfInBounds_toArray, List.set_cons_zero, List.set_cons_succ, i64_w, i32_w]
                rfl
              refine two_ (i := 8) (j := 12) (Ni := some 66) (Nj := some 70) #[true, true, true, true, true, true, true, true, true, true, true, true, false, false, true, true, true, true, true, true, false, false, false, false] #[true, true, true, true, true, true, true, true, false, true, true, true, true, false, true, true, true, true, true, true, false, false, false, false] rfl rfl rfl rfl (by kernel_rfl) (by decide) (by decide) (fun K hK => ?_) (fun K hK => ?_)
              · skip
                obtain ⟨b66, c66, w1, hr1, ho1, hb1, hg1, hn1_⟩ := part1 HBS.out HRF.out.row hk HRF.out.len (W := wd.alloc (.cells #[] 35)) (a := wd.heap.size) (below_alloc (Below.refl _ _) _) (heap_alloc_new wd _) (Nat.le_refl _)
                refine step_append_eq rfl _ _ 32 32 rfl _ _ rfl rfl (hr1 _) ?_
                refine hK.out _ _ ((HRF.out.below (hb1)).at0) (fun hHeld => ?_)
                clear hK K
                refine norm_ (a' := ?_) ?_ ?_
                rotate_left
                · show Act.put _ (some 66) _ = _
                  simp only [Act.put, List.setIfInBounds_toArray, List.set_cons_zero, List.set_cons_succ, i64_w, i32_w]
                  rfl
                refine one_ (i := 12) (N := some 70) #[true, true, true, true, true, true, true, true, true, true, true, true, true, false, true, true, true, true, true, true, false, false, false, false] rfl rfl (by kernel_rfl) (by decide) (fun K hK => ?_)
                refine value_ (w1 := ?_) (v := ?_) (by rfl) rfl ?_ ?_
                rotate_left 2
                · go_simp
                  constructor
                  · rfl
                  · rfl
                refine hK.out _ _ ((HRF.out.below (below_then hb1 hb1.size (below_alloc (Below.refl _ _) _))).at0) (fun hHeld => ?_)
                clear hK K
                refine norm_ (a' := ?_) ?_ ?_
                rotate_left
                · show Act.put _ (some 70) _ = _
                  simp only [Act.put, List.setIfInBounds_toArray, List.set_cons_zero, List.set_cons_succ, i64_w, i32_w]
                  rfl
                exact norm_ (by simp only [putAll, Act.put, List.setIfInBounds_toArray, List.set_cons_zero, List.set_cons_succ]) (hCont ⟨wd.heap.size, b66, c66, w1.heap.size⟩ _ ⟨row_below ho1 (below_alloc (Below.refl _ _) _), heap_alloc_new w1 _, Nat.ne_of_lt (ho1.lt b66 rfl).2, (by rcases hn1_ with h | h <;> (try simp at h) <;> (try simp only) <;> omega), hb1.size, below_then hb1 hb1.size (below_alloc (Below.refl _ _) _)⟩)
              · skip
                refine value_ (w1 := ?_) (v := ?_) (by rfl) rfl ?_ ?_
                rotate_left 2
                · go_simp
                  constructor
                  · rfl
                  · rfl
                refine hK.out _ _ ((HRF.out.below (below_alloc (below_alloc (Below.refl _ _) _) _)).at0) (fun hHeld => ?_)
                clear hK K
                refine norm_ (a' := ?_) ?_ ?_
                rotate_left
                · show Act.put _ (some 70) _ = _
                  simp only [Act.put, List.setIfInBounds_toArray, List.set_cons_zero, List.set_cons_succ, i64_w, i32_w]
                  rfl
                refine one_ (i := 8) (N := some 66) #[true, true, true, true, true, true, true, true, true, true, true, true, true, false, true, true, true, true, true, true, false, false, false, false] rfl rfl (by kernel_rfl) (by decide) (fun K hK => ?_)
                obtain ⟨b66, c66, w1, hr1, ho1, hb1, hg1, hn1_⟩ := part1 HBS.out HRF.out.row hk HRF.out.len (W := (wd.alloc (.cells #[] 35)).alloc (.cells #[.int .i64 a, .int .i64 n] 35)) (a := wd.heap.size) (below_alloc (below_alloc (Below.refl _ _) _) _) (by rw [heap_alloc_old _ _ (by simp)]; exact heap_alloc_new wd _) (Nat.le_refl _)
                refine step_append_eq rfl _ _ 32 32 rfl _ _ rfl rfl (hr1 _) ?_
                refine hK.out _ _ ((HRF.out.below (hb1)).at0) (fun hHeld => ?_)
                clear hK K
                refine norm_ (a' := ?_) ?_ ?_
                rotate_left
                · show Act.put _ (some 66) _ = _
                  simp only [Act.put, List.setIfInBounds_toArray, List.set_cons_zero, List.set_cons_succ, i64_w, i32_w]
                  rfl
                exact norm_ (by simp only [putAll, Act.put, List.setIfInBounds_toArray, List.set_cons_zero, List.set_cons_succ]) (hCont ⟨wd.heap.size, b66, c66, wd.heap.size + 1⟩ _ ⟨ho1, (by have h := hg1.block (wd.heap.size + 1) (by first | (simp; done) | (simp; omega)) (fun e => by injection e with e; omega); have h2 := heap_alloc_new (wd.alloc (.cells #[] 35)) (.cells #[.int .i64 a, .int .i64 n] 35); rw [World.size_alloc] at h2; exact h.trans h2), (by rcases hn1_ with h | h <;> (try simp at h) <;> (try simp only) <;> omega), (by rcases hn1_ with h | h <;> (try simp at h) <;> (try simp only) <;> omega), Nat.le_succ _, hb1⟩)
            · skip
              refine value_ (w1 := ?_) (v := ?_) (by rfl) rfl ?_ ?_
              rotate_left 2
              · go_simp
                constructor
                · rfl
                · rfl
              refine hK.out _ _ ((HRF.out.below (below_alloc (Below.refl _ _) _)).at0) (fun hHeld => ?_)
              clear hK K
              refine norm_ (a' := ?_) ?_ ?_
              rotate_left
              · show Act.put _ (some 70) _ = _
                simp only [Act.put, List.setIfInBounds_toArray, List.set_cons_zero, List.set_cons_succ, i64_w, i32_w]
                rfl
              refine one_ (i := 1) (N := some 59) #[true, true, true, true, true, true, true, true, false, true, true, true, true, false, true, true, true, true, true, true, false, false, false, false] rfl rfl (by kernel_rfl) (by decide) (fun K hK => ?_)
              refine value_ (w1 := ?_) (v := ?_) (by rfl) rfl ?_ ?_
              rotate_left 2
              · go_simp
                constructor
                · rfl
                · rfl
              refine hK.out _ _ ((HRF.out.below (below_alloc (below_alloc (Below.refl _ _) _) _)).at0) (fun hHeld => ?_)
              clear hK K
              refine norm_ (a' := ?_) ?_ ?_
              rotate_left
              · show Act.put _ (some 59) _ = _
                simp only [Act.put, List.setIfInBounds_toArray, List.set_cons_zero, List.set_cons_succ, i64_w, i32_w]
                rfl
              refine one_ (i := 8) (N := some 66) #[true, true, true, true, true, true, true, true, true, true, true, true, true, false, true, true, true, true, true, true, false, false, false, false] rfl rfl (by kernel_rfl) (by decide) (fun K hK => ?_)
              obtain ⟨b66, c66, w1, hr1, ho1, hb1, hg1, hn1_⟩ := part1 HBS.out HRF.out.row hk HRF.out.len (W := (wd.alloc (.cells #[.int .i64 a, .int .i64 n] 35)).alloc (.cells #[] 35)) (a := wd.heap.size + 1) (below_alloc (below_alloc (Below.refl _ _) _) _) (by have h := heap_alloc_new (wd.alloc (.cells #[.int .i64 a, .int .i64 n] 35)) (.cells #[] 35); rw [World.size_alloc] at h; exact h) (Nat.le_succ _)
              refine step_append_eq rfl _ _ 32 32 rfl _ _ rfl rfl (hr1 _) ?_
              refine hK.out _ _ ((HRF.out.below (hb1)).at0) (fun hHeld => ?_)
              clear hK K
              refine norm_ (a' := ?_) ?_ ?_
              rotate_left
              · show Act.put _ (some 66) _ = _
                simp only [Act.put, List.setIfInBounds_toArray, List.set_cons_zero, List.set_cons_succ, i64_w, i32_w]
                rfl
              exact norm_ (by simp only [putAll, Act.put, List.setIfInBounds_toArray, List.set_cons_zero, List.set_cons_succ]) (hCont ⟨wd.heap.size + 1, b66, c66, wd.heap.size⟩ _ ⟨ho1, (by have h := hg1.block wd.heap.size (by first | (simp; done) | (simp; omega)) (fun e => by injection e with e; omega); have h2 := heap_alloc_new wd (.cells #[.int .i64 a, .int .i64 n] 35); exact h.trans ((heap_alloc_old _ _ (by first | (simp; done) | (simp; omega))).trans h2)), (by rcases hn1_ with h | h <;> (try simp at h) <;> (try simp only) <;> omega), (by rcases hn1_ with h | h <;> (try simp at h) <;> (try simp only) <;> omega), Nat.le_refl _, hb1⟩)
          rintro ⟨a59, b66, c66, vb⟩ wj ⟨f1, f2, f3, f4, f5, f6⟩
          simp only at f1 f2 f3 f4 f5
          have hHeld : wj.cell? ⟨g, 0, none⟩ = some (.slice A l.length c) := (HRF.out.below f6).at0
          refine norm_ (a' := ?_) ?_ ?_
          rotate_left
          · simp only [putAll, Act.put, List.setIfInBounds_toArray, List.set_cons_zero, List.set_cons_succ]
            rfl
          refine one_ (i := 13) (N := some 71) #[true, true, true, true, true, true, true, true, true, true, true, true, true, true, true, true, true, true, true, true, false, false, false, false] rfl rfl (by kernel_rfl) (by decide) (fun K hK => ?_)
          obtain ⟨v71, w2, hr13, ho13, hg13, hat13⟩ := app_part wj base b66 k c66 1 _ _ _ f1 (srcs_one f2) (by have := f6.size; have := HBS.out; omega) (by omega)
          obtain ⟨b71, c71, rfl⟩ := own_form ho13 hat13
          have hb71 := own_block hat13
          have hb13 := below_grownB f6 f6.size hg13 (fun j hj => by injection hj with hj; omega)
          have hge71 : wd.heap.size ≤ b71 := by have := f6.size; rcases hb71 with h | h <;> omega
          refine step_append_eq rfl _ _ 32 32 rfl _ _ rfl rfl (hr13 _) ?_
          refine hK.out _ _ ((HRF.out.below (hb13)).at0) (fun hHeld => ?_)
          clear hK K
          refine norm_ (a' := ?_) ?_ ?_
          rotate_left
          · show Act.put _ (some 71) _ = _
            simp only [Act.put, List.setIfInBounds_toArray, List.set_cons_zero, List.set_cons_succ, i64_w, i32_w]
            rfl
          refine one_ (i := 20) (N := some 78) #[true, true, true, true, true, true, true, true, true, true, true, true, true, true, true, true, true, true, true, true, true, false, false, false] rfl rfl (by kernel_rfl) (by decide) (fun K hK => ?_)
          obtain ⟨v78, w3, hr20, ho20, hg20, hat20⟩ := app_part w2 base b71 (k + 1) c71 (l.length - k) _ _ _ ho13 (srcs_drop (row_below HRF.out.row hb13) hk HAB.out) (by have := hb13.size; have := HBS.out; omega) (by omega)
          rw [HL3.out, HF3.out] at ho20
          obtain ⟨b78, c78, rfl⟩ := own_form ho20 hat20
          have hb78 := own_block hat20
          have hb20 := below_grownB hb13 hb13.size hg20 (fun j hj => by injection hj with hj; omega)
          have hge78 : wd.heap.size ≤ b78 := by have := hb13.size; rcases hb78 with h | h <;> omega
          have hne78 : Row0 (some ⟨b78, 0, none⟩) ≠ some g := fun e => by injection e with e; have := HGL.out; simp at e; omega
          have HC6 := Aside0.mk (HRF.out.below hb20).cell
          have c6 := (HRF.out.below hb20).at0
          have f6_ := (HRF.out.below hb20).notFrozen
          have HN6 := Aside0.mk hne78
          have HF6 := Aside0.mk (show ∀ q, Row0 (some ⟨b78, 0, none⟩) = some q → w.heap.size ≤ q from fun q hq => by injection hq with hq; have := HB.out.size; simp at hq; omega)
          have HR6 := Aside0.mk (row_set ho20 (g := g) (by rw [own_slice]; exact hne78) 0 (.slice (some ⟨b78, 0, none⟩) l3.length c78))
          have HCH := Aside0.mk ((Chg.of_below (below_then HB.out HB.out.size hb20) g none).set 0 (.slice (some ⟨b78, 0, none⟩) l3.length c78))
          refine step_append_eq rfl _ _ 32 32 rfl _ _ rfl rfl (hr20 _) ?_
          refine hK.out _ _ (c6) (fun hHeld => ?_)
          clear hK K
          refine norm_ (a' := ?_) ?_ ?_
          rotate_left
          · show Act.put _ (some 78) _ = _
            simp only [Act.put, List.setIfInBounds_toArray, List.set_cons_zero, List.set_cons_succ, i64_w, i32_w]
            rfl
          refine pure_ (i := 21) (N := some 79) (v := ?_) (a' := ?_) #[true, true, true, true, true, true, true, true, true, true, true, true, true, true, true, true, true, true, true, true, true, true, false, false] rfl rfl (by kernel_rfl) (fun _ _ _ h => h) (Or.inl ⟨by rfl, ?_⟩) ?_ ?_
          rotate_left
          · intro w'
            go_simp
            with_reducible rfl
          rotate_left
          · simp only [Act.put, List.setIfInBounds_toArray, List.set_cons_zero, List.set_cons_succ, i64_w, i32_w]
            rfl
          refine pure_ (i := 22) (N := some 80) (v := ?_) (a' := ?_) #[true, true, true, true, true, true, true, true, true, true, true, true, true, true, true, true, true, true, true, true, true, true, true, false] rfl rfl (by kernel_rfl) (fun _ _ _ h => h) (Or.inl ⟨by rfl, ?_⟩) ?_ ?_
          rotate_left
          · intro w'
            go_simp
            with_reducible rfl
          rotate_left
          · simp only [Act.put, List.setIfInBounds_toArray, List.set_cons_zero, List.set_cons_succ, i64_w, i32_w]
            rfl
          refine last_ (i := 23) (N := none) #[true, true, true, true, true, true, true, true, true, true, true, true, true, true, true, true, true, true, true, true, true, true, true, true] rfl rfl (by kernel_rfl) (by decide) (fun K hK => ?_)
          refine skip_ (w1 := ?_) (by rfl) rfl ?_ ?_
          rotate_left
          · go_simp
            rfl
          refine hK.out _ _ ?_
          clear hK K
          refine done_ (by kernel_rfl) ?_
          go_wp2_with fail
          go_ret2
          exact ⟨some ⟨b78, 0, none⟩, c78, by rw [HR.out]; rfl, by rw [HR.out]; exact ⟨HRF.out.lo, heap_set0 HC6.out, HR6.out, HN6.out, HGO.out⟩, HCH.out, .inr HF6.out⟩
        · have hltb : decide ((k : Int) < (l.length : Int)) = true := decide_eq_true (by omega)
          have hltI : (k : Int) < (l.length : Int) := by omega
          obtain ⟨gr, rfl, e0, e1⟩ := row2_at HRF.out.row k hlt
          have hbh := HRF.out.good.all _ (List.getElem_mem hlt)
          obtain ⟨⟨r1, r2⟩, hr⟩ : ∃ r, l[k] = r := ⟨_, rfl⟩
          rw [hr] at e0 e1 hbh hst
          simp only at e0 e1 hbh hst
          have hgob : decide (r1 - a < n) = false := decide_eq_false hst
          have hck : ¬ (c = k) := by omega
          have hABv : AB = some ⟨gr, k * 2, none⟩ := by
            rw [← HAB.out, if_neg hck]; show some ((⟨gr, 0, none⟩ : Addr).add (k * 2)) = _; rw [Addr.add_lit, Nat.zero_add]
          subst hABv
          clear hr hst
          go_upto_region 10 with (fail)
          clear hgob hbh e0 e1
          refine start_ (n := 24) (S := fun w' => w'.cell? ⟨g, 0, none⟩ = some (.slice (some ⟨gr, 0, none⟩) l.length c)) (ds := [23]) #[false, false, false, false, false, false, false, false, false, false, false, false, false, false, false, false, false, false, false, false, false, false, false, false] (by kernel_rfl) rfl rfl (c0) (fun hHeld => ?_)
          have n1 := Aside0.mk (HRF.out.below (below_drew (Below.refl wr.heap.size wr)))
          have HB1 := Aside0.mk (below_drew HB.out)
          clear HRF HB c0
          generalize wr.drew = wd at *
          have HRF := n1
          have HB := HB1
          clear n1 HB1
          have HBS := Aside0.mk (Nat.le_of_lt (Nat.lt_of_le_of_lt HRF.out.lo (Array.getElem?_eq_some_iff.1 HRF.out.cell).1))
          have HGL := Aside0.mk (Array.getElem?_eq_some_iff.1 HRF.out.cell).1
          refine pure_ (i := 0) (N := some 58) (v := ?_) (a' := ?_) #[true, false, false, false, false, false, false, false, false, false, false, false, false, false, false, false, false, false, false, false, false, false, false, false] rfl rfl (by kernel_rfl) (fun _ _ _ h => h) (Or.inl ⟨by rfl, ?_⟩) ?_ ?_
          rotate_left
          · intro w'
            go_simp
            with_reducible rfl
          rotate_left
          · simp only [Act.put, List.setIfInBounds_toArray, List.set_cons_zero, List.set_cons_succ, i64_w, i32_w]
            rfl
          refine pure_ (i := 2) (N := some 60) (v := ?_) (a' := ?_) #[true, false, true, false, false, false, false, false, false, false, false, false, false, false, false, false, false, false, false, false, false, false, false, false] rfl rfl (by kernel_rfl) (fun _ _ _ h => h) (Or.inl ⟨by rfl, ?_⟩) ?_ ?_
          rotate_left
          · intro w'
            go_simp
            with_reducible rfl
          rotate_left
          · simp only [Act.put, List.setIfInBounds_toArray, List.set_cons_zero, List.set_cons_succ, i64_w, i32_w]
            rfl
          refine pure_ (i := 3) (N := some 61) (v := ?_) (a' := ?_) #[true, false, true, true, false, false, false, false, false, false, false, false, false, false, false, false, false, false, false, false, false, false, false, false] rfl rfl (by kernel_rfl) (fun _ _ _ h => h) (Or.inl ⟨by rfl, ?_⟩) ?_ ?_
          rotate_left
          · intro w'
            go_simp
            with_reducible rfl
          rotate_left
          · simp only [Act.put, List.setIfInBounds_toArray, List.set_cons_zero, List.set_cons_succ, i64_w, i32_w]
            rfl
          refine pure_ (i := 4) (N := some 62) (v := ?_) (a' := ?_) #[true, false, true, true, true, false, false, false, false, false, false, false, false, false, false, false, false, false, false, false, false, false, false, false] rfl rfl (by kernel_rfl) (fun _ _ _ h => h) (Or.inl ⟨by rfl, ?_⟩) ?_ ?_
          rotate_left
          · intro w'
            go_simp
            with_reducible rfl
          rotate_left
          · simp only [Act.put, List.setIfInBounds_toArray, List.set_cons_zero, List.set_cons_succ, i64_w, i32_w]
            rfl
          refine pure_ (i := 6) (N := some 64) (v := ?_) (a' := ?_) #[true, false, true, true, true, false, true, false, false, false, false, false, false, false, false, false, false, false, false, false, false, false, false, false] rfl rfl (by kernel_rfl) (fun _ _ _ h => h) (Or.inl ⟨by rfl, ?_⟩) ?_ ?_
          rotate_left
          · intro w'
            go_simp
            with_reducible rfl
          rotate_left
          · simp only [Act.put, List.setIfInBounds_toArray, List.set_cons_zero, List.set_cons_succ, i64_w, i32_w]
            rfl
          refine pure_ (i := 9) (N := some 67) (v := ?_) (a' := ?_) #[true, false, true, true, true, false, true, false, false, true, false, false, false, false, false, false, false, false, false, false, false, false, false, false] rfl rfl (by kernel_rfl) (fun _ _ _ h => h) (Or.inl ⟨by rfl, ?_⟩) ?_ ?_
          rotate_left
          · intro w'
            go_simp
            with_reducible rfl
          rotate_left
          · simp only [Act.put, List.setIfInBounds_toArray, List.set_cons_zero, List.set_cons_succ, i64_w, i32_w]
            rfl
          refine pure_ (i := 10) (N := some 68) (v := ?_) (a' := ?_) #[true, false, true, true, true, false, true, false, false, true, true, false, false, false, false, false, false, false, false, false, false, false, false, false] rfl rfl (by kernel_rfl) (fun _ _ _ h => h) (Or.inl ⟨by rfl, ?_⟩) ?_ ?_
          rotate_left
          · intro w'
            go_simp
            with_reducible rfl
          rotate_left
          · simp only [Act.put, List.setIfInBounds_toArray, List.set_cons_zero, List.set_cons_succ, i64_w, i32_w]
            rfl
          refine pure_ (i := 11) (N := some 69) (v := ?_) (a' := ?_) #[true, false, true, true, true, false, true, false, false, true, true, true, false, false, false, false, false, false, false, false, false, false, false, false] rfl rfl (by kernel_rfl) (fun _ _ _ h => h) (Or.inl ⟨by rfl, ?_⟩) ?_ ?_
          rotate_left
          · intro w'
            go_simp
            with_reducible rfl
          rotate_left
          · simp only [Act.put, List.setIfInBounds_toArray, List.set_cons_zero, List.set_cons_succ, i64_w, i32_w]
            rfl
          refine pure_ (i := 14) (N := some 72) (v := ?_) (a' := ?_) #[true, false, true, true, true, false, true, false, false, true, true, true, false, false, true, false, false, false, false, false, false, false, false, false] rfl rfl (by kernel_rfl) (fun _ _ _ h => h) (Or.inl ⟨by rfl, ?_⟩) ?_ ?_
          rotate_left
          · intro w'
            go_simp
            with_reducible rfl
          rotate_left
          · simp only [Act.put, List.setIfInBounds_toArray, List.set_cons_zero, List.set_cons_succ, i64_w, i32_w]
            rfl
          refine pure_ (i := 15) (N := some 73) (v := ?_) (a' := ?_) #[true, false, true, true, true, false, true, false, false, true, true, true, false, false, true, true, false, false, false, false, false, false, false, false] rfl rfl (by kernel_rfl) (fun _ _ _ h => h) (Or.inl ⟨by rfl, ?_⟩) ?_ ?_
          rotate_left
          · intro w'
            go_simp
            with_reducible rfl
          rotate_left
          · simp only [Act.put, List.setIfInBounds_toArray, List.set_cons_zero, List.set_cons_succ, i64_w, i32_w]
            rfl
          refine pure_ (i := 16) (N := some 74) (v := ?_) (a' := ?_) #[true, false, true, true, true, false, true, false, false, true, true, true, false, false, true, true, true, false, false, false, false, false, false, false] rfl rfl (by kernel_rfl) (fun _ _ _ h => h) (Or.inl ⟨by rfl, ?_⟩) ?_ ?_
          rotate_left
          · intro w'
            go_simp
            with_reducible rfl
          rotate_left
          · simp only [Act.put, List.setIfInBounds_toArray, List.set_cons_zero, List.set_cons_succ, i64_w, i32_w]
            rfl
          refine pure_ (i := 18) (N := some 76) (v := ?_) (a' := ?_) #[true, false, true, true, true, false, true, false, false, true, true, true, false, false, true, true, true, false, true, false, false, false, false, false] rfl rfl (by kernel_rfl) (fun _ _ _ h => h) (Or.inl ⟨by rfl, ?_⟩) ?_ ?_
          rotate_left
          · intro w'
            go_simp
            with_reducible rfl
          rotate_left
          · simp only [Act.put, List.setIfInBounds_toArray, List.set_cons_zero, List.set_cons_succ, i64_w, i32_w]
            rfl
          refine take_ (i := 5) (N := some 63) (v := ?_) (a' := ?_) #[true, false, true, true, true, true, true, false, false, true, true, true, false, false, true, true, true, false, true, false, false, false, false, false] rfl rfl (by kernel_rfl) (fun _ _ _ h => h) (Or.inl ⟨by rfl, ?_⟩) hHeld ?_ ?_
          rotate_left
          · intro w' s0
            go_simp
            with_reducible rfl
          rotate_left
          · simp only [Act.put, List.setIfInBounds_toArray, List.set_cons_zero, List.set_cons_succ, i64_w, i32_w]
            rfl
          refine pure_ (i := 7) (N := some 65) (v := ?_) (a' := ?_) #[true, false, true, true, true, true, true, true, false, true, true, true, false, false, true, true, true, false, true, false, false, false, false, false] rfl rfl (by kernel_rfl) (fun _ _ _ h => h) (Or.inl ⟨by rfl, ?_⟩) ?_ ?_
          rotate_left
          · intro w'
            go_simp
            with_reducible rfl
          rotate_left
          · simp only [Act.put, List.setIfInBounds_toArray, List.set_cons_zero, List.set_cons_succ, i64_w, i32_w]
            rfl
          refine take_ (i := 17) (N := some 75) (v := ?_) (a' := ?_) #[true, false, true, true, true, true, true, true, false, true, true, true, false, false, true, true, true, true, true, false, false, false, false, false] rfl rfl (by kernel_rfl) (fun _ _ _ h => h) (Or.inl ⟨by rfl, ?_⟩) hHeld ?_ ?_
          rotate_left
          · intro w' s0
            go_simp
            with_reducible rfl
          rotate_left
          · simp only [Act.put, List.setIfInBounds_toArray, List.set_cons_zero, List.set_cons_succ, i64_w, i32_w]
            rfl
          refine pure_ (i := 19) (N := some 77) (v := ?_) (a' := ?_) #[true, false, true, true, true, true, true, true, false, true, true, true, false, false, true, true, true, true, true, true, false, false, false, false] rfl rfl (by kernel_rfl) (fun _ _ _ h => h) (Or.inl ⟨by rfl, ?_⟩) ?_ ?_
          rotate_left
          · intro w'
            go_simp
            with_reducible rfl
          rotate_left
          · simp only [Act.put, List.setIfInBounds_toArray, List.set_cons_zero, List.set_cons_succ, i64_w, i32_w]
            rfl
          refine join_ (σ := Nat × Nat × Nat × Nat) 5 #[true, true, true, true, true, true, true, true, true, true, true, true, true, false, true, true, true, true, true, true, false, false, false, false] (fun s => [(59, .slice (some ⟨s.1, 0, none⟩) 0 0), (66, .slice (some ⟨s.2.1, 0, none⟩) k s.2.2.1), (70, .slice (some ⟨s.2.2.2, 0, none⟩) 1 1)]) (fun s w_ => w_.ownsRow base 35 2 (.slice (some ⟨s.2.1, 0, none⟩) k s.2.2.1) k (flat2 (l.take k)) ∧ w_.heap[s.2.2.2]? = some (.cells #[.int .i64 a, .int .i64 n] 35 (0, 0)) ∧ s.2.1 ≠ s.2.2.2 ∧ wd.heap.size ≤ s.2.1 ∧ wd.heap.size ≤ s.2.2.2 ∧ Below wd.heap.size wd w_) ?_ ?_
          rotate_left
          · intro hCont
            refine two_ (i := 1) (j := 12) (Ni := some 59) (Nj := some 70) #[true, true, true, true, true, true, true, true, false, true, true, true, false, false, true, true, true, true, true, true, false, false, false, false] #[true, false, true, true, true, true, true, true, false, true, true, true, true, false, true, true, true, true, true, true, false, false, false, false] rfl rfl rfl rfl (by kernel_rfl) (by decide) (by decide) (fun K hK => ?_) (fun K hK => ?_)
            · skip
              refine value_ (w1 := ?_) (v := ?_) (by rfl) rfl ?_ ?_
              rotate_left 2
              · go_simp
                constructor
                · rfl
                · rfl
              refine hK.out _ _ ((HRF.out.below (below_alloc (Below.refl _ _) _)).at0) (fun hHeld => ?_)
              clear hK K
              refine norm_ (a' := ?_) ?_ ?_
              rotate_left
              · show Act.put _ (some 59) _ = _
                simp only [Act.put, List.setIfInBounds_toArray, List.set_cons_zero, List.set_cons_succ, i64_w, i32_w]
                rfl
              refine two_ (i := 8) (j := 12) (Ni := some 66) (Nj := some 70) #[true, true, true, true, true, true, true, true, true, true, true, true, false, false, true, true, true, true, true, true, false, false, false, false] #[true, true, true, true, true, true, true, true, false, true, true, true, true, false, true, true, true, true, true, true, false, false, false, false] rfl rfl rfl rfl (by kernel_rfl) (by decide) (by decide) (fun K hK => ?_) (fun K hK => ?_)
              · skip
                obtain ⟨b66, c66, w1, hr1, ho1, hb1, hg1, hn1_⟩ := part1 HBS.out HRF.out.row hk HRF.out.len (W := wd.alloc (.cells #[] 35)) (a := wd.heap.size) (below_alloc (Below.refl _ _) _) (heap_alloc_new wd _) (Nat.le_refl _)
                refine step_append_eq rfl _ _ 32 32 rfl _ _ rfl rfl (hr1 _) ?_
                refine hK.out _ _ ((HRF.out.below (hb1)).at0) (fun hHeld => ?_)
                clear hK K
                refine norm_ (a' := ?_) ?_ ?_
                rotate_left
                · show Act.put _ (some 66) _ = _
                  simp only [Act.put, List.setIfInBounds_toArray, List.set_cons_zero, List.set_cons_succ, i64_w, i32_w]
                  rfl
                refine one_ (i := 12) (N := some 70) #[true, true, true, true, true, true, true, true, true, true, true, true, true, false, true, true, true, true, true, true, false, false, false, false] rfl rfl (by kernel_rfl) (by decide) (fun K hK => ?_)
                refine value_ (w1 := ?_) (v := ?_) (by rfl) rfl ?_ ?_
                rotate_left 2
                · go_simp
                  constructor
                  · rfl
                  · rfl
                refine hK.out _ _ ((HRF.out.below (below_then hb1 hb1.size (below_alloc (Below.refl _ _) _))).at0) (fun hHeld => ?_)
                clear hK K
                refine norm_ (a' := ?_) ?_ ?_
                rotate_left
                · show Act.put _ (some 70) _ = _
                  simp only [Act.put, List.setIfInBounds_toArray, List.set_cons_zero, List.set_cons_succ, i64_w, i32_w]
                  rfl
                exact norm_ (by simp only [putAll, Act.put, List.setIfInBounds_toArray, List.set_cons_zero, List.set_cons_succ]) (hCont ⟨wd.heap.size, b66, c66, w1.heap.size⟩ _ ⟨row_below ho1 (below_alloc (Below.refl _ _) _), heap_alloc_new w1 _, Nat.ne_of_lt (ho1.lt b66 rfl).2, (by rcases hn1_ with h | h <;> (try simp at h) <;> (try simp only) <;> omega), hb1.size, below_then hb1 hb1.size (below_alloc (Below.refl _ _) _)⟩)
              · skip
                refine value_ (w1 := ?_) (v := ?_) (by rfl) rfl ?_ ?_
                rotate_left 2
                · go_simp
                  constructor
                  · rfl
                  · rfl
                refine hK.out _ _ ((HRF.out.below (below_alloc (below_alloc (Below.refl _ _) _) _)).at0) (fun hHeld => ?_)
                clear hK K
                refine norm_ (a' := ?_) ?_ ?_
                rotate_left
                · show Act.put _ (some 70) _ = _
                  simp only [Act.put, List.setIfInBounds_toArray, List.set_cons_zero, List.set_cons_succ, i64_w, i32_w]
                  rfl
                refine one_ (i := 8) (N := some 66) #[true, true, true, true, true, true, true, true, true, true, true, true, true, false, true, true, true, true, true, true, false, false, false, false] rfl rfl (by kernel_rfl) (by decide) (fun K hK => ?_)
                obtain ⟨b66, c66, w1, hr1, ho1, hb1, hg1, hn1_⟩ := part1 HBS.out HRF.out.row hk HRF.out.len (W := (wd.alloc (.cells #[] 35)).alloc (.cells #[.int .i64 a, .int .i64 n] 35)) (a := wd.heap.size) (below_alloc (below_alloc (Below.refl _ _) _) _) (by rw [heap_alloc_old _ _ (by simp)]; exact heap_alloc_new wd _) (Nat.le_refl _)
                refine step_append_eq rfl _ _ 32 32 rfl _ _ rfl rfl (hr1 _) ?_
                refine hK.out _ _ ((HRF.out.below (hb1)).at0) (fun hHeld => ?_)
                clear hK K
                refine norm_ (a' := ?_) ?_ ?_
                rotate_left
                · show Act.put _ (some 66) _ = _
                  simp only [Act.put, List.setIfInBounds_toArray, List.set_cons_zero, List.set_cons_succ, i64_w, i32_w]
                  rfl
                exact norm_ (by simp only [putAll, Act.put, List.setIfInBounds_toArray, List.set_cons_zero, List.set_cons_succ]) (hCont ⟨wd.heap.size, b66, c66, wd.heap.size + 1⟩ _ ⟨ho1, (by have h := hg1.block (wd.heap.size + 1) (by first | (simp; done) | (simp; omega)) (fun e => by injection e with e; omega); have h2 := heap_alloc_new (wd.alloc (.cells #[] 35)) (.cells #[.int .i64 a, .int .i64 n] 35); rw [World.size_alloc] at h2; exact h.trans h2), (by rcases hn1_ with h | h <;> (try simp at h) <;> (try simp only) <;> omega), (by rcases hn1_ with h | h <;> (try simp at h) <;> (try simp only) <;> omega), Nat.le_succ _, hb1⟩)
            · skip
              refine value_ (w1 := ?_) (v := ?_) (by rfl) rfl ?_ ?_
              rotate_left 2
              · go_simp
                constructor
                · rfl
                · rfl
              refine hK.out _ _ ((HRF.out.below (below_alloc (Below.refl _ _) _)).at0) (fun hHeld => ?_)
              clear hK K
              refine norm_ (a' := ?_) ?_ ?_
              rotate_left
              · show Act.put _ (some 70) _ = _
                simp only [Act.put, List.setIfInBounds_toArray, List.set_cons_zero, List.set_cons_succ, i64_w, i32_w]
                rfl
              refine one_ (i := 1) (N := some 59) #[true, true, true, true, true, true, true, true, false, true, true, true, true, false, true, true, true, true, true, true, false, false, false, false] rfl rfl (by kernel_rfl) (by decide) (fun K hK => ?_)
              refine value_ (w1 := ?_) (v := ?_) (by rfl) rfl ?_ ?_
              rotate_left 2
              · go_simp
                constructor
                · rfl
                · rfl
              refine hK.out _ _ ((HRF.out.below (below_alloc (below_alloc (Below.refl _ _) _) _)).at0) (fun hHeld => ?_)
              clear hK K
              refine norm_ (a' := ?_) ?_ ?_
              rotate_left
              · show Act.put _ (some 59) _ = _
                simp only [Act.put, List.setIfInBounds_toArray, List.set_cons_zero, List.set_cons_succ, i64_w, i32_w]
                rfl
              refine one_ (i := 8) (N := some 66) #[true, true, true, true, true, true, true, true, true, true, true, true, true, false, true, true, true, true, true, true, false, false, false, false] rfl rfl (by kernel_rfl) (by decide) (fun K hK => ?_)
              obtain ⟨b66, c66, w1, hr1, ho1, hb1, hg1, hn1_⟩ := part1 HBS.out HRF.out.row hk HRF.out.len (W := (wd.alloc (.cells #[.int .i64 a, .int .i64 n] 35)).alloc (.cells #[] 35)) (a := wd.heap.size + 1) (below_alloc (below_alloc (Below.refl _ _) _) _) (by have h := heap_alloc_new (wd.alloc (.cells #[.int .i64 a, .int .i64 n] 35)) (.cells #[] 35); rw [World.size_alloc] at h; exact h) (Nat.le_succ _)
              refine step_append_eq rfl _ _ 32 32 rfl _ _ rfl rfl (hr1 _) ?_
              refine hK.out _ _ ((HRF.out.below (hb1)).at0) (fun hHeld => ?_)
              clear hK K
              refine norm_ (a' := ?_) ?_ ?_
              rotate_left
              · show Act.put _ (some 66) _ = _
                simp only [Act.put, List.setIfInBounds_toArray, List.set_cons_zero, List.set_cons_succ, i64_w, i32_w]
                rfl
              exact norm_ (by simp only [putAll, Act.put, List.setIfInBounds_toArray, List.set_cons_zero, List.set_cons_succ]) (hCont ⟨wd.heap.size + 1, b66, c66, wd.heap.size⟩ _ ⟨ho1, (by have h := hg1.block wd.heap.size (by first | (simp; done) | (simp; omega)) (fun e => by injection e with e; omega); have h2 := heap_alloc_new wd (.cells #[.int .i64 a, .int .i64 n] 35); exact h.trans ((heap_alloc_old _ _ (by first | (simp; done) | (simp; omega))).trans h2)), (by rcases hn1_ with h | h <;> (try simp at h) <;> (try simp only) <;> omega), (by rcases hn1_ with h | h <;> (try simp at h) <;> (try simp only) <;> omega), Nat.le_refl _, hb1⟩)
          rintro ⟨a59, b66, c66, vb⟩ wj ⟨f1, f2, f3, f4, f5, f6⟩
          simp only at f1 f2 f3 f4 f5
          have hHeld : wj.cell? ⟨g, 0, none⟩ = some (.slice (some ⟨gr, 0, none⟩) l.length c) := (HRF.out.below f6).at0
          refine norm_ (a' := ?_) ?_ ?_
          rotate_left
          · simp only [putAll, Act.put, List.setIfInBounds_toArray, List.set_cons_zero, List.set_cons_succ]
            rfl
          refine one_ (i := 13) (N := some 71) #[true, true, true, true, true, true, true, true, true, true, true, true, true, true, true, true, true, true, true, true, false, false, false, false] rfl rfl (by kernel_rfl) (by decide) (fun K hK => ?_)
          obtain ⟨v71, w2, hr13, ho13, hg13, hat13⟩ := app_part wj base b66 k c66 1 _ _ _ f1 (srcs_one f2) (by have := f6.size; have := HBS.out; omega) (by omega)
          obtain ⟨b71, c71, rfl⟩ := own_form ho13 hat13
          have hb71 := own_block hat13
          have hb13 := below_grownB f6 f6.size hg13 (fun j hj => by injection hj with hj; omega)
          have hge71 : wd.heap.size ≤ b71 := by have := f6.size; rcases hb71 with h | h <;> omega
          refine step_append_eq rfl _ _ 32 32 rfl _ _ rfl rfl (hr13 _) ?_
          refine hK.out _ _ ((HRF.out.below (hb13)).at0) (fun hHeld => ?_)
          clear hK K
          refine norm_ (a' := ?_) ?_ ?_
          rotate_left
          · show Act.put _ (some 71) _ = _
            simp only [Act.put, List.setIfInBounds_toArray, List.set_cons_zero, List.set_cons_succ, i64_w, i32_w]
            rfl
          refine one_ (i := 20) (N := some 78) #[true, true, true, true, true, true, true, true, true, true, true, true, true, true, true, true, true, true, true, true, true, false, false, false] rfl rfl (by kernel_rfl) (by decide) (fun K hK => ?_)
          obtain ⟨v78, w3, hr20, ho20, hg20, hat20⟩ := app_part w2 base b71 (k + 1) c71 (l.length - k) _ _ _ ho13 (srcs_drop (row_below HRF.out.row hb13) hk HAB.out) (by have := hb13.size; have := HBS.out; omega) (by omega)
          rw [HL3.out, HF3.out] at ho20
          obtain ⟨b78, c78, rfl⟩ := own_form ho20 hat20
          have hb78 := own_block hat20
          have hb20 := below_grownB hb13 hb13.size hg20 (fun j hj => by injection hj with hj; omega)
          have hge78 : wd.heap.size ≤ b78 := by have := hb13.size; rcases hb78 with h | h <;> omega
          have hne78 : Row0 (some ⟨b78, 0, none⟩) ≠ some g := fun e => by injection e with e; have := HGL.out; simp at e; omega
          have HC6 := Aside0.mk (HRF.out.below hb20).cell
          have c6 := (HRF.out.below hb20).at0
          have f6_ := (HRF.out.below hb20).notFrozen
          have HN6 := Aside0.mk hne78
          have HF6 := Aside0.mk (show ∀ q, Row0 (some ⟨b78, 0, none⟩) = some q → w.heap.size ≤ q from fun q hq => by injection hq with hq; have := HB.out.size; simp at hq; omega)
          have HR6 := Aside0.mk (row_set ho20 (g := g) (by rw [own_slice]; exact hne78) 0 (.slice (some ⟨b78, 0, none⟩) l3.length c78))
          have HCH := Aside0.mk ((Chg.of_below (below_then HB.out HB.out.size hb20) g none).set 0 (.slice (some ⟨b78, 0, none⟩) l3.length c78))
          refine step_append_eq rfl _ _ 32 32 rfl _ _ rfl rfl (hr20 _) ?_
          refine hK.out _ _ (c6) (fun hHeld => ?_)
          clear hK K
          refine norm_ (a' := ?_) ?_ ?_
          rotate_left
          · show Act.put _ (some 78) _ = _
            simp only [Act.put, List.setIfInBounds_toArray, List.set_cons_zero, List.set_cons_succ, i64_w, i32_w]
            rfl
          refine pure_ (i := 21) (N := some 79) (v := ?_) (a' := ?_) #[true, true, true, true, true, true, true, true, true, true, true, true, true, true, true, true, true, true, true, true, true, true, false, false] rfl rfl (by kernel_rfl) (fun _ _ _ h => h) (Or.inl ⟨by rfl, ?_⟩) ?_ ?_
          rotate_left
          · intro w'
            go_simp
            with_reducible rfl
          rotate_left
          · simp only [Act.put, List.setIfInBounds_toArray, List.set_cons_zero, List.set_cons_succ, i64_w, i32_w]
            rfl
          refine pure_ (i := 22) (N := some 80) (v := ?_) (a' := ?_) #[true, true, true, true, true, true, true, true, true, true, true, true, true, true, true, true, true, true, true, true, true, true, true, false] rfl rfl (by kernel_rfl) (fun _ _ _ h => h) (Or.inl ⟨by rfl, ?_⟩) ?_ ?_
          rotate_left
          · intro w'
            go_simp
            with_reducible rfl
          rotate_left
          · simp only [Act.put, List.setIfInBounds_toArray, List.set_cons_zero, List.set_cons_succ, i64_w, i32_w]
            rfl
          refine last_ (i := 23) (N := none) #[true, true, true, true, true, true, true, true, true, true, true, true, true, true, true, true, true, true, true, true, true, true, true, true] rfl rfl (by kernel_rfl) (by decide) (fun K hK => ?_)
          refine skip_ (w1 := ?_) (by rfl) rfl ?_ ?_
          rotate_left
          · go_simp
            rfl
          refine hK.out _ _ ?_
          clear hK K
          refine done_ (by kernel_rfl) ?_
          go_wp2_with fail
          go_ret2
          exact ⟨some ⟨b78, 0, none⟩, c78, by rw [HR.out]; rfl, by rw [HR.out]; exact ⟨HRF.out.lo, heap_set0 HC6.out, HR6.out, HN6.out, HGO.out⟩, HCH.out, .inr HF6.out⟩
end Go.Proofs.Ytpnmbdhjmlidaaa.T
