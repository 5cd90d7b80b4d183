/- Grids held against each other; topo.matrix. topo.matrix: what it comes to. -/
import Derived.Test.YtenkdmloolbdaaaGreatDoorV29
section
namespace Go.Proofs.YtenkdmloolbdaaaGreatDoor.TZ
open Go.RowKit Go.Proofs.YtenkdmloolbdaaaGreatDoorW.PrintWords Go.Proofs.YtenkdmloolbdaaaGreatDoorW.PrintLast Go.Proofs.YtenkdmloolbdaaaGreatDoorW.PrintMore Go.Proofs.YtenkdmloolbdaaaGreatDoor.PH
set_option linter.unusedVariables false
set_option linter.unusedSimpArgs false
theorem rd_at (xs : List Int) (i : Nat) (h : i < xs.length) : rd xs (i : Int) = xs[i] := by
  unfold rd
  rw [Int.toNat_natCast, List.getD_eq_getElem?_getD, List.getElem?_eq_getElem h]; rfl
theorem equal_l0 (xs ys : List Int) (hl : xs.length = ys.length) (h64 : xs.length ≤ 1000) : ∀ (d i k : Nat), xs.length - i = d → i ≤ xs.length → d + 1 ≤ k → slices_Equal_int_int.l0 k xs ys (xs.length : Int) (i : Int) = some (decide (xs.drop i = ys.drop i)) := by
  intro d
  induction d with
  | zero =>
    intro i k hd hi hk
    obtain rfl : i = xs.length := by omega
    obtain ⟨q, rfl⟩ : ∃ q, k = q + 1 := ⟨k - 1, by omega⟩
    rw [slices_Equal_int_int.l0, if_neg (by omega), List.drop_length, hl, List.drop_length]
    simp
  | succ d ih =>
    intro i k hd hi hk
    obtain ⟨q, rfl⟩ : ∃ q, k = q + 1 := ⟨k - 1, by omega⟩
    have h1 : i < xs.length := by omega
    have h2 : i < ys.length := by omega
    have e := ih (i + 1) q (by omega) (by omega) (by omega)
    rw [List.drop_eq_getElem_cons h1, List.drop_eq_getElem_cons h2]
    rw [slices_Equal_int_int.l0, if_pos (by omega)]
    have hw : wrap64 ((i : Int) + 1) = ((i + 1 : Nat) : Int) := by rw [wrap_s _ (by omega) (by omega)]; omega
    rw [if_pos (by omega), if_pos (by omega), if_pos (by omega), rd_at xs i h1, rd_at ys i h2, hw, e]
    by_cases h : xs[i] = ys[i]
    · rw [if_pos h, h]
      congr 1
      rw [decide_eq_decide]
      exact ⟨fun e => by rw [e], fun e => (List.cons.inj e).2⟩
    · rw [if_neg h]
      congr 1
      exact (decide_eq_false (fun e => h (List.cons.inj e).1)).symm
theorem equal_f (xs ys : List Int) (h64 : xs.length ≤ 1000) : slices_Equal_int_int.f (xs.length + 1) xs ys = some (decide (xs = ys)) := by
  unfold slices_Equal_int_int.f
  by_cases hl : xs.length = ys.length
  · rw [if_pos (by omega)]
    have := equal_l0 xs ys hl h64 xs.length 0 (xs.length + 1) rfl (Nat.zero_le _) (Nat.le_refl _)
    exact this
  · rw [if_neg (by omega), decide_eq_false (fun e => hl (by rw [e]))]
theorem Gr.reads {w : World} {base g h n m : Nat} {xs : List Int} (H : Gr w base g h n m xs) (h64 : xs.length ≤ 1000) : Kd.C (Kd.int .i64) w (some ⟨h, 0, none⟩) xs.length xs := by
  refine Kd.C_of_reads (d := (0 : Int)) (h1 := fun _ => rfl) ⟨rfl, by omega, fun _ => ⟨_, rfl, fun j hj => ?_⟩⟩
  rw [Addr.add_lit, Nat.zero_add]
  refine H.at_ j _ ?_
  rw [List.getD_eq_getElem?_getD, List.getElem?_eq_getElem hj]; rfl
set_option maxHeartbeats 2000000 in
set_option maxRecDepth 100000 in
theorem same_own (base g h b2 g2 h2 n : Nat) (h8 : n ≤ 8) (xs ys : List Int) (w : World) (H : Gr w base g h n n xs) (H2 : Gr w b2 g2 h2 n n ys) (b : Bool) (hb : decide (xs = ys) = b) :
    Calls Tryz.prog 181 #[.pointer (some ⟨g, 0, none⟩), .pointer (some ⟨g2, 0, none⟩)] w fun e w' => e = .returned (.bool b) ∧ Drawn0 w w' := by
  have hl : xs.length ≤ 1000 := by rw [H.len]; have : n * n ≤ 8 * 8 := Nat.mul_le_mul h8 h8; omega
  have hl2 : ys.length ≤ 1000 := by rw [H2.len]; have : n * n ≤ 8 * 8 := Nat.mul_le_mul h8 h8; omega
  have HE := Aside0.mk (show ∀ W : World, Kd.C (Kd.int .i64) W (some ⟨h, 0, none⟩) xs.length xs → Kd.C (Kd.int .i64) W (some ⟨h2, 0, none⟩) ys.length ys → Calls Tryz.prog 215 #[.slice (some ⟨h, 0, none⟩) xs.length xs.length, .slice (some ⟨h2, 0, none⟩) ys.length ys.length] W fun e w' => e = .returned (.bool b) ∧ Drawn0 W w' from fun W hx hy => slices_Equal_int_int.calls (xs.length + 1) _ _ xs _ _ ys b W hx (Nat.le_refl _) hy (Nat.le_refl _) (by rw [equal_f xs ys hl, hb]))
  have HX := Aside0.mk (H.reads hl)
  have HY := Aside0.mk (H2.reads hl2)
  have c0 := H.c0
  have c1 := H.c1
  have c2 := H.c2
  have d0 := H2.c0
  have d1 := H2.c1
  have d2 := H2.c2
  have hnn : ((n : Int) == (n : Int)) = true := by simp
  clear H H2 hb
  go_enter Tryz.func181, Tryz.ntmps181
  go_wp2_with fail
  go_quiet ((go_at_call 215; (with_reducible refine (HE.out _ (Kd.C_drewN HX.out _) (Kd.C_drewN HY.out _)).mono ?_); rintro e_ w2 ⟨rfl, ⟨nd, rfl⟩⟩; (try first | exact ⟨rfl, _, World.drewN_drewN _ _ _⟩ | exact ⟨rfl, _, Eq.trans (World.drewN_drewN _ _ _) (congrArg (World.drewN _) (Nat.add_assoc _ _ _))⟩)))
  go_wp2_with fail
  go_ret
  exact ⟨rfl, _, rfl⟩
end Go.Proofs.YtenkdmloolbdaaaGreatDoor.TZ
end
section
namespace Go.Proofs.YtenkdmloolbdaaaGreatDoor.TZ
open Go.RowKit Go.Proofs.YtenkdmloolbdaaaGreatDoorW.PrintWords Go.Proofs.YtenkdmloolbdaaaGreatDoorW.PrintLast Go.Proofs.YtenkdmloolbdaaaGreatDoorW.PrintMore Go.Proofs.YtenkdmloolbdaaaGreatDoor.PH
set_option linter.unusedVariables false
set_option linter.unusedSimpArgs false
theorem pt_get (n : Nat) (dist : List (List Int)) (q : Nat) (hq : q < n * n) : (pt n dist (n * n)).getD q 0 = dd dist (q / n) (q % n) := by
  unfold pt
  rw [List.getD_eq_getElem?_getD, List.getElem?_map, List.getElem?_range hq]
  simp only [Option.map_some, Option.getD_some]
  rw [if_pos hq]
theorem qt_get (n : Nat) (xs : List Int) (m q : Nat) (hq : q < n * n) : (qt n xs m).getD q 0 = if q % n * n + q / n < m then xs.getD (q % n * n + q / n) 0 else 0 := by
  unfold qt
  rw [List.getD_eq_getElem?_getD, List.getElem?_map, List.getElem?_range hq]
  rfl
theorem ext_getD {l m : List Int} (hl : l.length = m.length) (h : ∀ q, q < l.length → l.getD q 0 = m.getD q 0) : l = m := by
  apply List.ext_getElem hl
  intro q h1 h2
  have := h q h1
  rw [List.getD_eq_getElem?_getD, List.getD_eq_getElem?_getD, List.getElem?_eq_getElem h1, List.getElem?_eq_getElem h2] at this
  exact this
/-- A table is the same turned just where the distances are the same both ways. -/
theorem turn_iff (n : Nat) (hn : 1 ≤ n) (dist : List (List Int)) : (pt n dist (n * n) = qt n (pt n dist (n * n)) (n * n)) ↔ ∀ a, a < n → ∀ b, b < n → dd dist a b = dd dist b a := by
  have key : ∀ q, q < n * n → (qt n (pt n dist (n * n)) (n * n)).getD q 0 = dd dist (q % n) (q / n) := by
    intro q hq
    obtain ⟨hp, _⟩ := place n q hn hq
    have h4 : q % n < n := Nat.mod_lt _ hn
    have h5 : q / n < n := Nat.div_lt_of_lt_mul hq
    have hd : (q % n * n + q / n) / n = q % n := by rw [Nat.mul_comm, Nat.mul_add_div (by omega), Nat.div_eq_of_lt h5]; rfl
    have hm : (q % n * n + q / n) % n = q / n := by rw [Nat.mul_comm, Nat.mul_add_mod, Nat.mod_eq_of_lt h5]
    rw [qt_get n _ _ q hq, if_pos hp, pt_get n dist _ hp, hd, hm]
  constructor
  · intro h a ha b hb
    have hlt : a * n + b < n * n := by
      have : a * n + n ≤ n * n := by rw [← Nat.succ_mul]; exact Nat.mul_le_mul_right n ha
      omega
    have hd : (a * n + b) / n = a := by rw [Nat.mul_comm, Nat.mul_add_div (by omega), Nat.div_eq_of_lt hb]; rfl
    have hm : (a * n + b) % n = b := by rw [Nat.mul_comm, Nat.mul_add_mod, Nat.mod_eq_of_lt hb]
    have e1 := pt_get n dist _ hlt
    have e2 := key _ hlt
    rw [hd, hm] at e1 e2
    rw [← e1, ← e2, ← h]
  · intro h
    apply ext_getD
    · rw [pt_len, qt_len]
    · intro q hq
      rw [pt_len] at hq
      rw [pt_get n dist q hq, key q hq]
      exact h _ (Nat.div_lt_of_lt_mul hq) _ (Nat.mod_lt _ hn)
/-- A distance that may be. -/
def fit (dist : List (List Int)) (a b : Nat) : Prop := if a = b then dd dist a b = 10 else 11 ≤ dd dist a b ∧ dd dist a b ≤ 255
theorem mt_no_lens (n : Nat) (dist : List (List Int)) (h : lensB n dist = false) : mtB n dist = false := by unfold mtB; rw [h, Bool.false_and]
theorem mt_no (n : Nat) (dist : List (List Int)) (a b : Nat) (ha : a < n) (hb : b < n) (h : ¬ (dd dist a b = dd dist b a ∧ fit dist a b)) : mtB n dist = false := by
  unfold mtB
  rw [Bool.and_eq_false_iff]
  right
  rw [List.all_eq_false]
  refine ⟨a, List.mem_range.2 ha, ?_⟩
  rw [Bool.not_eq_true, List.all_eq_false]
  refine ⟨b, List.mem_range.2 hb, ?_⟩
  intro e
  apply h
  unfold okAt at e
  rw [Bool.and_eq_true] at e
  refine ⟨of_decide_eq_true e.1, ?_⟩
  unfold fit
  by_cases hab : a = b
  · rw [if_pos hab] at e ⊢; exact of_decide_eq_true e.2
  · rw [if_neg hab] at e ⊢
    rw [Bool.and_eq_true] at e
    exact ⟨of_decide_eq_true e.2.1, of_decide_eq_true e.2.2⟩
theorem mt_yes (n : Nat) (dist : List (List Int)) (hl : lensB n dist = true) (h : ∀ a, a < n → ∀ b, b < n → dd dist a b = dd dist b a ∧ fit dist a b) : mtB n dist = true := by
  unfold mtB
  rw [hl, Bool.true_and, List.all_eq_true]
  intro a ha
  rw [List.all_eq_true]
  intro b hb
  obtain ⟨h1, h2⟩ := h a (List.mem_range.1 ha) b (List.mem_range.1 hb)
  unfold okAt
  unfold fit at h2
  rw [decide_eq_true h1, Bool.true_and]
  by_cases hab : a = b
  · rw [if_pos hab] at h2 ⊢; exact decide_eq_true h2
  · rw [if_neg hab] at h2 ⊢
    rw [decide_eq_true h2.1, decide_eq_true h2.2]; rfl
theorem lens_at {n : Nat} {dist : List (List Int)} (h : lensB n dist = true) : dist.length = n ∧ ∀ a, a < n → (dist.getD a []).length = n := by
  unfold lensB at h
  rw [Bool.and_eq_true, List.all_eq_true] at h
  exact ⟨of_decide_eq_true h.1, fun a ha => of_decide_eq_true (h.2 a (List.mem_range.2 ha))⟩
def RelM (w : World) (n : Nat) (f : Int) (A : Option Addr) (la ca : Nat) (B : Option Addr) (lb cb : Nat) (dist : List (List Int)) (v22 : Value) (wr : World) : Prop :=
  ∃ i : Nat, v22 = .int .i64 i ∧ i ≤ n ∧ (∀ a, a < i → ∀ b, b < n → fit dist a b) ∧ Box wr w.heap.size n f A la ca B lb cb ∧ Below w.heap.size w wr
def RelMI (w : World) (n : Nat) (f : Int) (A : Option Addr) (la ca : Nat) (B : Option Addr) (lb cb : Nat) (dist : List (List Int)) (i : Nat) (v29 : Value) (wr : World) : Prop :=
  ∃ j : Nat, v29 = .int .i64 j ∧ j ≤ n ∧ (∀ b, b < j → fit dist i b) ∧ Box wr w.heap.size n f A la ca B lb cb ∧ Below w.heap.size w wr
set_option maxHeartbeats 4000000 in
set_option maxRecDepth 100000 in
theorem matrix_own (n : Nat) (h1 : 1 ≤ n) (h8 : n ≤ 8) (f : Int) (A : Option Addr) (la ca : Nat) (B : Option Addr) (cb : Nat) (dist : List (List Int)) (w : World) (hr3 : Kd.C (Kd.slice 3 (Kd.int .i64)) w B dist.length dist) (hcb : dist.length ≤ cb) :
    Calls Tryz.prog 136 #[.agg #[.int .i64 n, .int .i64 f, .slice A la ca, .slice B dist.length cb]] w fun e w' => e = .returned (.bool (mtB n dist)) ∧ Below w.heap.size w w' := by
  have HR3 := Aside0.mk hr3
  clear hr3
  rcases Bool.eq_false_or_eq_true (lensB n dist) with hL | hL
  · have HL := Aside0.mk hL
    have hq2 : ((n : Int) == (n : Int)) = true := by simp
    obtain ⟨hdl, hrl⟩ := lens_at hL
    have HDL := Aside0.mk hdl
    have HRL := Aside0.mk hrl
    clear hL hrl hdl
    obtain ⟨sy, hsy⟩ : ∃ sy, decide (pt n dist (n * n) = qt n (pt n dist (n * n)) (n * n)) = sy := ⟨_, rfl⟩
    have HSY := Aside0.mk hsy
    clear hsy
    go_enter Tryz.func136, Tryz.ntmps136
    go_upto_region 2 with (go_at_call 180; (with_reducible refine (table_own n h1 h8 f A la ca B cb dist _ (Kd.C_alloc HR3.out _) hcb).mono ?_); rintro e_ w2 ⟨hb, _, ht_⟩; obtain ⟨g, h, rfl, hg⟩ := ht_ HL.out; have HG := Aside0.mk hg; have HX := Aside0.mk ((Box.new w n f A la ca B dist.length cb).below hb); have HB := Aside0.mk (below_then (below_alloc (Below.refl w.heap.size w) _) (by simp) hb); clear hg hb ht_)
    cases sy with
    | false =>
      have HM := Aside0.mk (show mtB n dist = false by
        have hns : ¬ ∀ a, a < n → ∀ b, b < n → dd dist a b = dd dist b a := fun hh => (of_decide_eq_false HSY.out) ((turn_iff n h1 dist).2 hh)
        rcases Bool.eq_false_or_eq_true (mtB n dist) with hm | hm
        · exfalso
          apply hns
          intro a ha b hb
          by_cases hh : dd dist a b = dd dist b a
          · exact hh
          · have := mt_no n dist a b ha hb (fun hc => hh hc.1)
            rw [this] at hm; cases hm
        · exact hm)
      go_wp2_with (first
        | (go_at_call 182; (with_reducible refine (turned_own _ g h n h1 h8 _ _ HG.out).mono ?_); rintro e_ w3 ⟨g2, h2, rfl, hg2, hb3⟩; have HG3 := Aside0.mk (HG.out.below hb3); have HG2 := Aside0.mk hg2; have HB3 := Aside0.mk (below_then HB.out HB.out.size hb3); clear hg2 hb3)
        | (go_at_call 181; (with_reducible refine (same_own _ g h _ g2 h2 n h8 _ _ _ HG3.out HG2.out false HSY.out).mono ?_); rintro e_ w4 ⟨rfl, ⟨nd, rfl⟩⟩))
      go_ret
      exact ⟨by rw [HM.out]; rfl, pw_below_drewN HB3.out _⟩
    | true =>
      have HSYM := Aside0.mk ((turn_iff n h1 dist).1 (of_decide_eq_true HSY.out))
      go_upto_region 4 with (first
        | (go_at_call 182; (with_reducible refine (turned_own _ g h n h1 h8 _ _ HG.out).mono ?_); rintro e_ w3 ⟨g2, h2, rfl, hg2, hb3⟩; have HG3 := Aside0.mk (HG.out.below hb3); have HG2 := Aside0.mk hg2; have HB3 := Aside0.mk (below_then HB.out HB.out.size hb3); have HX3 := Aside0.mk (HX.out.below hb3); clear hg2 hb3)
        | (go_at_call 181; (with_reducible refine (same_own _ g h _ g2 h2 n h8 _ _ _ HG3.out HG2.out true HSY.out).mono ?_); rintro e_ w4 ⟨rfl, ⟨nd, rfl⟩⟩))
      have HXd := Aside0.mk (HX3.out.below (pw_below_drewN (Below.refl _ _) nd))
      have HBd := Aside0.mk (pw_below_drewN HB3.out nd)
      clear HX3 HB3 HX HB HG HG3 HG2 HSY
      generalize w3.drewN nd = wd at *
      have c3 := HXd.out.c3
      rw [HDL.out] at c3
      have H0 := Aside0.mk (show RelM w n f A la ca B dist.length cb dist (.int .i64 0) wd from ⟨0, rfl, Nat.zero_le _, fun a ha => absurd ha (by omega), HXd.out, HBd.out⟩)
      clear HXd HBd
      go_wp2_with fail
      clear c3
      go_loopw [22, 4, 5, 6, 7, 27, 28, 29] (fun v22 _ _ _ _ _ _ _ wr => RelM w n f A la ca B dist.length cb dist v22 wr) (fun v22 _ _ _ _ _ _ _ _ => n - (intOf v22).toNat)
      case atStart => exact H0.out
      case round =>
        clear H0
        obtain ⟨i, rfl, hi, hfit, hX, hB⟩ := hrel
        have HX := Aside0.mk hX
        have HB := Aside0.mk hB
        have HF := Aside0.mk hfit
        clear hX hB hfit
        have hi0 : (0 : Int) ≤ (i : Int) := by omega
        by_cases hlt : i < n
        · have hltb : decide (i < n) = true := decide_eq_true hlt
          have hltI : (i : Int) < (n : Int) := by omega
          obtain ⟨ad, A0, cc, rfl, p0, hcc, hrd⟩ := at_L1 HR3.out (i : Int) hi0 (by rw [HDL.out]; omega)
          rw [Int.toNat_natCast] at p0
          rw [rdl] at p0 hcc hrd
          have p0 := pw_cell_below HB.out p0
          have hlen := HRL.out i hlt
          obtain ⟨row, hrw⟩ : ∃ row, dist.getD i [] = row := ⟨_, rfl⟩
          rw [hrw] at p0 hcc hrd hlen
          have HRWI := Aside0.mk hrw
          clear hrw
          rw [hlen] at p0 hcc hrd
          have HRD := Aside0.mk hrd
          clear hrd hlen
          go_wp2_with fail
          have H1 := Aside0.mk (show RelMI w n f A la ca (some ad) dist.length cb dist i (.int .i64 0) wr from ⟨0, rfl, Nat.zero_le _, fun b hb => absurd hb (by omega), HX.out, HB.out⟩)
          clear HX HB p0
          go_loopw [29, 6, 7] (fun v29 _ _ wr => RelMI w n f A la ca (some ad) dist.length cb dist i v29 wr) (fun v29 _ _ _ => n - (intOf v29).toNat)
          case atStart => exact H1.out
          case round =>
            clear H1
            obtain ⟨j, rfl, hj, hfj, hX, hB⟩ := hrel
            have HX := Aside0.mk hX
            have HB := Aside0.mk hB
            have HFJ := Aside0.mk hfj
            clear hX hB hfj
            have hj0 : (0 : Int) ≤ (j : Int) := by omega
            by_cases hjn : j < n
            · have hjb : decide (j < n) = true := decide_eq_true hjn
              have hjI : (j : Int) < (n : Int) := by omega
              obtain ⟨ad2, rfl, q0⟩ := Kd.at_int HRD.out (j : Int) hj0 hjI
              have q0 := pw_cell_below HB.out q0
              rw [Int.toNat_natCast] at q0
              have hrr : rd row (j : Int) = dd dist i j := by rw [← HRWI.out, ← rdl, rd_dd]
              rw [hrr] at q0
              clear hrr
              obtain ⟨d, hd⟩ : ∃ d, dd dist i j = d := ⟨_, rfl⟩
              rw [hd] at q0
              have HD := Aside0.mk hd
              clear hd
              have GOOD := Aside0.mk (show fit dist i j → ∀ b, b < j + 1 → fit dist i b from fun hh b hb => by
                rcases Nat.lt_or_ge b j with h' | h'
                · exact HFJ.out b h'
                · obtain rfl : b = j := by omega
                  exact hh)
              have BAD := Aside0.mk (show ¬ fit dist i j → mtB n dist = false from fun hh => mt_no n dist i j hlt hjn (fun hc => hh hc.2))
              by_cases hij : i = j
              · have e1 : ((i : Int) == (j : Int)) = true := by simp; omega
                have e2 : ((i : Int) != (j : Int)) = false := by simp; omega
                by_cases h10 : d = 10
                · have e3 : (d != 10) = false := by simp; omega
                  have HFT := Aside0.mk (show fit dist i j by unfold fit; rw [if_pos hij, HD.out]; exact h10)
                  clear hij h10
                  go_wp2_with fail
                  go_roundw
                  case rel => exact ⟨j + 1, by go_num, by omega, GOOD.out HFT.out, HX.out, HB.out⟩
                  case measure => simp [intOf]; omega
                · have e3 : (d != 10) = true := by simp; omega
                  have HM := Aside0.mk (BAD.out (by unfold fit; rw [if_pos hij, HD.out]; exact h10))
                  clear hij h10
                  go_wp2_with fail
                  go_ret
                  exact ⟨by rw [HM.out]; rfl, HB.out⟩
              · have e1 : ((i : Int) == (j : Int)) = false := by simp; omega
                have e2 : ((i : Int) != (j : Int)) = true := by simp; omega
                by_cases hle : d ≤ 10
                · have e3 : decide (d ≤ 10) = true := decide_eq_true hle
                  have HM := Aside0.mk (BAD.out (by unfold fit; rw [if_neg hij, HD.out]; omega))
                  clear hij hle
                  go_wp2_with fail
                  go_ret
                  exact ⟨by rw [HM.out]; rfl, HB.out⟩
                · have e3 : decide (d ≤ 10) = false := decide_eq_false hle
                  by_cases hgt : 255 < d
                  · have e4 : decide (255 < d) = true := decide_eq_true hgt
                    have HM := Aside0.mk (BAD.out (by unfold fit; rw [if_neg hij, HD.out]; omega))
                    clear hij hle hgt
                    go_wp2_with fail
                    go_ret
                    exact ⟨by rw [HM.out]; rfl, HB.out⟩
                  · have e4 : decide (255 < d) = false := decide_eq_false hgt
                    have HFT := Aside0.mk (show fit dist i j by unfold fit; rw [if_neg hij, HD.out]; omega)
                    clear hij hle hgt
                    go_wp2_with fail
                    go_roundw
                    case rel => exact ⟨j + 1, by go_num, by omega, GOOD.out HFT.out, HX.out, HB.out⟩
                    case measure => simp [intOf]; omega
            · obtain rfl : j = n := by omega
              have hjb : decide (j < j) = false := decide_eq_false hjn
              go_wp2_with fail
              go_roundw
              case rel => exact ⟨i + 1, by go_num, by omega, fun a ha => by
                rcases Nat.lt_or_ge a i with h' | h'
                · exact HF.out a h'
                · obtain rfl : a = i := by omega
                  exact HFJ.out, HX.out, HB.out⟩
              case measure => simp [intOf]; omega
        · obtain rfl : i = n := by omega
          have hltb : decide (i < i) = false := decide_eq_false hlt
          have HM := Aside0.mk (mt_yes i dist HL.out (fun a ha b hb => ⟨HSYM.out a ha b hb, HF.out a ha b hb⟩))
          go_wp2_with fail
          go_ret
          exact ⟨by rw [HM.out]; rfl, HB.out⟩
  · have HM := Aside0.mk (mt_no_lens n dist hL)
    have HL := Aside0.mk hL
    clear hL
    go_enter Tryz.func136, Tryz.ntmps136
    go_wp2_with (go_at_call 180; (with_reducible refine (table_own n h1 h8 f A la ca B cb dist _ (Kd.C_alloc HR3.out _) hcb).mono ?_); rintro e_ w2 ⟨hb, ht_, _⟩; obtain rfl := ht_ HL.out; have HB := Aside0.mk (below_then (below_alloc (Below.refl w.heap.size w) _) (by simp) hb); clear hb ht_)
    go_ret
    exact ⟨by rw [HM.out]; rfl, HB.out⟩
end Go.Proofs.YtenkdmloolbdaaaGreatDoor.TZ
end
