/- topo.Check: what it answers. -/
import Derived.Test.YtffmhpfdfcpniaaF
import Derived.Test.YtffmhpfdfcpniaaS
namespace Go.Proofs.Ytffmhpfdfcpniaa.T
open Go.RowKit Go.Proofs.YtffmhpfdfcpniaaW.PrintWords Go.Proofs.YtffmhpfdfcpniaaW.PrintLast Go.Proofs.YtffmhpfdfcpniaaW.PrintMore Go.Proofs.Ytffmhpfdfcpniaa.PH
set_option linter.unusedVariables false
set_option linter.unusedSimpArgs false
theorem ad_plain {w : World} {ad : Addr} {v : Value} (h : w.cell? ad = some v) : ad = ⟨ad.block, ad.off, none⟩ := by
  obtain ⟨b, o, s⟩ := ad
  cases s with
  | none => rfl
  | some s =>
    simp only [World.cell?] at h
    split at h <;> simp_all
theorem reads_plain {w : World} {A : Option Addr} {n : Nat} {xs : List Int} (h : (Kd.int .i64).C w A n xs) (h0 : 0 < n) : ∃ b off, A = some ⟨b, off, none⟩ ∧ ∀ j, j < n → w.cell? ⟨b, off + j, none⟩ = some (.int .i64 (rd xs (j : Int))) := by
  obtain ⟨ad, rfl, h1⟩ := Kd.at_int h ((0 : Nat) : Int) (by omega) (by omega)
  rw [Int.toNat_natCast, Addr.add_zero'] at h1
  have e := ad_plain h1
  refine ⟨ad.block, ad.off, by rw [← e], fun j hj => ?_⟩
  obtain ⟨ad2, e2, h2⟩ := Kd.at_int h (j : Int) (by omega) (by omega)
  obtain rfl := (Option.some.inj e2)
  rw [Int.toNat_natCast, e, Addr.add_lit] at h2
  exact h2
theorem cp_pred (n f : Int) (A : Option Addr) (la ca : Nat) (B : Option Addr) (lb cb b : Nat) (w : World) (H : Box w b n f A la ca B lb cb) :
    PredAt Try.prog 44 #[.pointer (some ⟨b, 0, none⟩)] (Value.int .i64) (fun x => decide (x < 0) || decide (n ≤ x)) w := fun W x hb => by
  have c0 := (H.below hb).c0
  show Calls Try.prog 44 #[.int .i64 x, .pointer (some ⟨b, 0, none⟩)] W _
  by_cases h0 : x < 0
  · have e0 : decide (x < 0) = true := decide_eq_true h0
    go_enter Try.func44, Try.ntmps44
    go_wp2_with fail
    go_ret
    exact ⟨by rw [e0]; rfl, 0, rfl⟩
  · have e0 : decide (x < 0) = false := decide_eq_false h0
    obtain ⟨e, he⟩ : ∃ e, decide (n ≤ x) = e := ⟨_, rfl⟩
    go_enter Try.func44, Try.ntmps44
    go_wp2_with fail
    go_ret
    exact ⟨rfl, 0, rfl⟩
theorem cp_any (n : Int) (cpus : List Int) : (cpus.any fun x => decide (x < 0) || decide (n ≤ x)) = !cpB n cpus := by
  unfold cpB
  induction cpus with
  | nil => rfl
  | cons c l ih =>
    rw [List.any_cons, List.all_cons, ih, Bool.not_and]
    congr 1
    rw [Bool.not_and]
    congr 1
    · by_cases h : c < 0
      · rw [decide_eq_true h, decide_eq_false (by omega)]; rfl
      · rw [decide_eq_false h, decide_eq_true (by omega)]; rfl
    · by_cases h : n ≤ c
      · rw [decide_eq_true h, decide_eq_false (by omega)]; rfl
      · rw [decide_eq_false h, decide_eq_true (by omega)]; rfl
theorem contains_own (n f : Int) (A : Option Addr) (ca : Nat) (B : Option Addr) (lb cb b : Nat) (cpus : List Int) (w : World) (hr : (Kd.int .i64).C w A cpus.length cpus) (H : Box w b n f A cpus.length ca B lb cb) :
    Calls Try.prog 43 #[.slice A cpus.length ca, .func (.func 44) #[] #[.pointer (some ⟨b, 0, none⟩)]] w fun e w' => e = .returned (.bool (!cpB n cpus)) ∧ ∃ q, w' = w.drewN q := by
  have eg : ∀ args w, (callFunc 44 args).run Try.prog w = .ok (.enter 44 args) w := enters_of Try.func44 (by kernel_rfl) rfl
  rcases Nat.eq_zero_or_pos cpus.length with h0 | h0
  · obtain rfl : cpus = [] := List.length_eq_zero_iff.1 h0
    have hcon := AnyE.slices_ContainsFunc_empty Try.layContains A ca (.func (.func 44) #[] #[.pointer (some ⟨b, 0, none⟩)]) w
    change Calls Try.prog 43 _ _ _ at hcon
    exact hcon.mono fun _ _ ⟨he, hw⟩ => ⟨by rw [he]; rfl, 0, by rw [hw]; rfl⟩
  · obtain ⟨bk, off, rfl, hc⟩ := reads_plain hr h0
    have hcon := AnyE.slices_ContainsFunc Try.layContains (Value.int .i64) (fun x => decide (x < 0) || decide (n ≤ x)) 44 #[.pointer (some ⟨b, 0, none⟩)] eg bk off cpus.length ca cpus w (cp_pred n f _ _ ca B lb cb b w H) (Nat.le_refl _) hr.2.1 (fun j hj => by
      rw [hc j hj]
      congr 2
      unfold rd
      rw [Int.toNat_natCast, getElem!_pos cpus j hj, List.getD_eq_getElem?_getD, List.getElem?_eq_getElem hj]; rfl)
    change Calls Try.prog 43 _ _ _ at hcon
    rw [List.take_length, cp_any] at hcon
    exact hcon
set_option maxHeartbeats 4000000 in
set_option maxRecDepth 100000 in
theorem check_own (n f : Int) (A : Option Addr) (ca : Nat) (cpus : List Int) (B : Option Addr) (cb : Nat) (dist : List (List Int)) (w : World) (hr2 : Kd.C (Kd.int .i64) w A cpus.length cpus) (hca : cpus.length ≤ ca) (hr3 : Kd.C (Kd.slice 3 (Kd.int .i64)) w B dist.length dist) (hcb : dist.length ≤ cb) :
    Calls Try.prog 30 #[.agg #[.int .i64 n, .int .i64 f, .slice A cpus.length ca, .slice B dist.length cb]] w fun e w' => e = .returned (.int .i64 (chk n f cpus dist)) ∧ Below w.heap.size w w' := by
  have HR2 := Aside0.mk hr2
  have HR3 := Aside0.mk hr3
  clear hr2 hr3
  obtain ⟨c, hc⟩ : ∃ c, countsB n f cpus = c := ⟨_, rfl⟩
  have HC := Aside0.mk hc
  obtain ⟨p, hp⟩ : ∃ p, cpB n cpus = p := ⟨_, rfl⟩
  have HP := Aside0.mk hp
  obtain ⟨m, hm⟩ : ∃ m, mtB n.toNat dist = m := ⟨_, rfl⟩
  have HM := Aside0.mk hm
  clear hc hp hm
  cases c with
  | false =>
    have HK := Aside0.mk (show chk n f cpus dist = 3 by unfold chk; rw [HC.out]; rfl)
    go_enter Try.func30, Try.ntmps30
    go_wp2_with (first | (go_at_call 42; (with_reducible refine (topo_counts.calls n f A ca cpus B cb dist false _ (Kd.C_alloc HR2.out _) hca (Kd.C_alloc HR3.out _) hcb (by rw [counts_f, HC.out])).mono ?_); rintro e_ w2 ⟨rfl, hb⟩; have HX2 := Aside0.mk ((Box.new w n f A cpus.length ca B dist.length cb).below hb); have HB2 := Aside0.mk (below_then (below_alloc (Below.refl w.heap.size w) _) (by simp) hb); clear hb; have c0 := HX2.out.c0; have c1 := HX2.out.c1; have c2 := HX2.out.c2; have c3 := HX2.out.c3))
    go_ret
    exact ⟨by rw [HK.out]; rfl, HB2.out⟩
  | true =>
    cases p with
    | false =>
      have HK := Aside0.mk (show chk n f cpus dist = 10 by unfold chk; rw [HC.out, HP.out]; rfl)
      go_enter Try.func30, Try.ntmps30
      go_wp2_with (first | (go_at_call 42; (with_reducible refine (topo_counts.calls n f A ca cpus B cb dist true _ (Kd.C_alloc HR2.out _) hca (Kd.C_alloc HR3.out _) hcb (by rw [counts_f, HC.out])).mono ?_); rintro e_ w2 ⟨rfl, hb⟩; have HX2 := Aside0.mk ((Box.new w n f A cpus.length ca B dist.length cb).below hb); have HB2 := Aside0.mk (below_then (below_alloc (Below.refl w.heap.size w) _) (by simp) hb); clear hb; have c0 := HX2.out.c0; have c1 := HX2.out.c1; have c2 := HX2.out.c2; have c3 := HX2.out.c3) | (go_at_call 43; (with_reducible refine (contains_own n f A ca B dist.length cb w.heap.size cpus w2 (Kd.C_below HR2.out HB2.out) HX2.out).mono ?_); rintro e_ w3 ⟨he_, q, rfl⟩; go_loud (rw [HP.out] at he_); go_loud (obtain rfl := he_); go_loud (have HX3 := Aside0.mk (HX2.out.below (pw_below_drewN (Below.refl _ _) q))); have HB3 := Aside0.mk (pw_below_drewN HB2.out q); clear c0 c1 c2 c3; have c0 := HX3.out.c0; have c1 := HX3.out.c1; have c2 := HX3.out.c2; have c3 := HX3.out.c3))
      go_ret
      exact ⟨by rw [HK.out]; rfl, HB3.out⟩
    | true =>
      have hn : 1 ≤ n ∧ n ≤ 8 := by
        have h := HC.out
        unfold countsB at h
        simp only [Bool.and_eq_true, decide_eq_true_eq] at h
        omega
      obtain ⟨k, rfl⟩ : ∃ k : Nat, n = (k : Int) := ⟨n.toNat, by omega⟩
      rw [Int.toNat_natCast] at HM
      have HMT := Aside0.mk (show ∀ W : World, Kd.C (Kd.slice 3 (Kd.int .i64)) W B dist.length dist → Calls Try.prog 45 #[.agg #[.int .i64 k, .int .i64 f, .slice A cpus.length ca, .slice B dist.length cb]] W fun e w' => e = .returned (.bool m) ∧ Below W.heap.size W w' from fun W hW => (matrix_own k (by omega) (by omega) f A cpus.length ca B cb dist W hW hcb).mono fun _ _ ⟨he, hb⟩ => ⟨by rw [he, HM.out], hb⟩)
      have HK := Aside0.mk (show chk (k : Int) f cpus dist = if m = true then 0 else 4 by unfold chk; rw [HC.out, HP.out, Int.toNat_natCast, HM.out]; rfl)
      clear hn
      cases m with
      | false =>
        go_enter Try.func30, Try.ntmps30
        go_wp2_with (first | (go_at_call 42; (with_reducible refine (topo_counts.calls k f A ca cpus B cb dist true _ (Kd.C_alloc HR2.out _) hca (Kd.C_alloc HR3.out _) hcb (by rw [counts_f, HC.out])).mono ?_); rintro e_ w2 ⟨rfl, hb⟩; have HX2 := Aside0.mk ((Box.new w k f A cpus.length ca B dist.length cb).below hb); have HB2 := Aside0.mk (below_then (below_alloc (Below.refl w.heap.size w) _) (by simp) hb); clear hb; have c0 := HX2.out.c0; have c1 := HX2.out.c1; have c2 := HX2.out.c2; have c3 := HX2.out.c3) | (go_at_call 43; (with_reducible refine (contains_own k f A ca B dist.length cb w.heap.size cpus w2 (Kd.C_below HR2.out HB2.out) HX2.out).mono ?_); rintro e_ w3 ⟨he_, q, rfl⟩; go_loud (rw [HP.out] at he_); go_loud (obtain rfl := he_); go_loud (have HX3 := Aside0.mk (HX2.out.below (pw_below_drewN (Below.refl _ _) q))); have HB3 := Aside0.mk (pw_below_drewN HB2.out q); clear c0 c1 c2 c3; have c0 := HX3.out.c0; have c1 := HX3.out.c1; have c2 := HX3.out.c2; have c3 := HX3.out.c3) | (go_at_call 45; (with_reducible refine (HMT.out _ (Kd.C_below HR3.out HB3.out)).mono ?_); rintro e_ w4 ⟨rfl, hb⟩; have HB4 := Aside0.mk (below_then HB3.out HB3.out.size hb); clear hb))
        go_ret
        exact ⟨by rw [HK.out]; rfl, HB4.out⟩
      | true =>
        go_enter Try.func30, Try.ntmps30
        go_wp2_with (first | (go_at_call 42; (with_reducible refine (topo_counts.calls k f A ca cpus B cb dist true _ (Kd.C_alloc HR2.out _) hca (Kd.C_alloc HR3.out _) hcb (by rw [counts_f, HC.out])).mono ?_); rintro e_ w2 ⟨rfl, hb⟩; have HX2 := Aside0.mk ((Box.new w k f A cpus.length ca B dist.length cb).below hb); have HB2 := Aside0.mk (below_then (below_alloc (Below.refl w.heap.size w) _) (by simp) hb); clear hb; have c0 := HX2.out.c0; have c1 := HX2.out.c1; have c2 := HX2.out.c2; have c3 := HX2.out.c3) | (go_at_call 43; (with_reducible refine (contains_own k f A ca B dist.length cb w.heap.size cpus w2 (Kd.C_below HR2.out HB2.out) HX2.out).mono ?_); rintro e_ w3 ⟨he_, q, rfl⟩; go_loud (rw [HP.out] at he_); go_loud (obtain rfl := he_); go_loud (have HX3 := Aside0.mk (HX2.out.below (pw_below_drewN (Below.refl _ _) q))); have HB3 := Aside0.mk (pw_below_drewN HB2.out q); clear c0 c1 c2 c3; have c0 := HX3.out.c0; have c1 := HX3.out.c1; have c2 := HX3.out.c2; have c3 := HX3.out.c3) | (go_at_call 45; (with_reducible refine (HMT.out _ (Kd.C_below HR3.out HB3.out)).mono ?_); rintro e_ w4 ⟨rfl, hb⟩; have HB4 := Aside0.mk (below_then HB3.out HB3.out.size hb); clear hb))
        go_ret
        exact ⟨by rw [HK.out]; rfl, HB4.out⟩
end Go.Proofs.Ytffmhpfdfcpniaa.T
