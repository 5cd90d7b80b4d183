/- zone.Nearest, of whatever machine. -/
import Derived.Test.YtffmhpfdfcpniaaM
namespace Go.Proofs.Ytffmhpfdfcpniaa.T
open Go.RowKit Go.Sort Go.Proofs.YtffmhpfdfcpniaaW.PrintWords Go.Proofs.YtffmhpfdfcpniaaW.PrintLast Go.Proofs.YtffmhpfdfcpniaaW.PrintMore Go.Proofs.Ytffmhpfdfcpniaa.PH
set_option linter.unusedVariables false
set_option linter.unusedSimpArgs false
/-- May a node? -/
def okB (may : List Bool) (x : Int) : Bool := decide (x < (may.length : Int)) && rdOf false may x
/-- The first one of a list that may. -/
def nearR (may : List Bool) (l : List Int) : Option Int := l.find? (okB may)
theorem near_hit (may : List Bool) (l : List Int) (i : Nat) (hi : i < l.length) (hno : ∀ j, j < i → okB may (rd l (j : Int)) = false) (hy : okB may (rd l (i : Int)) = true) : nearR may l = some (rd l (i : Int)) := by
  unfold nearR
  rw [List.find?_eq_some_iff_getElem]
  have e : ∀ j (hj : j < l.length), rd l (j : Int) = l[j] := fun j hj => rd_at l j hj
  refine ⟨hy, i, hi, (e i hi).symm, fun j hj => ?_⟩
  rw [← e j (by omega), hno j hj]; rfl
theorem near_miss (may : List Bool) (l : List Int) (hno : ∀ j, j < l.length → okB may (rd l (j : Int)) = false) : nearR may l = none := by
  unfold nearR
  rw [List.find?_eq_none]
  intro x hx
  obtain ⟨j, hj, rfl⟩ := List.mem_iff_getElem.1 hx
  have := hno j hj
  rw [rd_at l j hj] at this
  rw [this]; simp
/-- The answer as two. -/
def nearV (o : Option Int) : Value := .tuple #[.int .i64 (o.getD 0), .bool o.isSome]
def RelN (l : List Int) (may : List Bool) (w2 : World) (v25 : Value) (wr : World) : Prop :=
  ∃ i : Nat, v25 = .int .i64 i ∧ i ≤ l.length ∧ wr = w2 ∧ (∀ j, j < i → okB may (rd l (j : Int)) = false)
theorem ordL_nonneg (dist : List (List Int)) (a n : Nat) : ∀ x ∈ ordL dist a n, 0 ≤ x := by
  intro x hx
  unfold ordL at hx
  obtain ⟨b, _, rfl⟩ := List.mem_map.1 hx
  omega
theorem lstN_nonneg (n f : Int) (cpus : List Int) (dist : List (List Int)) (node : Int) : ∀ x ∈ lstN n f cpus dist node, 0 ≤ x := by
  intro x hx
  unfold lstN at hx
  by_cases h : erN n f cpus dist node = 0
  · rw [if_pos h] at hx; exact ordL_nonneg _ _ _ x hx
  · rw [if_neg h] at hx; cases hx
set_option maxHeartbeats 4000000 in
set_option maxRecDepth 100000 in
theorem nearest_own (n f : Int) (A : Option Addr) (ca : Nat) (cpus : List Int) (B : Option Addr) (cb : Nat) (dist : List (List Int)) (node s : Int) (M : Option Addr) (cm : Nat) (may : List Bool) (w : World) (hr2 : Kd.C (Kd.int .i64) w A cpus.length cpus) (hca : cpus.length ≤ ca) (hr3 : Kd.C (Kd.slice 3 (Kd.int .i64)) w B dist.length dist) (hcb : dist.length ≤ cb) (hrm : Kd.C Kd.bool w M may.length may) :
    Calls Try.prog 14 #[.agg #[.int .i64 n, .int .i64 f, .slice A cpus.length ca, .slice B dist.length cb], .int .i64 node, .int .u8 s, .slice M may.length cm] w fun e w' => e = .returned (nearV (nearR may (inL s (lstN n f cpus dist node)))) ∧ RowKit.Below w.heap.size w w' := by
  have HO := Aside0.mk (fun (W : World) h2 h3 => within_own n f A ca cpus B cb dist node s W h2 hca h3 hcb)
  have HR2 := Aside0.mk hr2
  have HR3 := Aside0.mk hr3
  have HRM := Aside0.mk hrm
  have hnn : ∀ x ∈ inL s (lstN n f cpus dist node), 0 ≤ x := fun x hx => lstN_nonneg n f cpus dist node x (List.mem_filter.1 hx).1
  have hl8 : (inL s (lstN n f cpus dist node)).length ≤ 8 := Nat.le_trans (List.length_filter_le _ _) (lstN_len n f cpus dist node)
  have hbadl : erN n f cpus dist node ≠ 0 → inL s (lstN n f cpus dist node) = [] := fun h => by rw [show lstN n f cpus dist node = [] from if_neg h]; rfl
  have hml := hrm.2.1
  clear hr2 hr3 hrm
  obtain ⟨l, hl⟩ : ∃ l, inL s (lstN n f cpus dist node) = l := ⟨_, rfl⟩
  obtain ⟨er, her⟩ : ∃ er, erN n f cpus dist node = er := ⟨_, rfl⟩
  rw [hl] at HO hl8 hnn hbadl ⊢
  rw [her] at HO hbadl
  clear hl her
  have HNN := Aside0.mk hnn
  clear hnn
  by_cases he0 : er = 0
  · subst he0
    clear hbadl
    go_enter Try.func14, Try.ntmps14
    go_upto_region 4 with (first | (go_at_call 13; (with_reducible refine (HO.out _ (Kd.C_alloc HR2.out _) (Kd.C_alloc HR3.out _)).mono ?_); rintro e_ w2 ⟨v, rfl, hown, hb⟩; have HOW := Aside0.mk hown; have HB := Aside0.mk (below_less0 _ _ _ hb); clear hown hb))
    obtain ⟨L, cl, rfl, hri⟩ := own_reads HOW.out
    have HRI := Aside0.mk hri
    have HRM2 := Aside0.mk (Kd.C_below HRM.out HB.out)
    clear hri HOW HRM HR2 HR3 HO
    have H0 := Aside0.mk (show RelN l may w2 (.int .i64 0) w2 from ⟨0, rfl, Nat.zero_le _, rfl, fun j hj => absurd hj (by omega)⟩)
    go_wp2_with fail
    go_loopw [25, 13] (fun v25 _ wr => RelN l may w2 v25 wr) (fun v25 _ _ => l.length - (intOf v25).toNat)
    case atStart => exact H0.out
    case round =>
      clear H0
      obtain ⟨i, rfl, hi, rfl, hno⟩ := hrel
      have HNO := Aside0.mk hno
      clear hno
      by_cases hil : i < l.length
      · have hib : decide (i < l.length) = true := decide_eq_true hil
        have i0 : (0 : Int) ≤ (i : Int) := by omega
        have iI : (i : Int) < (l.length : Int) := by omega
        obtain ⟨ad, rfl, q0⟩ := HRI.out.at_ (i : Int) i0 iI
        rw [Int.toNat_natCast] at q0
        obtain ⟨x, hx⟩ : ∃ x, rd l (i : Int) = x := ⟨_, rfl⟩
        have hx0 : 0 ≤ x := by rw [← hx, rd_at l i hil]; exact HNN.out _ (List.getElem_mem hil)
        rw [hx] at q0
        have HX := Aside0.mk hx
        clear hx
        have STEP := Aside0.mk (show okB may x = false → ∀ j, j < i + 1 → okB may (rd l (j : Int)) = false from fun hh j hj => by
          rcases Nat.lt_or_ge j i with h' | h'
          · exact HNO.out j h'
          · obtain rfl : j = i := by omega
            rw [HX.out]; exact hh)
        by_cases hxm : x < (may.length : Int)
        · have hxb : decide (x < (may.length : Int)) = true := decide_eq_true hxm
          obtain ⟨ad2, rfl, q1⟩ := Kd.at_bool HRM2.out x hx0 hxm
          obtain ⟨b, hb⟩ : ∃ b, rdOf false may x = b := ⟨_, rfl⟩
          rw [hb] at q1
          have hok : okB may x = b := by unfold okB; rw [hxb, hb]; rfl
          have HOK := Aside0.mk hok
          clear hb hok
          cases b with
          | true =>
            have HN := Aside0.mk (show nearR may l = some x by
              have := near_hit may l i hil HNO.out (by rw [HX.out]; exact HOK.out)
              rw [HX.out] at this; exact this)
            go_wp2_with fail
            go_ret2
            exact ⟨by rw [HN.out]; rfl, HB.out⟩
          | false =>
            go_wp2_with fail
            go_roundw
            case rel => exact ⟨i + 1, by go_num, by omega, rfl, STEP.out HOK.out⟩
            case measure => simp [intOf]; omega
        · have hxb : decide (x < (may.length : Int)) = false := decide_eq_false hxm
          have HOK := Aside0.mk (show okB may x = false by unfold okB; rw [hxb]; rfl)
          go_wp2_with fail
          go_roundw
          case rel => exact ⟨i + 1, by go_num, by omega, rfl, STEP.out HOK.out⟩
          case measure => simp [intOf]; omega
      · have hib : decide (i < l.length) = false := decide_eq_false hil
        have HN := Aside0.mk (near_miss may l (fun j hj => HNO.out j (by omega)))
        go_wp2_with fail
        go_ret2
        exact ⟨by rw [HN.out]; rfl, HB.out⟩
  · have hne : (er != 0) = true := by simpa using he0
    have HLN := Aside0.mk (hbadl he0)
    clear he0 hbadl
    go_enter Try.func14, Try.ntmps14
    go_wp2_with (first | (go_at_call 13; (with_reducible refine (HO.out _ (Kd.C_alloc HR2.out _) (Kd.C_alloc HR3.out _)).mono ?_); rintro e_ w2 ⟨v, rfl, hown, hb⟩; have HB := Aside0.mk (below_less0 _ _ _ hb); clear hown hb))
    go_ret2
    exact ⟨by rw [HLN.out]; rfl, HB.out⟩
end Go.Proofs.Ytffmhpfdfcpniaa.T
