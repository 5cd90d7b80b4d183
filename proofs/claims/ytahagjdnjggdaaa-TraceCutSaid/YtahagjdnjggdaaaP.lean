/- The walk of messuagelaw27.TraceCut along its true paths: what the functions it calls tell is given. -/
import Derived.Test.YtahagjdnjggdaaaA
import Derived.Outline
import Derived.Deep.DeepCutAuto
import Derived.Deep.DeepMust
namespace Go.Proofs.Ytahagjdnjggdaaa.T
open Go.RowKit Go.Proofs.YtahagjdnjggdaaaW.PrintWords Go.Proofs.YtahagjdnjggdaaaW.PrintLast Go.Proofs.YtahagjdnjggdaaaW.PrintMore
set_option linter.unusedVariables false
set_option linter.unusedSimpArgs false
/-- How many bytes the first i rows have. -/
def sumTo (ws : List S45) (i : Nat) : Nat := ((ws.take i).map (fun x => 12 + x.f5.length)).sum
theorem sumTo_succ (ws : List S45) (i : Nat) (h : i < ws.length) : sumTo ws (i + 1) = sumTo ws i + 12 + (rd_T45 ws (i : Int)).f5.length := by
  unfold sumTo
  rw [take_rd ws i h, List.map_append, List.sum_append]
  simp; omega
theorem sumTo_le (ws : List S45) (i : Nat) : sumTo ws i ≤ sumTo ws ws.length := by
  unfold sumTo
  rw [List.take_length]
  conv => rhs; rw [← List.take_append_drop i ws, List.map_append, List.sum_append]
  omega
theorem HI45 : ∃ i : TypeInfo, Try.prog.info? 45 = some i := by
  obtain ⟨i, hi, _, _, _⟩ := info_parts info45
  exact ⟨i, hi⟩
theorem same_at (k : Nat) (A0 : Option Addr) (c0 : Nat) (l0 : List (S45)) (A1 : Option Addr) (c1 i : Nat) (l1 : List (S45)) (r : Bool) (w : World) (hl : l1.length = i) (hr0 : Kd.C k45 w A0 l0.length l0) (hc0 : l0.length ≤ c0) (hr1 : Kd.C k45 w A1 l1.length l1) (hc1 : l1.length ≤ c1) (h : messuageref27_Same.f k l0 l1 = some r) :
    Calls Try.prog 11 #[.slice A0 l0.length c0, .slice A1 i c1] w fun e w' => e = .returned (.bool r) ∧ Below w.heap.size w w' := by
  subst hl
  exact messuageref27_Same.calls k A0 c0 l0 A1 c1 l1 r w hr0 hc0 hr1 hc1 h
def RelC (w : World) (ws : List S45) (n i0 : Nat) (Aw Am : Option Addr) (cw cm : Nat) (ms : List S51) (v12 v13 : Value) (wr : World) : Prop :=
  ∃ i : Nat, v13 = .int .i64 i ∧ v12 = .int .i64 (sumTo ws i) ∧ i ≤ i0 ∧ Kd.V k45 45 wr w.heap.size (fun _ => True) (.slice Aw ws.length cw) ws ∧ Kd.V k51 51 wr w.heap.size (fun _ => True) (.slice Am ms.length cm) ms ∧ Below w.heap.size w wr

set_option maxHeartbeats 4000000 in
set_option maxRecDepth 100000 in
theorem cut_at (k : Nat) (A0 : Option Addr) (c0 : Nat) (l0 : List S45) (at_ : Int) (bs tk : List Int) (ins ms : List S51) (ws fm zs : List S45) (n i0 : Nat) (w : World) (hr0 : Kd.C k45 w A0 l0.length l0) (hc0 : l0.length ≤ c0)
    (hbo : messuagelaw27_both.f k l0 6 = some (ws, ins)) (ht : messuagelaw27_traces.f k = some true) (htw : trace_Write.f k ins = some (bs, 0)) (hbl : (bs.length : Int) ≠ 0) (hnb : n < bs.length) (hwl : IntKind.u64.wrap (bs.length : Int) = bs.length) (hn : wrap64 ((IntKind.u64.wrap at_).tmod (bs.length : Int)) = n) (htk : bs.take n = tk) (hrd : trace_Read.f 0 tk = some (ms, 0)) (hf : messuagelaw27_from.f k ms = some fm) (hs : messuageref27_Same.f k fm zs = some true) (hi0 : i0 ≤ ws.length) (hsum : sumTo ws i0 = n) (hlt : ∀ j, j < i0 → sumTo ws j ≠ n) (hbig : sumTo ws ws.length ≤ 1000000) (hz : ws.take i0 = zs) :
    Calls Try.prog 5 #[.slice A0 l0.length c0, .int .i64 at_] w fun e w' => e = .returned (.bool true) ∧ Below w.heap.size w w' := by
  have HR0 := Aside0.mk hr0
  have HC0 := Aside0.mk hc0
  have HBO := Aside0.mk hbo
  have HT := Aside0.mk ht
  have HTW := Aside0.mk htw
  clear htw
  have HNB := Aside0.mk hnb
  clear hnb
  have HTK := Aside0.mk htk
  clear htk
  have HRD := Aside0.mk hrd
  clear hrd
  have HF := Aside0.mk hf
  clear hf
  have HS := Aside0.mk hs
  clear hs
  have HSUM := Aside0.mk hsum
  clear hsum
  have HLT := Aside0.mk hlt
  clear hlt
  have HBIG := Aside0.mk hbig
  clear hbig
  have HZ := Aside0.mk hz
  clear hz
  have HB := Aside0.mk (Below.refl w.heap.size w)
  clear hr0 hc0 hbo ht
  go_enter Try.func5, Try.ntmps5
  go_wp2_with (first | (go_at_call 7; (with_reducible refine (messuagelaw27_both.calls k A0 c0 l0 6 ws ins _ HR0.out HC0.out HBO.out).mono ?_); rintro e_ w7 ⟨v7, v7b, rfl, ho, ho2, hb⟩; obtain ⟨Aw, cw, rfl⟩ := Kd.S_slice ho; obtain ⟨Ai, ci, rfl⟩ := Kd.S_slice ho2; have HWS := Aside0.mk (Kd.N_mono (ok' := fun _ => True) (Kd.S_N ho) (fun _ _ => trivial)); have HIN := Aside0.mk (Kd.N_mono (ok' := fun _ => True) (Kd.S_N ho2) (fun _ _ => trivial)); clear ho ho2; have HB_ := Aside0.mk (below_then HB.out HB.out.size hb); clear HB ; have HB := HB_; clear HB_  hb) | (go_at_call 8; (with_reducible refine (trace_Write.calls k Ai ci ins bs _ _ (Kd.N_reads' HIN.out).2.2 (Kd.N_reads' HIN.out).2.1 HTW.out).mono ?_); rintro e_ w8 ⟨v8, rfl, ho, hb⟩; obtain ⟨Ab, cb, rfl⟩ := Kd.R_slice ho; have HR1 := Aside0.mk ho; clear ho; have HWS_ := Aside0.mk (Kd.N_below HWS.out hb); have HIN_ := Aside0.mk (Kd.N_below HIN.out hb); have HB_ := Aside0.mk (below_then HB.out HB.out.size hb); clear HB HWS HIN; have HWS := HWS_; have HIN := HIN_; have HB := HB_; clear HB_ HWS_ HIN_ hb) | (go_at_call 10; (with_reducible refine (messuagelaw27_traces.calls k true _ HT.out).mono ?_); rintro e_ w10 ⟨rfl, hb⟩; have HWS_ := Aside0.mk (Kd.N_below HWS.out hb); have HIN_ := Aside0.mk (Kd.N_below HIN.out hb); have HR1_ := Aside0.mk (Kd.R_below HR1.out hb); have HB_ := Aside0.mk (below_then HB.out HB.out.size hb); clear HB HWS HIN HR1; have HWS := HWS_; have HIN := HIN_; have HR1 := HR1_; have HB := HB_; clear HB_ HWS_ HIN_ HR1_ hb; have ks := (print_take_of (P := Try.prog) (Value.int .u8) 0 26 5 .i64 Try.underlying26 HI.choose_spec.1 HI.choose_spec.2 Ab cb bs (n : Int) (by omega) (Int.ofNat_le.2 (Nat.le_of_lt HNB.out)) (Kd.R_reads' HR1.out).2.1).1; have hrt_ := (Kd.V_mk (base := w.heap.size) (e := 5) (c := cb) (Nat.le_trans (List.length_take_le' _ _) (Kd.R_reads' HR1.out).2.1) (Kd.F_take (m := n) (Kd.V_F (Kd.R_V (base' := w.heap.size) HR1.out)) (Nat.le_of_lt HNB.out))); simp only [Int.toNat_natCast] at ks; rw [HTK.out] at ks hrt_; have HRT := Aside0.mk hrt_; clear hrt_) | (go_at_call 13; (with_reducible refine (trace_Read.calls 0 (fun _ => True) Ab cb tk ms _ _ HRT.out HRD.out).mono ?_); rintro e_ w13 ⟨v13, rfl, ho, hb⟩; obtain ⟨Am, cm, rfl⟩ := Kd.S_slice ho; have HM := Aside0.mk (Kd.N_mono (ok' := fun _ => True) (Kd.S_N ho) (fun _ _ => trivial)); clear ho HRT; have HWS_ := Aside0.mk (Kd.N_below HWS.out hb); have HIN_ := Aside0.mk (Kd.N_below HIN.out hb); have HR1_ := Aside0.mk (Kd.R_below HR1.out hb); have HB_ := Aside0.mk (below_then HB.out HB.out.size hb); clear HB HWS HIN HR1; have HWS := HWS_; have HIN := HIN_; have HR1 := HR1_; have HB := HB_; clear HB_ HWS_ HIN_ HR1_ hb))
  go_loopw [12, 13] (fun v12 v13 wr => RelC w ws n i0 Aw Am cw cm ms v12 v13 wr) (fun _ v13 _ => ws.length + 1 - (intOf v13).toNat)
  case atStart => exact ⟨0, rfl, by simp [sumTo], Nat.zero_le _, Kd.N_V HWS.out, Kd.N_V HM.out, HB.out⟩
  case round =>
    clear HWS HM HB HIN HR1
    obtain ⟨i, rfl, rfl, hi, hws, hm, hb⟩ := hrel
    have HWS := Aside0.mk hws
    have HM := Aside0.mk hm
    have HB := Aside0.mk hb
    clear hws hm hb
    obtain ⟨s, hs⟩ : ∃ s, sumTo ws i = s := ⟨_, rfl⟩
    have hwm := (Kd.V_reads' HWS.out).2.2.2.1
    have hsm := Nat.le_trans (sumTo_le ws i) HBIG.out
    simp only [hs] at hsm ⊢
    by_cases he : i = i0
    · subst he
      have hsn : s = n := by rw [← hs]; exact HSUM.out
      subst hsn
      have hile : (i : Int) ≤ (ws.length : Int) := by omega
      have hzl : zs.length = i := by rw [← HZ.out, List.length_take]; omega
      have hicw : i ≤ cw := by have := (Kd.V_reads' HWS.out).2.1; omega
      have HCW := Aside0.mk (Kd.V_reads' HWS.out).2.1
      go_wp2_with fail
      refine start_ (n := 11) (S := fun w' => True) (ds := []) #[false, false, false, false, false, false, false, false, false, false, false] (by kernel_rfl) rfl rfl trivial (fun hHeld => ?_)
      have n1 := Aside0.mk (Kd.V_drew HWS.out)
      have n2 := Aside0.mk (Kd.V_drew HM.out)
      have n3 := Aside0.mk (below_then HB.out HB.out.size (below_drew (Below.refl wr.heap.size wr)))
      clear HWS HM HB
      generalize wr.drew = wd at *
      have HWS := n1
      have HM := n2
      have HB := n3
      clear n1 n2 n3
      refine pure_ (i := 0) (N := some 59) (v := ?_) (a' := ?_) #[true, false, false, false, false, false, false, false, false, false, false] rfl rfl (by kernel_rfl) (fun _ _ _ h => h) (Or.inl ⟨by rfl, ?_⟩) ?_ ?_
      rotate_left
      · intro w'
        go_simp
        with_reducible rfl
      rotate_left
      · simp only [Act.put, List.setIfInBounds_toArray, List.set_cons_zero, List.set_cons_succ, i64_w, i32_w]
        rfl
      refine pure_ (i := 1) (N := some 60) (v := ?_) (a' := ?_) #[true, true, false, false, false, false, false, false, false, false, false] rfl rfl (by kernel_rfl) (fun _ _ _ h => h) (Or.inl ⟨by rfl, ?_⟩) ?_ ?_
      rotate_left
      · intro w'
        go_simp
        with_reducible rfl
      rotate_left
      · simp only [Act.put, List.setIfInBounds_toArray, List.set_cons_zero, List.set_cons_succ, i64_w, i32_w]
        rfl
      refine pure_ (i := 2) (N := some 61) (v := ?_) (a' := ?_) #[true, true, true, false, false, false, false, false, false, false, false] rfl rfl (by kernel_rfl) (fun _ _ _ h => h) (Or.inl ⟨by rfl, ?_⟩) ?_ ?_
      rotate_left
      · intro w'
        go_simp
        with_reducible rfl
      rotate_left
      · simp only [Act.put, List.setIfInBounds_toArray, List.set_cons_zero, List.set_cons_succ, i64_w, i32_w]
        rfl
      refine pure_ (i := 3) (N := some 62) (v := ?_) (a' := ?_) #[true, true, true, true, false, false, false, false, false, false, false] rfl rfl (by kernel_rfl) (fun _ _ _ h => h) (Or.inl ⟨by rfl, ?_⟩) ?_ ?_
      rotate_left
      · intro w'
        go_simp
        with_reducible rfl
      rotate_left
      · simp only [Act.put, List.setIfInBounds_toArray, List.set_cons_zero, List.set_cons_succ, i64_w, i32_w]
        rfl
      refine pure_ (i := 5) (N := some 64) (v := ?_) (a' := ?_) #[true, true, true, true, false, true, false, false, false, false, false] rfl rfl (by kernel_rfl) (fun _ _ _ h => h) (Or.inl ⟨by rfl, ?_⟩) ?_ ?_
      rotate_left
      · intro w'
        go_simp
        with_reducible rfl
      rotate_left
      · simp only [Act.put, List.setIfInBounds_toArray, List.set_cons_zero, List.set_cons_succ, i64_w, i32_w]
        rfl
      refine pure_ (i := 6) (N := some 65) (v := ?_) (a' := ?_) #[true, true, true, true, false, true, true, false, false, false, false] rfl rfl (by kernel_rfl) (fun _ _ _ h => h) (Or.inl ⟨by rfl, ?_⟩) ?_ ?_
      rotate_left
      · intro w'
        go_simp
        with_reducible rfl
      rotate_left
      · simp only [Act.put, List.setIfInBounds_toArray, List.set_cons_zero, List.set_cons_succ, i64_w, i32_w]
        rfl
      refine pure_ (i := 7) (N := some 66) (v := ?_) (a' := ?_) #[true, true, true, true, false, true, true, true, false, false, false] rfl rfl (by kernel_rfl) (fun _ _ _ h => h) (Or.inl ⟨by rfl, ?_⟩) ?_ ?_
      rotate_left
      · intro w'
        go_simp
        with_reducible rfl
      rotate_left
      · simp only [Act.put, List.setIfInBounds_toArray, List.set_cons_zero, List.set_cons_succ, i64_w, i32_w]
        rfl
      refine one_ (i := 4) (N := some 63) #[true, true, true, true, true, true, true, true, false, false, false] rfl rfl (by kernel_rfl) (by decide) (fun K hK => ?_)
      skip
      refine goes_ Try.func12 (by kernel_rfl) rfl #[.slice Am ms.length cm] (by rfl) rfl rfl (by simp only [List.map_toArray, List.map_cons, List.map_nil]; rfl) ?_
      with_reducible refine (messuagelaw27_from.calls k (fun _ => True) Am cm ms fm _ (Kd.V_map HM.out (fun _ h => h)) HF.out).mono ?_
      rintro e_ w12 ⟨v12, rfl, ho, hb⟩
      refine ⟨_, rfl, ?_⟩
      obtain ⟨Af, cf, rfl⟩ := Kd.N_slice ho
      have HFM := Aside0.mk (Kd.N_mono (ok' := fun _ => True) ho (fun _ _ => trivial))
      clear ho
      have HWS_ := Aside0.mk (Kd.V_below HWS.out hb)
      have HB_ := Aside0.mk (below_then HB.out HB.out.size hb)
      clear HWS HB hb
      have HWS := HWS_
      have HB := HB_
      clear HWS_ HB_
      refine hK.out _ _ trivial (fun hHeld => ?_)
      clear hK K
      refine norm_ (a' := ?_) ?_ ?_
      rotate_left
      · show Act.put _ (some 63) _ = _
        simp only [Act.put, List.setIfInBounds_toArray, List.set_cons_zero, List.set_cons_succ, i64_w, i32_w]
        rfl
      refine one_ (i := 8) (N := some 67) #[true, true, true, true, true, true, true, true, true, false, false] rfl rfl (by kernel_rfl) (by decide) (fun K hK => ?_)
      skip
      refine goes_ Try.func11 (by kernel_rfl) rfl #[.slice Af fm.length cf, .slice Aw i cw] (by rfl) rfl rfl (by simp only [List.map_toArray, List.map_cons, List.map_nil]; rfl) ?_
      with_reducible refine (same_at k Af cf fm Aw cw i zs true _ hzl (Kd.N_reads' HFM.out).2.2 (Kd.N_reads' HFM.out).2.1 (by rw [← HZ.out]; exact Kd.C_take (Kd.V_reads' HWS.out).2.2 (by omega)) (by have := HCW.out; omega) HS.out).mono ?_
      rintro e_ w11 ⟨rfl, hb⟩
      refine ⟨_, rfl, ?_⟩
      have HWS_ := Aside0.mk (Kd.V_below HWS.out hb)
      have HB_ := Aside0.mk (below_then HB.out HB.out.size hb)
      clear HWS HB hb
      have HWS := HWS_
      have HB := HB_
      clear HWS_ HB_
      refine hK.out _ _ trivial (fun hHeld => ?_)
      clear hK K
      refine norm_ (a' := ?_) ?_ ?_
      rotate_left
      · show Act.put _ (some 67) _ = _
        simp only [Act.put, List.setIfInBounds_toArray, List.set_cons_zero, List.set_cons_succ, i64_w, i32_w]
        rfl
      refine pure_ (i := 9) (N := some 68) (v := ?_) (a' := ?_) #[true, true, true, true, true, true, true, true, true, true, false] rfl rfl (by kernel_rfl) (fun _ _ _ h => h) (Or.inl ⟨by rfl, ?_⟩) ?_ ?_
      rotate_left
      · intro w'
        go_simp
        with_reducible rfl
      rotate_left
      · simp only [Act.put, List.setIfInBounds_toArray, List.set_cons_zero, List.set_cons_succ, i64_w, i32_w]
        rfl
      refine pure_ (i := 10) (N := some 4) (v := ?_) (a' := ?_) #[true, true, true, true, true, true, true, true, true, true, true] rfl rfl (by kernel_rfl) (fun _ _ _ h => h) (Or.inl ⟨by rfl, ?_⟩) ?_ ?_
      rotate_left
      · intro w'
        go_simp
        with_reducible rfl
      rotate_left
      · simp only [Act.put, List.setIfInBounds_toArray, List.set_cons_zero, List.set_cons_succ, i64_w, i32_w]
        rfl
      refine done_ (by kernel_rfl) ?_
      go_wp2_with fail
      go_ret
      exact ⟨rfl, HB.out⟩
    · have hil : i < i0 := by omega
      have hiw : i < ws.length := by omega
      have hne : s ≠ n := by rw [← hs]; exact HLT.out i hil
      have hneI : (s : Int) ≠ (n : Int) := by omega
      have hneb : ((s : Int) == (n : Int)) = false := by simp; omega
      have hk0 : (0 : Int) ≤ (i : Int) := by omega
      have hile : (i : Int) ≤ (ws.length : Int) := by omega
      have hk1 : (i : Int) < (ws.length : Int) := by omega
      have hk1b : decide ((i : Int) < (ws.length : Int)) = true := decide_eq_true hk1
      obtain ⟨ad0, Ax, cx, rfl, p0, p1, p2, p3, p4, p5, p6, p7, p8, p9, lx, gx⟩ := at_T45 (Kd.V_reads' HWS.out).2.2 (i : Int) hk0 hk1
      have hsu := sumTo_succ ws i hiw
      have hsb := Nat.le_trans (sumTo_le ws (i + 1)) HBIG.out
      obtain ⟨x, hx⟩ : ∃ x, rd_T45 ws (i : Int) = x := ⟨_, rfl⟩
      rw [hx] at p5 hsu
      simp only [Int.toNat_natCast] at p5
      clear hx gx lx p0 p1 p2 p3 p4 p6 p7 p8 p9
      rw [hs] at hsu
      rw [hsu] at hsb
      have HSU := Aside0.mk hsu
      clear hsu
      go_wp2_with fail
      go_roundw
      case rel => exact ⟨i + 1, by go_num, by rw [HSU.out]; go_num, by omega, HWS.out, HM.out, HB.out⟩
      case measure => simp [intOf]; omega

set_option maxHeartbeats 4000000 in
set_option maxRecDepth 100000 in
theorem cut_in (k : Nat) (A0 : Option Addr) (c0 : Nat) (l0 : List S45) (at_ : Int) (bs tk : List Int) (ins ms : List S51) (ws fm zs : List S45) (n i0 : Nat) (w : World) (hr0 : Kd.C k45 w A0 l0.length l0) (hc0 : l0.length ≤ c0)
    (hbo : messuagelaw27_both.f k l0 6 = some (ws, ins)) (ht : messuagelaw27_traces.f k = some true) (htw : trace_Write.f k ins = some (bs, 0)) (hbl : (bs.length : Int) ≠ 0) (hnb : n < bs.length) (hwl : IntKind.u64.wrap (bs.length : Int) = bs.length) (hn : wrap64 ((IntKind.u64.wrap at_).tmod (bs.length : Int)) = n) (htk : bs.take n = tk) (hrd : trace_Read.f 0 tk = some (ms, 2)) (hm0 : (ms.length : Int) = 0) (hw6 : ws.length ≤ 100) (hlt : ∀ j, j ≤ ws.length → sumTo ws j ≠ n) (hbig : sumTo ws ws.length ≤ 1000000) :
    Calls Try.prog 5 #[.slice A0 l0.length c0, .int .i64 at_] w fun e w' => e = .returned (.bool true) ∧ Below w.heap.size w w' := by
  have HR0 := Aside0.mk hr0
  have HC0 := Aside0.mk hc0
  have HBO := Aside0.mk hbo
  have HT := Aside0.mk ht
  have HTW := Aside0.mk htw
  clear htw
  have HNB := Aside0.mk hnb
  clear hnb
  have HTK := Aside0.mk htk
  clear htk
  have HRD := Aside0.mk hrd
  clear hrd
  have HLT := Aside0.mk hlt
  clear hlt
  have HBIG := Aside0.mk hbig
  clear hbig
  have HB := Aside0.mk (Below.refl w.heap.size w)
  clear hr0 hc0 hbo ht
  go_enter Try.func5, Try.ntmps5
  go_wp2_with (first | (go_at_call 7; (with_reducible refine (messuagelaw27_both.calls k A0 c0 l0 6 ws ins _ HR0.out HC0.out HBO.out).mono ?_); rintro e_ w7 ⟨v7, v7b, rfl, ho, ho2, hb⟩; obtain ⟨Aw, cw, rfl⟩ := Kd.S_slice ho; obtain ⟨Ai, ci, rfl⟩ := Kd.S_slice ho2; have HWS := Aside0.mk (Kd.N_mono (ok' := fun _ => True) (Kd.S_N ho) (fun _ _ => trivial)); have HIN := Aside0.mk (Kd.N_mono (ok' := fun _ => True) (Kd.S_N ho2) (fun _ _ => trivial)); clear ho ho2; have HB_ := Aside0.mk (below_then HB.out HB.out.size hb); clear HB ; have HB := HB_; clear HB_  hb) | (go_at_call 8; (with_reducible refine (trace_Write.calls k Ai ci ins bs _ _ (Kd.N_reads' HIN.out).2.2 (Kd.N_reads' HIN.out).2.1 HTW.out).mono ?_); rintro e_ w8 ⟨v8, rfl, ho, hb⟩; obtain ⟨Ab, cb, rfl⟩ := Kd.R_slice ho; have HR1 := Aside0.mk ho; clear ho; have HWS_ := Aside0.mk (Kd.N_below HWS.out hb); have HIN_ := Aside0.mk (Kd.N_below HIN.out hb); have HB_ := Aside0.mk (below_then HB.out HB.out.size hb); clear HB HWS HIN; have HWS := HWS_; have HIN := HIN_; have HB := HB_; clear HB_ HWS_ HIN_ hb) | (go_at_call 10; (with_reducible refine (messuagelaw27_traces.calls k true _ HT.out).mono ?_); rintro e_ w10 ⟨rfl, hb⟩; have HWS_ := Aside0.mk (Kd.N_below HWS.out hb); have HIN_ := Aside0.mk (Kd.N_below HIN.out hb); have HR1_ := Aside0.mk (Kd.R_below HR1.out hb); have HB_ := Aside0.mk (below_then HB.out HB.out.size hb); clear HB HWS HIN HR1; have HWS := HWS_; have HIN := HIN_; have HR1 := HR1_; have HB := HB_; clear HB_ HWS_ HIN_ HR1_ hb; have ks := (print_take_of (P := Try.prog) (Value.int .u8) 0 26 5 .i64 Try.underlying26 HI.choose_spec.1 HI.choose_spec.2 Ab cb bs (n : Int) (by omega) (Int.ofNat_le.2 (Nat.le_of_lt HNB.out)) (Kd.R_reads' HR1.out).2.1).1; have hrt_ := (Kd.V_mk (base := w.heap.size) (e := 5) (c := cb) (Nat.le_trans (List.length_take_le' _ _) (Kd.R_reads' HR1.out).2.1) (Kd.F_take (m := n) (Kd.V_F (Kd.R_V (base' := w.heap.size) HR1.out)) (Nat.le_of_lt HNB.out))); simp only [Int.toNat_natCast] at ks; rw [HTK.out] at ks hrt_; have HRT := Aside0.mk hrt_; clear hrt_) | (go_at_call 13; (with_reducible refine (trace_Read.calls 0 (fun _ => True) Ab cb tk ms _ _ HRT.out HRD.out).mono ?_); rintro e_ w13 ⟨v13, rfl, ho, hb⟩; obtain ⟨Am, cm, rfl⟩ := Kd.S_slice ho; have HM := Aside0.mk (Kd.N_mono (ok' := fun _ => True) (Kd.S_N ho) (fun _ _ => trivial)); clear ho HRT; have HWS_ := Aside0.mk (Kd.N_below HWS.out hb); have HIN_ := Aside0.mk (Kd.N_below HIN.out hb); have HR1_ := Aside0.mk (Kd.R_below HR1.out hb); have HB_ := Aside0.mk (below_then HB.out HB.out.size hb); clear HB HWS HIN HR1; have HWS := HWS_; have HIN := HIN_; have HR1 := HR1_; have HB := HB_; clear HB_ HWS_ HIN_ HR1_ hb))
  go_loopw [12, 13] (fun v12 v13 wr => RelC w ws n (ws.length + 1) Aw Am cw cm ms v12 v13 wr) (fun _ v13 _ => ws.length + 1 - (intOf v13).toNat)
  case atStart => exact ⟨0, rfl, by simp [sumTo], Nat.zero_le _, Kd.N_V HWS.out, Kd.N_V HM.out, HB.out⟩
  case round =>
    clear HWS HM HB HIN HR1
    obtain ⟨i, rfl, rfl, hi, hws, hm, hb⟩ := hrel
    have HWS := Aside0.mk hws
    have HM := Aside0.mk hm
    have HB := Aside0.mk hb
    clear hws hm hb
    obtain ⟨s, hs⟩ : ∃ s, sumTo ws i = s := ⟨_, rfl⟩
    have hwm := (Kd.V_reads' HWS.out).2.2.2.1
    have hsm := Nat.le_trans (sumTo_le ws i) HBIG.out
    simp only [hs] at hsm ⊢
    by_cases he : i = ws.length + 1
    · have hilf : decide ((i : Int) ≤ (ws.length : Int)) = false := decide_eq_false (by omega)
      have hile : ¬ ((i : Int) ≤ (ws.length : Int)) := by omega
      go_wp2_with fail
      go_ret
      exact ⟨rfl, HB.out⟩
    · have hne : s ≠ n := by rw [← hs]; exact HLT.out i (by omega)
      by_cases hl : i = ws.length
      · have hneI : (s : Int) ≠ (n : Int) := by omega
        have hneb : ((s : Int) == (n : Int)) = false := by simp; omega
        have hile : (i : Int) ≤ (ws.length : Int) := by omega
        have hnl : ¬ ((i : Int) < (ws.length : Int)) := by omega
        have hnlb : decide ((i : Int) < (ws.length : Int)) = false := decide_eq_false hnl
        have HL := Aside0.mk hl
        clear hl
        go_wp2_with fail
        go_roundw
        case rel => exact ⟨i + 1, by go_num, by rw [← hs, HL.out]; unfold sumTo; rw [List.take_length, List.take_of_length_le (Nat.le_succ _)], by omega, HWS.out, HM.out, HB.out⟩
        case measure => simp [intOf]; omega
      · have hiw : i < ws.length := by omega
        have hneI : (s : Int) ≠ (n : Int) := by omega
        have hneb : ((s : Int) == (n : Int)) = false := by simp; omega
        have hk0 : (0 : Int) ≤ (i : Int) := by omega
        have hile : (i : Int) ≤ (ws.length : Int) := by omega
        have hk1 : (i : Int) < (ws.length : Int) := by omega
        have hk1b : decide ((i : Int) < (ws.length : Int)) = true := decide_eq_true hk1
        obtain ⟨ad0, Ax, cx, rfl, p0, p1, p2, p3, p4, p5, p6, p7, p8, p9, lx, gx⟩ := at_T45 (Kd.V_reads' HWS.out).2.2 (i : Int) hk0 hk1
        have hsu := sumTo_succ ws i hiw
        have hsb := Nat.le_trans (sumTo_le ws (i + 1)) HBIG.out
        obtain ⟨x, hx⟩ : ∃ x, rd_T45 ws (i : Int) = x := ⟨_, rfl⟩
        rw [hx] at p5 hsu
        simp only [Int.toNat_natCast] at p5
        clear hx gx lx p0 p1 p2 p3 p4 p6 p7 p8 p9
        rw [hs] at hsu
        rw [hsu] at hsb
        have HSU := Aside0.mk hsu
        clear hsu
        go_wp2_with fail
        go_roundw
        case rel => exact ⟨i + 1, by go_num, by rw [HSU.out]; go_num, by omega, HWS.out, HM.out, HB.out⟩
        case measure => simp [intOf]; omega

set_option maxHeartbeats 4000000 in
set_option maxRecDepth 100000 in
theorem cut_bad (k : Nat) (A0 : Option Addr) (c0 : Nat) (l0 : List S45) (at_ : Int) (bs : List Int) (ins ms : List S51) (ws fm zs : List S45) (n i0 : Nat) (w : World) (hr0 : Kd.C k45 w A0 l0.length l0) (hc0 : l0.length ≤ c0)
    (hbo : messuagelaw27_both.f k l0 6 = some (ws, ins)) (ht : messuagelaw27_traces.f k = some true) (htw : trace_Write.f k ins = some (bs, 2)) :
    Calls Try.prog 5 #[.slice A0 l0.length c0, .int .i64 at_] w fun e w' => e = .returned (.bool true) ∧ Below w.heap.size w w' := by
  have HR0 := Aside0.mk hr0
  have HC0 := Aside0.mk hc0
  have HBO := Aside0.mk hbo
  have HT := Aside0.mk ht
  have HTW := Aside0.mk htw
  clear htw
  have HB := Aside0.mk (Below.refl w.heap.size w)
  clear hr0 hc0 hbo ht
  go_enter Try.func5, Try.ntmps5
  go_wp2_with (first | (go_at_call 7; (with_reducible refine (messuagelaw27_both.calls k A0 c0 l0 6 ws ins _ HR0.out HC0.out HBO.out).mono ?_); rintro e_ w7 ⟨v7, v7b, rfl, ho, ho2, hb⟩; obtain ⟨Aw, cw, rfl⟩ := Kd.S_slice ho; obtain ⟨Ai, ci, rfl⟩ := Kd.S_slice ho2; have HWS := Aside0.mk (Kd.N_mono (ok' := fun _ => True) (Kd.S_N ho) (fun _ _ => trivial)); have HIN := Aside0.mk (Kd.N_mono (ok' := fun _ => True) (Kd.S_N ho2) (fun _ _ => trivial)); clear ho ho2; have HB_ := Aside0.mk (below_then HB.out HB.out.size hb); clear HB ; have HB := HB_; clear HB_  hb) | (go_at_call 8; (with_reducible refine (trace_Write.calls k Ai ci ins bs _ _ (Kd.N_reads' HIN.out).2.2 (Kd.N_reads' HIN.out).2.1 HTW.out).mono ?_); rintro e_ w8 ⟨v8, rfl, ho, hb⟩; obtain ⟨Ab, cb, rfl⟩ := Kd.R_slice ho; have HR1 := Aside0.mk ho; clear ho; have HWS_ := Aside0.mk (Kd.N_below HWS.out hb); have HIN_ := Aside0.mk (Kd.N_below HIN.out hb); have HB_ := Aside0.mk (below_then HB.out HB.out.size hb); clear HB HWS HIN; have HWS := HWS_; have HIN := HIN_; have HB := HB_; clear HB_ HWS_ HIN_ hb) | (go_at_call 10; (with_reducible refine (messuagelaw27_traces.calls k true _ HT.out).mono ?_); rintro e_ w10 ⟨rfl, hb⟩; have HWS_ := Aside0.mk (Kd.N_below HWS.out hb); have HIN_ := Aside0.mk (Kd.N_below HIN.out hb); have HR1_ := Aside0.mk (Kd.R_below HR1.out hb); have HB_ := Aside0.mk (below_then HB.out HB.out.size hb); clear HB HWS HIN HR1; have HWS := HWS_; have HIN := HIN_; have HR1 := HR1_; have HB := HB_; clear HB_ HWS_ HIN_ HR1_ hb))
  go_ret
  exact ⟨rfl, HB.out⟩

set_option maxHeartbeats 4000000 in
set_option maxRecDepth 100000 in
theorem cut_none (k : Nat) (A0 : Option Addr) (c0 : Nat) (l0 : List S45) (at_ : Int) (bs : List Int) (ins ms : List S51) (ws fm zs : List S45) (n i0 : Nat) (w : World) (hr0 : Kd.C k45 w A0 l0.length l0) (hc0 : l0.length ≤ c0)
    (hbo : messuagelaw27_both.f k l0 6 = some (ws, ins)) (ht : messuagelaw27_traces.f k = some true) (htw : trace_Write.f k ins = some (bs, 0)) (hb0 : (bs.length : Int) = 0) :
    Calls Try.prog 5 #[.slice A0 l0.length c0, .int .i64 at_] w fun e w' => e = .returned (.bool true) ∧ Below w.heap.size w w' := by
  have HR0 := Aside0.mk hr0
  have HC0 := Aside0.mk hc0
  have HBO := Aside0.mk hbo
  have HT := Aside0.mk ht
  have HTW := Aside0.mk htw
  clear htw
  have HB := Aside0.mk (Below.refl w.heap.size w)
  clear hr0 hc0 hbo ht
  go_enter Try.func5, Try.ntmps5
  go_wp2_with (first | (go_at_call 7; (with_reducible refine (messuagelaw27_both.calls k A0 c0 l0 6 ws ins _ HR0.out HC0.out HBO.out).mono ?_); rintro e_ w7 ⟨v7, v7b, rfl, ho, ho2, hb⟩; obtain ⟨Aw, cw, rfl⟩ := Kd.S_slice ho; obtain ⟨Ai, ci, rfl⟩ := Kd.S_slice ho2; have HWS := Aside0.mk (Kd.N_mono (ok' := fun _ => True) (Kd.S_N ho) (fun _ _ => trivial)); have HIN := Aside0.mk (Kd.N_mono (ok' := fun _ => True) (Kd.S_N ho2) (fun _ _ => trivial)); clear ho ho2; have HB_ := Aside0.mk (below_then HB.out HB.out.size hb); clear HB ; have HB := HB_; clear HB_  hb) | (go_at_call 8; (with_reducible refine (trace_Write.calls k Ai ci ins bs _ _ (Kd.N_reads' HIN.out).2.2 (Kd.N_reads' HIN.out).2.1 HTW.out).mono ?_); rintro e_ w8 ⟨v8, rfl, ho, hb⟩; obtain ⟨Ab, cb, rfl⟩ := Kd.R_slice ho; have HR1 := Aside0.mk ho; clear ho; have HWS_ := Aside0.mk (Kd.N_below HWS.out hb); have HIN_ := Aside0.mk (Kd.N_below HIN.out hb); have HB_ := Aside0.mk (below_then HB.out HB.out.size hb); clear HB HWS HIN; have HWS := HWS_; have HIN := HIN_; have HB := HB_; clear HB_ HWS_ HIN_ hb) | (go_at_call 10; (with_reducible refine (messuagelaw27_traces.calls k true _ HT.out).mono ?_); rintro e_ w10 ⟨rfl, hb⟩; have HWS_ := Aside0.mk (Kd.N_below HWS.out hb); have HIN_ := Aside0.mk (Kd.N_below HIN.out hb); have HR1_ := Aside0.mk (Kd.R_below HR1.out hb); have HB_ := Aside0.mk (below_then HB.out HB.out.size hb); clear HB HWS HIN HR1; have HWS := HWS_; have HIN := HIN_; have HR1 := HR1_; have HB := HB_; clear HB_ HWS_ HIN_ HR1_ hb))
  go_ret
  exact ⟨rfl, HB.out⟩
end Go.Proofs.Ytahagjdnjggdaaa.T
