/- heapmap.Unpack: what it comes to. -/
import Derived.Test.YtephgjjlbnminaaDoorD
namespace Go.Proofs.YtephgjjlbnminaaDoor.T
open Go.RowKit Go.Proofs.YtephgjjlbnminaaDoorW.PrintWords Go.Proofs.YtephgjjlbnminaaDoorW.PrintLast Go.Proofs.YtephgjjlbnminaaDoorW.PrintMore Go.Proofs.YtephgjjlbnminaaDoor.PH
set_option linter.unusedVariables false
set_option linter.unusedSimpArgs false
def RelU (w : World) (s : ByteArray) (v5 : Value) (wr : World) : Prop :=
  ∃ (r : ByteArray) (acc : List UInt8), v5 = .string r ∧ Lib.IsBuilderF 33 5 w.heap.size w.heap.size (Lib.byteCells acc) wr ∧ Below w.heap.size w wr ∧ dc true s.data.toList 0 false 0 = (dc true r.data.toList 0 false acc.length).map (acc ++ ·) ∧ acc.length ≤ 65536 ∧ r.size ≤ s.size
def RelW (w : World) (acc : List UInt8) (c : UInt8) (n : Nat) (v33 : Value) (wr : World) : Prop :=
  ∃ j : Nat, v33 = .int .i64 (j : Int) ∧ j ≤ n ∧ Lib.IsBuilderF 33 5 w.heap.size w.heap.size (Lib.byteCells (acc ++ List.replicate j c)) wr ∧ Below w.heap.size w wr
theorem up_of_none (l : List UInt8) (h : dc true l 0 false 0 = none) : up l = ([], false) := by unfold up unp; rw [h]; rfl
theorem up_of_some (l o : List UInt8) (h : dc true l 0 false 0 = some o) : up l = if pack o = l then (o, true) else ([], false) := by
  unfold up unp
  rw [h]
  simp only [Option.bind_some]
  by_cases hp : pack o = l
  · rw [if_pos hp, if_pos hp]
  · rw [if_neg hp, if_neg hp]
theorem tab_later {P : Program} {w w' : World} {name : String} {k : IntKind} {zs : List Int} (h : Lib.TabBelow P w.heap.size w name k zs) (hb : Below w.heap.size w w') : Lib.TabBelow P w'.heap.size w' name k zs :=
  fun w2 h2 => h w2 (below_then hb hb.size h2)
theorem pack_is (s p : ByteArray) (w : World) (hs : s.size ≤ 70000) (hp : pack s.data.toList = p.data.toList) (htab : Lib.TabBelow Tryd.prog w.heap.size w "internal/strconv.uint64pow10" .u64 Lib.pow10Tab) :
    Calls Tryd.prog 6 #[.string s] w fun e w' => e = .returned (.string p) ∧ Below w.heap.size w w' := by
  refine (pack_own s w hs htab).mono ?_
  rintro e w' ⟨rfl, hb⟩
  refine ⟨?_, hb⟩
  rw [hp]
set_option maxHeartbeats 4000000 in
set_option maxRecDepth 100000 in
theorem unpack_own (s : ByteArray) (w : World) (hs : s.size ≤ 70000) (htab : Lib.TabBelow Tryd.prog w.heap.size w "internal/strconv.uint64pow10" .u64 Lib.pow10Tab) :
    Calls Tryd.prog 9 #[.string s] w fun e w' => e = .returned (.tuple #[.string ⟨(up s.data.toList).1.toArray⟩, .bool (up s.data.toList).2]) ∧ Below w.heap.size w w' := by
  have HT := Aside0.mk htab
  clear htab
  go_enter Tryd.func9, Tryd.ntmps9
  go_wp2
  go_loopw [5, 6, 7, 8] (fun v5 v6 v7 v8 wr => RelU w s v5 wr) (fun v5 _ _ _ _ => strLen v5)
  case atStart => exact ⟨s, [], rfl, Lib.IsBuilderF.of (Lib.fresh_isBuilder _ _ w), below_alloc (Below.refl _ _) _, by simp, by simp, Nat.le_refl _⟩
  case round =>
    obtain ⟨r, acc, rfl, hI, hB, hpk, hal, hrs⟩ := hrel
    have HI := Aside0.mk hI
    have HB := Aside0.mk hB
    have HP := Aside0.mk hpk
    clear hI hB hpk
    obtain ⟨l0, hl0⟩ : ∃ l0, r.data.toList = l0 := ⟨_, rfl⟩
    have hsz : l0.length = r.size := by rw [← hl0, Array.length_toList]; rfl
    by_cases hnil : l0 = []
    · subst hnil
      have h0 : r.toList = [] := by rw [toList_data, hl0]
      have h1 : (!r.toList.isEmpty) = false := by rw [h0]; rfl
      have hdc : dc true s.data.toList 0 false 0 = some acc := by
        have h2 := HP.out
        rw [hl0] at h2
        simpa [dc] using h2
      have HDC := Aside0.mk (up_of_some _ _ hdc)
      obtain ⟨pb, hpb⟩ : ∃ pb : ByteArray, pb.data.toList = pack acc := ⟨⟨(pack acc).toArray⟩, by simp⟩
      have hacc : (⟨acc.toArray⟩ : ByteArray).data.toList = acc := by simp
      have HPB := Aside0.mk (show pack (⟨acc.toArray⟩ : ByteArray).data.toList = pb.data.toList by rw [hacc, hpb])
      have HAS := Aside0.mk (show (⟨acc.toArray⟩ : ByteArray).size ≤ 70000 by rw [Lib.size_eq, hacc]; omega)
      clear hl0 hdc hacc HP
      by_cases hps : pb = s
      · subst hps
        have hd := HDC.out
        rw [if_pos hpb.symm] at hd
        have HD := Aside0.mk hd
        have hq1 : (pb.toList != pb.toList) = false := by simp
        have hq2 : (pb.toList == pb.toList) = true := by simp
        clear hd hpb HDC
        go_wp2_with (first
          | (go_at_call 6; (with_reducible refine (pack_is ⟨acc.toArray⟩ pb _ HAS.out HPB.out (tab_later HT.out HB2.out)).mono ?_); rintro e_ w3 ⟨rfl, hb3⟩; have HI3 := Aside0.mk (ib_below HI2.out hb3); have HB3 := Aside0.mk (below_then HB2.out HB2.out.size hb3); clear hb3 HI2)
          | (go_at_call 16; (with_reducible refine (Tryd.Builder_String_any_k w.heap.size w.heap.size acc _ HI3.out HB3.out.size).mono ?_); rintro e_ w4 ⟨rfl, _, hb4, _⟩; have HB4 := Aside0.mk (HB3.out.trans hb4); clear hb4)
          | (go_at_call 16; (with_reducible refine (Tryd.Builder_String_any_k w.heap.size w.heap.size acc _ HI.out HB.out.size).mono ?_); rintro e_ w2 ⟨rfl, hI2, hb2, _⟩; have HI2 := Aside0.mk hI2; have HB2 := Aside0.mk (HB.out.trans hb2); clear hI2 hb2 HI))
        go_ret2
        exact ⟨by rw [HD.out]; rfl, HB4.out⟩
      · have hne : ¬ pb.data.toList = s.data.toList := fun e => hps (bytes_ext e)
        have hd := HDC.out
        rw [← hpb, if_neg hne] at hd
        have HD := Aside0.mk hd
        have hq0 : ¬ pb.toList = s.toList := by rw [toList_data, toList_data]; exact hne
        have hq1 : (pb.toList != s.toList) = true := bne_iff_ne.mpr hq0
        have hq2 : (pb.toList == s.toList) = false := beq_eq_false_iff_ne.mpr hq0
        clear hd hpb HDC hne hps
        go_wp2_with (first
          | (go_at_call 6; (with_reducible refine (pack_is ⟨acc.toArray⟩ pb _ HAS.out HPB.out (tab_later HT.out HB2.out)).mono ?_); rintro e_ w3 ⟨rfl, hb3⟩; have HI3 := Aside0.mk (ib_below HI2.out hb3); have HB3 := Aside0.mk (below_then HB2.out HB2.out.size hb3); clear hb3 HI2)
          | (go_at_call 16; (with_reducible refine (Tryd.Builder_String_any_k w.heap.size w.heap.size acc _ HI.out HB.out.size).mono ?_); rintro e_ w2 ⟨rfl, hI2, hb2, _⟩; have HI2 := Aside0.mk hI2; have HB2 := Aside0.mk (HB.out.trans hb2); clear hI2 hb2 HI))
        go_ret2
        exact ⟨by rw [HD.out]; rfl, HB3.out⟩
    · have h0 : ¬ r.toList = [] := by rw [toList_data, hl0]; exact hnil
      have h1 : (!r.toList.isEmpty) = true := by rw [toList_data, hl0]; cases l0 <;> simp_all
      cases hcn : cn l0 0 with
      | none =>
        have hct : cntR 0 r.data.toList 0 = (0, 0, false) := by rw [hl0]; unfold cntR; rw [hcn]
        have hdc : dc true s.data.toList 0 false 0 = none := by rw [HP.out, hl0, dc_none true l0 0 false _ hcn]; rfl
        have HD := Aside0.mk (up_of_none _ hdc)
        have HC := Aside0.mk hct
        clear hct hdc hcn HP hl0
        go_wp2_with (go_at_call 18; (with_reducible refine (count_own r (by omega) 0 0 false HC.out _).mono ?_); rintro e_ w2 ⟨rfl, nd, rfl⟩)
        go_ret2
        exact ⟨by rw [HD.out]; rfl, pw_below_drewN HB.out _⟩
      | some mq =>
        obtain ⟨m, q⟩ := mq
        obtain ⟨kd, hkd, hkl⟩ := cn_len l0 0 m q hcn
        have hmle := cn_le l0 0 m q (by omega) hcn
        cases q with
        | nil =>
          have hct : cntR 0 r.data.toList 0 = ((m : Int), (r.size : Int), true) := by
            rw [hl0]; unfold cntR; rw [hcn]
            simp only [List.length_nil, Nat.sub_zero, Nat.zero_add]
            rw [if_neg (by intro e; exact hnil (List.eq_nil_of_length_eq_zero e)), hsz]
          have hdc : dc true s.data.toList 0 false 0 = none := by rw [HP.out, hl0, dc_end l0 0 m false _ (.inr hnil) hcn]; rfl
          have HD := Aside0.mk (up_of_none _ hdc)
          have HC := Aside0.mk hct
          have hkk : ((r.size : Int) == (r.size : Int)) = true := by simp
          clear hct hdc hcn HP hl0 hkd
          go_wp2_with (go_at_call 18; (with_reducible refine (count_own r (by omega) _ _ true HC.out _).mono ?_); rintro e_ w2 ⟨rfl, nd, rfl⟩)
          go_ret2
          exact ⟨by rw [HD.out]; rfl, pw_below_drewN HB.out _⟩
        | cons c q =>
          simp only [List.length_cons] at hkl
          obtain ⟨has, hhas⟩ : ∃ has : Bool, decide (q.length + 1 < l0.length) = has := ⟨_, rfl⟩
          obtain ⟨n, hn⟩ : ∃ n : Nat, mul has m = n := ⟨_, rfl⟩
          have hnle : n ≤ 65536 := by rw [← hn]; unfold mul; split <;> omega
          have hct : cntR 0 r.data.toList 0 = ((n : Int), (kd : Int), true) := by
            rw [hl0]; unfold cntR; rw [hcn]
            simp only [List.length_cons, Nat.zero_add]
            rw [show l0.length - (q.length + 1) = kd by omega]
            congr 1
            rw [← hn, ← hhas]
            unfold mul
            by_cases hk0 : kd = 0
            · rw [if_pos hk0, if_neg (by simp; omega)]; rfl
            · rw [if_neg hk0, if_pos (by simp; omega)]
          have hst := dc_step true l0 0 m false acc.length c q hcn
          rw [Bool.false_or, hhas] at hst
          have hcg := cn_head l0 0 m c q hcn
          simp only [dc] at hst
          rw [if_neg (by rw [hcg]; simp), hn] at hst
          have hkr : kd < r.size := by omega
          have hxk : ∀ h' : kd < r.size, r[kd]'h' = c := get_of (by
            have : (l0.drop kd)[0]? = some c := by rw [← hkd]; rfl
            rw [List.getElem?_drop] at this
            rw [hl0]; simpa using this)
          have hex : (r.extract (kd + 1) r.size).data.toList = q := by
            rw [to_end, hl0, ← List.drop_drop, ← hkd]; rfl
          have HX := Aside0.mk hex
          have HC := Aside0.mk hct
          have hkk : ((kd : Int) == (r.size : Int)) = false := by simp; omega
          have hk0 : (0 : Int) ≤ (kd : Int) := by omega
          have hlb : (Lib.byteCells acc).length = acc.length := Lib.byteCells_length _
          have hdcs : dc true s.data.toList 0 false 0 = (if 65536 < acc.length + n then none else (dc true q 0 false (acc.length + n)).map (List.replicate n c ++ ·)).map (acc ++ ·) := by rw [HP.out, hl0, hst]
          clear hct hcn HP hl0 hkd hst hn hhas hex
          by_cases hov : 65536 < acc.length + n
          · rw [if_pos hov] at hdcs
            have HD := Aside0.mk (up_of_none _ hdcs)
            have hovb : decide (65536 < (acc.length : Int) + (n : Int)) = true := decide_eq_true (by omega)
            have hovI : 65536 < (acc.length : Int) + (n : Int) := by omega
            clear hdcs hxk
            go_wp2_with (first
              | (go_at_call 18; (with_reducible refine (count_own r (by omega) _ _ true HC.out _).mono ?_); rintro e_ w2 ⟨rfl, nd, rfl⟩)
              | (go_at_call 19; (with_reducible refine (Tryd.Builder_Len_f w.heap.size w.heap.size (Lib.byteCells acc) _ (ib_drew HI.out _)).mono ?_); rintro e_ w3 ⟨rfl, rfl⟩; rw [hlb]))
            go_ret2
            exact ⟨by rw [HD.out]; rfl, pw_below_drewN HB.out _⟩
          · rw [if_neg hov] at hdcs
            have HD := Aside0.mk hdcs
            have hovb : decide (65536 < (acc.length : Int) + (n : Int)) = false := decide_eq_false (by omega)
            have hovI : ¬ 65536 < (acc.length : Int) + (n : Int) := by omega
            clear hdcs
            have H7 := Aside0.mk (show ∀ nd, RelW w acc c n (.int .i64 0) (wr.drewN nd) from fun nd => ⟨0, rfl, Nat.zero_le _, by rw [List.replicate_zero, List.append_nil]; exact HI.out, pw_below_drewN HB.out _⟩)
            go_wp2_with (first
              | (go_at_call 18; (with_reducible refine (count_own r (by omega) _ _ true HC.out _).mono ?_); rintro e_ w2 ⟨rfl, nd, rfl⟩)
              | (go_at_call 19; (with_reducible refine (Tryd.Builder_Len_f w.heap.size w.heap.size (Lib.byteCells acc) _ (ib_drew HI.out _)).mono ?_); rintro e_ w3 ⟨rfl, rfl⟩; rw [hlb]))
            go_loopw [33] (fun v33 wr => RelW w acc c n v33 wr) (fun v33 _ => n - (intOf v33).toNat)
            case atStart => exact H7.out _
            case round =>
              clear H7 HI HB
              obtain ⟨j, rfl, hjn, hI, hB⟩ := hrel
              have HI := Aside0.mk hI
              have HB := Aside0.mk hB
              clear hI hB
              have hj0 : (0 : Int) ≤ (j : Int) := by omega
              by_cases hlt : j < n
              · have hltb : decide (j < n) = true := decide_eq_true hlt
                have hltI : (j : Int) < (n : Int) := by omega
                have HLL := Aside0.mk (show (Lib.byteCells (acc ++ List.replicate j c)).length + 1 ≤ 140737488355328 by rw [Lib.byteCells_length, List.length_append, List.length_replicate]; omega)
                go_wp2_with (go_at_call 15; (with_reducible refine (wbyte w.heap.size w.heap.size (Lib.byteCells (acc ++ List.replicate j c)) (c.toNat : Int) _ HI.out HLL.out HB.out.size).mono ?_); rintro e_ w4 ⟨rfl, hI2, hb2⟩; have HI2 := Aside0.mk hI2; have HB2 := Aside0.mk (HB.out.trans hb2); clear hI2 hb2)
                go_roundw
                case rel => exact ⟨j + 1, by go_num, by omega, by rw [List.replicate_succ', ← List.append_assoc, Lib.byteCells_append]; exact HI2.out, HB2.out⟩
                case measure => simp [intOf]; omega
              · obtain rfl : j = n := by omega
                have hltb : decide (j < j) = false := decide_eq_false hlt
                have hltI : ¬ (j : Int) < (j : Int) := by omega
                have hsl1 : (kd : Int) + 1 ≤ (r.size : Int) := by omega
                go_wp2_with fail
                go_roundw
                case rel =>
                  refine ⟨_, acc ++ List.replicate j c, rfl, HI.out, HB.out, ?_, ?_, ?_⟩
                  · rw [HD.out, List.length_append, List.length_replicate, HX.out, Option.map_map]
                    congr 1
                    funext x
                    simp
                  · rw [List.length_append, List.length_replicate]; omega
                  · rw [ByteArray.size_extract]; omega
                case measure => simp [strLen]; omega
end Go.Proofs.YtephgjjlbnminaaDoor.T
