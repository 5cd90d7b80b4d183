/- The walks of packs, HeapmapPacks and HeapmapUnpacks. -/
import Derived.Test.YtephgjjlbnminaaDoorE
import Derived.Test.YtephgjjlbnminaaDoorF
namespace Go.Proofs.YtephgjjlbnminaaDoor.T
open Go.RowKit Go.Proofs.YtephgjjlbnminaaDoorW.PrintWords Go.Proofs.YtephgjjlbnminaaDoorW.PrintLast Go.Proofs.YtephgjjlbnminaaDoorW.PrintMore Go.Proofs.YtephgjjlbnminaaDoor.PH
set_option linter.unusedVariables false
set_option linter.unusedSimpArgs false
theorem unpack_is (s p : ByteArray) (ok : Bool) (w : World) (hs : s.size ≤ 70000) (hp : up s.data.toList = (p.data.toList, ok)) (htab : Lib.TabBelow Tryd.prog w.heap.size w "internal/strconv.uint64pow10" .u64 Lib.pow10Tab) :
    Calls Tryd.prog 9 #[.string s] w fun e w' => e = .returned (.tuple #[.string p, .bool ok]) ∧ Below w.heap.size w w' := by
  refine (unpack_own s w hs htab).mono ?_
  rintro e w' ⟨rfl, hb⟩
  refine ⟨?_, hb⟩
  rw [hp]
theorem pack_two : pack [46, 46, 112, 115] = [50, 46, 112, 115] := by
  unfold pack
  rw [pk_cons, if_neg (by decide), show rl 46 [46, 112, 115] = 1 by decide]
  simp only [List.drop_succ_cons, List.drop_zero]
  rw [pk_cons, if_neg (by decide), show rl 112 [115] = 0 by decide, List.drop_zero, pk_cons, if_neg (by decide), show rl 115 [] = 0 by decide, List.drop_zero, pk_nil]
  simp only [Option.map_some, Nat.one_ne_zero, if_false, if_true, Option.getD_some]
  rw [Lib.decDigits_one (by omega)]
  decide
theorem up_two : up [50, 46, 112, 115] = ([46, 46, 112, 115], true) := by
  have := up_pack [46, 46, 112, 115] (by decide) (by decide)
  rwa [pack_two] at this
theorem up_one : up [49, 46] = ([], false) := by
  rw [up_of_some [49, 46] [46] (by decide)]
  have : pack [46] = [46] := by
    unfold pack
    rw [pk_cons, if_neg (by decide), show rl 46 [] = 0 by decide, List.drop_zero, pk_nil]
    decide
  rw [this, if_neg (by decide)]
set_option maxHeartbeats 4000000 in
set_option maxRecDepth 100000 in
theorem packs_true (w : World) (htab : Lib.TabBelow Tryd.prog w.heap.size w "internal/strconv.uint64pow10" .u64 Lib.pow10Tab) :
    Calls Tryd.prog 7 #[] w fun e w' => e = .returned (.bool true) ∧ Below w.heap.size w w' := by
  have HT := Aside0.mk htab
  have HB := Aside0.mk (Below.refl w.heap.size w)
  clear htab
  have U1 := Aside0.mk (show up (⟨#[50, 46, 112, 115]⟩ : ByteArray).data.toList = ((⟨#[46, 46, 112, 115]⟩ : ByteArray).data.toList, true) from up_two)
  have U2 := Aside0.mk (show up (⟨#[49, 46]⟩ : ByteArray).data.toList = ((⟨#[]⟩ : ByteArray).data.toList, false) from up_one)
  have U3 := Aside0.mk (show pack (⟨#[46, 46, 112, 115]⟩ : ByteArray).data.toList = (⟨#[50, 46, 112, 115]⟩ : ByteArray).data.toList from pack_two)
  go_enter Tryd.func7, Tryd.ntmps7
  go_wp2_with (first
    | (go_at_call 9; (with_reducible refine (unpack_is ⟨#[50, 46, 112, 115]⟩ ⟨#[46, 46, 112, 115]⟩ true _ (by decide) U1.out (tab_later HT.out HB.out)).mono ?_); rintro e_ w2 ⟨rfl, hb⟩; have HB_ := Aside0.mk (below_then HB.out HB.out.size hb); clear HB hb; have HB := HB_; clear HB_)
    | (go_at_call 9; (with_reducible refine (unpack_is ⟨#[49, 46]⟩ ⟨#[]⟩ false _ (by decide) U2.out (tab_later HT.out HB.out)).mono ?_); rintro e_ w2 ⟨rfl, hb⟩; have HB_ := Aside0.mk (below_then HB.out HB.out.size hb); clear HB hb; have HB := HB_; clear HB_)
    | (go_at_call 6; (with_reducible refine (pack_is ⟨#[46, 46, 112, 115]⟩ ⟨#[50, 46, 112, 115]⟩ _ (by decide) U3.out (tab_later HT.out HB.out)).mono ?_); rintro e_ w2 ⟨rfl, hb⟩; have HB_ := Aside0.mk (below_then HB.out HB.out.size hb); clear HB hb; have HB := HB_; clear HB_))
  go_ret
  exact ⟨rfl, HB.out⟩
theorem bs_ok {s : ByteArray} {n : Nat} (hn : n ≤ s.size) : (s.extract 0 n).size = n := by rw [ByteArray.size_extract]; omega
set_option maxHeartbeats 4000000 in
set_option maxRecDepth 100000 in
theorem unpacks_law (s : ByteArray) (w : World) (hmax : s.size ≤ 9223372036854775807) (htab : Lib.TabBelow Tryd.prog w.heap.size w "internal/strconv.uint64pow10" .u64 Lib.pow10Tab) :
    Calls Tryd.prog 4 #[.string s] w fun e w' => e = .returned (.bool true) ∧ Below w.heap.size w w' := by
  have HT := Aside0.mk htab
  have HB := Aside0.mk (Below.refl w.heap.size w)
  clear htab
  obtain ⟨n, hn0⟩ : ∃ n, min s.size 60 = n := ⟨_, rfl⟩
  have hn : min (s.size : Int) 60 = (n : Int) := by omega
  have hn60 : n ≤ 60 := by omega
  have hnl : n ≤ s.size := by omega
  clear hn0
  obtain ⟨r, hr⟩ : ∃ r, s.extract 0 n = r := ⟨_, rfl⟩
  have hrs : r.size ≤ 70000 := by rw [← hr, bs_ok hnl]; omega
  obtain ⟨q, hq⟩ : ∃ q : ByteArray, (up r.data.toList).1 = q.data.toList := ⟨ba (up r.data.toList).1, by rw [ba_data]⟩
  obtain ⟨ok, hok⟩ : ∃ ok, (up r.data.toList).2 = ok := ⟨_, rfl⟩
  have HU := Aside0.mk (show up r.data.toList = (q.data.toList, ok) by rw [← hq, ← hok])
  have HQ := Aside0.mk hq
  have HO := Aside0.mk hok
  have hqq : (q.toList == q.toList) = true := by simp
  have hoo : (ok == ok) = true := by simp
  have HRS := Aside0.mk hrs
  clear hq hok hrs
  go_enter Tryd.func4, Tryd.ntmps4
  go_wp2_with (first
    | (go_at_call 9; (with_reducible refine (unpack_is r q ok _ HRS.out HU.out (tab_later HT.out HB.out)).mono ?_); rintro e_ w2 ⟨rfl, hb⟩; have HB_ := Aside0.mk (below_then HB.out HB.out.size hb); clear HB hb; have HB := HB_; clear HB_)
    | (go_at_call 10; (with_reducible refine (ref_unpack r q ok _ (Nat.le_trans HRS.out (by decide)) HQ.out HO.out).mono ?_); rintro e_ w2 ⟨rfl, hb⟩; have HB_ := Aside0.mk (below_then HB.out HB.out.size hb); clear HB hb; have HB := HB_; clear HB_)
    | (go_at_call 7; (with_reducible refine (packs_true _ (tab_later HT.out HB.out)).mono ?_); rintro e_ w2 ⟨rfl, hb⟩; have HB_ := Aside0.mk (below_then HB.out HB.out.size hb); clear HB hb; have HB := HB_; clear HB_))
  go_ret
  exact ⟨rfl, HB.out⟩
def RelL (w : World) (r : ByteArray) (v4 : Value) (wr : World) : Prop :=
  ∃ i : Nat, v4 = .int .i64 (i : Int) ∧ i ≤ r.size ∧ (∀ d ∈ r.data.toList.take i, dg d = false) ∧ Below w.heap.size w wr
set_option maxHeartbeats 4000000 in
set_option maxRecDepth 100000 in
theorem packs_law (s : ByteArray) (w : World) (hmax : s.size ≤ 9223372036854775807) (htab : Lib.TabBelow Tryd.prog w.heap.size w "internal/strconv.uint64pow10" .u64 Lib.pow10Tab) :
    Calls Tryd.prog 3 #[.string s] w fun e w' => e = .returned (.bool true) ∧ Below w.heap.size w w' := by
  have HT := Aside0.mk htab
  have HB := Aside0.mk (Below.refl w.heap.size w)
  clear htab
  obtain ⟨n, hn0⟩ : ∃ n, min s.size 300 = n := ⟨_, rfl⟩
  have hn : min (s.size : Int) 300 = (n : Int) := by omega
  have hn300 : n ≤ 300 := by omega
  have hnl : n ≤ s.size := by omega
  clear hn0
  obtain ⟨r, hr⟩ : ∃ r, s.extract 0 n = r := ⟨_, rfl⟩
  have hrn : r.size ≤ 300 := by rw [← hr, bs_ok hnl]; omega
  obtain ⟨p, hp⟩ : ∃ p : ByteArray, pack r.data.toList = p.data.toList := ⟨ba (pack r.data.toList), by rw [ba_data]⟩
  have hps : p.size ≤ 70000 := by
    rw [Lib.size_eq, ← hp]
    unfold pack
    cases hpk : pk r.data.toList with
    | none => simp
    | some o =>
      have := pack_le r.data.toList.length _ _ (Nat.le_refl _) hpk
      rw [← Lib.size_eq] at this
      simp only [Option.getD_some]; omega
  have HP := Aside0.mk hp
  have hqq : (p.toList != p.toList) = false := by simp
  have HPS := Aside0.mk hps
  have HRS := Aside0.mk (show r.size ≤ 70000 by omega)
  clear hp hps
  go_enter Tryd.func3, Tryd.ntmps3
  go_wp2_with (first
    | (go_at_call 6; (with_reducible refine (pack_is r p _ HRS.out HP.out (tab_later HT.out HB.out)).mono ?_); rintro e_ w2 ⟨rfl, hb⟩; have HB_ := Aside0.mk (below_then HB.out HB.out.size hb); clear HB hb; have HB := HB_; clear HB_)
    | (go_at_call 8; (with_reducible refine (ref_pack r p _ (Nat.le_trans HRS.out (by decide)) HP.out).mono ?_); rintro e_ w2 ⟨rfl, hb⟩; have HB_ := Aside0.mk (below_then HB.out HB.out.size hb); clear HB hb; have HB := HB_; clear HB_)
    | (go_at_call 7; (with_reducible refine (packs_true _ (tab_later HT.out HB.out)).mono ?_); rintro e_ w2 ⟨rfl, hb⟩; have HB_ := Aside0.mk (below_then HB.out HB.out.size hb); clear HB hb; have HB := HB_; clear HB_))
  clear hqq hr hn
  go_loopw [4] (fun v4 wr => RelL w r v4 wr) (fun v4 _ => r.size - (intOf v4).toNat)
  case atStart => exact ⟨0, rfl, Nat.zero_le _, by simp, HB.out⟩
  case round =>
    clear HB
    obtain ⟨i, rfl, hi, hno, hB⟩ := hrel
    have HB := Aside0.mk hB
    have HN := Aside0.mk hno
    clear hB hno
    have hi0 : (0 : Int) ≤ (i : Int) := by omega
    by_cases hlt : i < r.size
    · have hltb : decide (i < r.size) = true := decide_eq_true hlt
      have hltI : (i : Int) < (r.size : Int) := by omega
      obtain ⟨c, hc⟩ : ∃ c, r.data.toList[i]? = some c := ⟨_, List.getElem?_eq_getElem (by rw [← Lib.size_eq]; exact hlt)⟩
      have hxi : ∀ h' : i < r.size, r[i]'h' = c := get_of hc
      by_cases hg : dg c = true
      · obtain ⟨h48, h57⟩ := dg_le c hg
        have h1 : decide ((48 : Int) ≤ (c.toNat : Int)) = true := decide_eq_true (by omega)
        have h2 : decide ((c.toNat : Int) ≤ 57) = true := decide_eq_true (by omega)
        have h3 : (48 : Int) ≤ (c.toNat : Int) := by omega
        have h4 : (c.toNat : Int) ≤ 57 := by omega
        have hpe : p.data.toList = [] := by rw [← HP.out]; exact pack_digit _ ⟨c, List.mem_of_getElem? hc, hg⟩
        have hpp : p.toList = [] := by rw [toList_data, hpe]
        have hpq : p.toList.isEmpty = true := by rw [hpp]; rfl
        clear hc hg hpe
        go_wp2_with fail
        go_ret
        exact ⟨by first | rfl | (simp [hpp]; done) | (rw [hpp]; rfl), HB.out⟩
      · have hg' : dg c = false := by simpa using hg
        have hr2 : ∀ d ∈ r.data.toList.take (i + 1), dg d = false := by
          intro d hd
          rw [List.take_add_one, List.mem_append] at hd
          rcases hd with hd | hd
          · exact HN.out d hd
          · rw [hc] at hd; simp at hd; rw [hd]; exact hg'
        have HR2 := Aside0.mk hr2
        have hcase : (decide ((48 : Int) ≤ (c.toNat : Int)) = false ∧ ¬ (48 : Int) ≤ (c.toNat : Int)) ∨ (decide ((48 : Int) ≤ (c.toNat : Int)) = true ∧ (48 : Int) ≤ (c.toNat : Int) ∧ decide ((c.toNat : Int) ≤ 57) = false ∧ ¬ (c.toNat : Int) ≤ 57) := by
          unfold dg at hg
          by_cases h : 48 ≤ c.toNat
          · have : ¬ c.toNat ≤ 57 := by intro h2; apply hg; simp [h, h2]
            exact .inr ⟨decide_eq_true (by omega), by omega, decide_eq_false (by omega), by omega⟩
          · exact .inl ⟨decide_eq_false (by omega), by omega⟩
        clear hc hg hg' hr2
        rcases hcase with ⟨h1, h3⟩ | ⟨h1, h3, h2, h4⟩
        all_goals
          go_wp2_with fail
          go_roundw
          case rel => exact ⟨i + 1, by go_num, by omega, HR2.out, HB.out⟩
          case measure => simp [intOf]; omega
    · obtain rfl : i = r.size := by omega
      have hltb : decide (r.size < r.size) = false := decide_eq_false hlt
      have hltI : ¬ (r.size : Int) < (r.size : Int) := by omega
      have hall : ∀ d ∈ r.data.toList, dg d = false := by
        have := HN.out
        rwa [List.take_of_length_le (by rw [← Lib.size_eq]; exact Nat.le_refl _)] at this
      have HU := Aside0.mk (show up p.data.toList = (r.data.toList, true) by rw [← HP.out]; exact up_pack _ (by rw [← Lib.size_eq]; omega) hall)
      have hrr : (r.toList == r.toList) = true := by simp
      clear hall
      go_wp2_with (go_at_call 9; (with_reducible refine (unpack_is p r true _ HPS.out HU.out (tab_later HT.out HB.out)).mono ?_); rintro e_ w2 ⟨rfl, hb⟩; have HB_ := Aside0.mk (below_then HB.out HB.out.size hb); clear HB hb; have HB := HB_; clear HB_)
      go_ret
      exact ⟨rfl, HB.out⟩
end Go.Proofs.YtephgjjlbnminaaDoor.T
