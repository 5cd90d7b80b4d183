/- heapmap.Pack: what it comes to. -/
import Derived.Test.YtephgjjlbnminaaDoorA
import Derived.Test.YtephgjjlbnminaaDoorB
import Derived.Test.YtephgjjlbnminaaDoorP2
import Derived.Lib.AppendIntMem
namespace Go.Proofs.YtephgjjlbnminaaDoor.T
open Go.RowKit Go.Proofs.YtephgjjlbnminaaDoorW.PrintWords Go.Proofs.YtephgjjlbnminaaDoorW.PrintLast Go.Proofs.YtephgjjlbnminaaDoorW.PrintMore Go.Proofs.YtephgjjlbnminaaDoor.PH
set_option linter.unusedVariables false
set_option linter.unusedSimpArgs false
theorem bytes_ext {a b : ByteArray} (h : a.data.toList = b.data.toList) : a = b := by
  obtain ⟨⟨a⟩⟩ := a
  obtain ⟨⟨b⟩⟩ := b
  simp at h
  rw [h]
def strLen : Value → Nat
  | .string s => s.size
  | _ => 0
theorem bt_of {s : ByteArray} {i : Nat} {c : UInt8} (h : s.data.toList[i]? = some c) : bt s (i : Int) = (c.toNat : Int) := by
  obtain ⟨h1, h2⟩ := List.getElem?_eq_some_iff.1 h
  have h3 : i < s.size := by rw [Array.length_toList] at h1; exact h1
  unfold bt
  rw [dif_pos (by simpa using h3)]
  rw [← h2]
  simp
  rfl
theorem get_of {s : ByteArray} {i : Nat} {c : UInt8} (h : s.data.toList[i]? = some c) : ∀ h' : i < s.size, s[i]'h' = c := by
  intro h'
  obtain ⟨h1, h2⟩ := List.getElem?_eq_some_iff.1 h
  rw [← h2]; rfl
theorem digit_dg (c : UInt8) : heapmap_digit.f (c.toNat : Int) = some (dg c) := by
  unfold heapmap_digit.f dg
  by_cases h : 48 ≤ c.toNat
  · rw [if_pos (by omega)]
    congr 1
    rw [decide_eq_true h, Bool.true_and]
    by_cases h2 : c.toNat ≤ 57
    · rw [decide_eq_true h2, decide_eq_true (by omega)]
    · rw [decide_eq_false h2, decide_eq_false (by omega)]
  · rw [if_neg (by omega), decide_eq_false h, Bool.false_and]
theorem rl_get (c : UInt8) : ∀ (l : List UInt8) (j : Nat), j < rl c l → l[j]? = some c
  | [], j, h => by simp [rl] at h
  | d :: l, j, h => by
    simp only [rl] at h
    split at h
    · rename_i hd
      cases j with
      | zero => rw [List.getElem?_cons_zero, hd]
      | succ j => rw [List.getElem?_cons_succ]; exact rl_get c l j (by omega)
    · omega
theorem rl_stop (c : UInt8) : ∀ (l : List UInt8), rl c l < l.length → ∃ d, l[rl c l]? = some d ∧ d ≠ c
  | [], h => by simp at h
  | d :: l, h => by
    simp only [rl] at h ⊢
    split at h
    · rename_i hd
      rw [if_pos hd, List.getElem?_cons_succ]
      exact rl_stop c l (by simp only [List.length_cons] at h; omega)
    · rename_i hd
      rw [if_neg hd, List.getElem?_cons_zero]
      exact ⟨d, rfl, hd⟩
theorem toList_data (s : ByteArray) : s.toList = s.data.toList := by
  have h := Lib.extract_toList s 0 s.size
  have h2 := Lib.extract_data s 0 s.size
  have h3 : s.extract 0 s.size = s := bytes_ext (by rw [h2, List.drop_zero, Nat.sub_zero, List.take_of_length_le (by rw [← Lib.size_eq]; exact Nat.le_refl _)])
  rw [h3] at h h2
  rw [h, ← h2]
theorem ib_drew {T e B b : Nat} {bs : List Value} {w : World} (h : Lib.IsBuilderF T e B b bs w) (n : Nat) : Lib.IsBuilderF T e B b bs (w.drewN n) := h
theorem below_grow {B : Nat} {w0 w : World} (h : Below B w0 w) (hB : B ≤ w.heap.size) (k : Nat) (os : Array Obj) : Below B w0 (Go.Sort.grow (w.drewN k) os) :=
  h.trans ⟨rfl, rfl, rfl, by show w.heap.size ≤ (w.heap ++ os).size; rw [Array.size_append]; omega, fun i hi => by show (w.heap ++ os)[i]? = _; rw [Array.getElem?_append_left (by omega)]⟩
/-- A builder stays one where nothing older is written. -/
theorem ib_below {T e B b : Nat} {bs : List Value} {w w' : World} (h : Lib.IsBuilderF T e B b bs w) (hb : Below w.heap.size w w') : Lib.IsBuilderF T e B b bs w' := by
  have one : ∀ p, Lib.BuilderAtF T e B b p bs w → Lib.BuilderAtF T e B b p bs w' := by
    rintro p ⟨hB, v, hbk, hown, hne⟩
    refine ⟨hB, v, (hb.block b (Array.getElem?_eq_some_iff.1 hbk).1).trans hbk, ?_, hne⟩
    exact hown.kept (grown_of_below hb none) (by cases h : v.ownBlock <;> simp)
  rcases h with h | h
  · exact .inl (one _ h)
  · exact .inr (one _ h)
theorem ib_grow {T e B b : Nat} {bs : List Value} {w : World} (h : Lib.IsBuilderF T e B b bs w) (k : Nat) (os : Array Obj) : Lib.IsBuilderF T e B b bs (Go.Sort.grow (w.drewN k) os) :=
  ib_below h (below_grow (Below.refl _ _) (Nat.le_refl _) k os)
theorem to_end (s : ByteArray) (a : Nat) : (s.extract a s.size).data.toList = s.data.toList.drop a := by
  rw [Lib.extract_data, List.take_of_length_le]
  rw [List.length_drop, ← Lib.size_eq]
  exact Nat.le_refl _
theorem tab_at {P : Program} {B : Nat} {w w' : World} {name : String} {k : IntKind} {zs : List Int} (h : Lib.TabBelow P B w name k zs) (hb : Below B w w') : Lib.TabIs P w' name k zs := h w' hb
theorem itoa_is (i : Nat) (hi : i ≤ 1000000) (ds : List UInt8) (hds : Lib.decDigits i = ds) (w : World) (htab : Lib.TabIs Tryd.prog w "internal/strconv.uint64pow10" .u64 Lib.pow10Tab) :
    Calls Tryd.prog 14 #[.int .i64 (i : Int)] w fun e w' => e = .returned (.string ⟨ds.toArray⟩) ∧ Below w.heap.size w w' := by
  refine (Tryd.strconv_Itoa (i : Int) (by omega) (by omega) w htab).mono ?_
  rintro e w' ⟨rfl, k, os, rfl⟩
  rw [Lib.itoa_nonneg, hds]
  exact ⟨rfl, below_grow (Below.refl _ _) (Nat.le_refl _) k os⟩
def RelN (w : World) (acc : List UInt8) (m : Nat) (v4 : Value) (wr : World) : Prop :=
  ∃ i : Nat, v4 = .int .i64 (i : Int) ∧ 1 ≤ i ∧ i ≤ m + 1 ∧ Lib.IsBuilderF 33 5 w.heap.size w.heap.size (Lib.byteCells acc) wr ∧ Below w.heap.size w wr
def RelP (w : World) (s : ByteArray) (v0 : Value) (wr : World) : Prop :=
  ∃ (r : ByteArray) (acc : List UInt8), v0 = .string r ∧ Lib.IsBuilderF 33 5 w.heap.size w.heap.size (Lib.byteCells acc) wr ∧ Below w.heap.size w wr ∧ pk s.data.toList = (pk r.data.toList).map (acc ++ ·) ∧ acc.length + 2 * r.size ≤ 2 * s.size
set_option maxHeartbeats 4000000 in
set_option maxRecDepth 100000 in
theorem pack_own (s : ByteArray) (w : World) (hs : s.size ≤ 70000) (htab : Lib.TabBelow Tryd.prog w.heap.size w "internal/strconv.uint64pow10" .u64 Lib.pow10Tab) :
    Calls Tryd.prog 6 #[.string s] w fun e w' => e = .returned (.string ⟨(pack s.data.toList).toArray⟩) ∧ Below w.heap.size w w' := by
  have HT := Aside0.mk htab
  clear htab
  go_enter Tryd.func6, Tryd.ntmps6
  go_wp2
  go_loopw [0, 4] (fun v0 v4 wr => RelP w s v0 wr) (fun v0 _ _ => strLen v0)
  case atStart => exact ⟨s, [], rfl, Lib.IsBuilderF.of (Lib.fresh_isBuilder _ _ w), below_alloc (Below.refl _ _) _, by simp, by simp⟩
  case round =>
    obtain ⟨r, acc, rfl, hI, hB, hpk, hal⟩ := hrel
    have HI := Aside0.mk hI
    have HB := Aside0.mk hB
    have HP := Aside0.mk hpk
    clear hI hB hpk
    obtain ⟨l0, hl0⟩ : ∃ l0, r.data.toList = l0 := ⟨_, rfl⟩
    have hsz : l0.length = r.size := by rw [← hl0, Array.length_toList]; rfl
    cases l0 with
    | nil =>
      have HL := Aside0.mk hl0
      have h0 : r.toList = [] := by rw [toList_data, hl0]
      have h1 : (!r.toList.isEmpty) = false := by rw [h0]; rfl
      go_wp2_with (go_at_call 16; (with_reducible refine (Tryd.Builder_String_any_k w.heap.size w.heap.size acc _ HI.out HB.out.size).mono ?_); rintro e_ w2 ⟨rfl, _, hb2, _⟩)
      go_ret
      have h2 := HP.out
      rw [HL.out, pk_nil] at h2
      simp only [Option.map_some, List.append_nil] at h2
      refine ⟨?_, HB.out.trans hb2⟩
      unfold pack
      rw [h2]; rfl
    | cons c l =>
      have h0 : ¬ r.toList = [] := by rw [toList_data, hl0]; simp
      have h1 : (!r.toList.isEmpty) = true := by rw [toList_data, hl0]; rfl
      have hr0 : (0 : Nat) < r.size := by rw [← hsz]; simp
      have hr0I : ((0 : Int) < (r.size : Int)) := by omega
      have hlr : l.length + 1 = r.size := by rw [← hsz]; simp
      have hx0 : ∀ h' : 0 < r.size, r[0]'h' = c := get_of (by rw [hl0]; rfl)
      have HL := Aside0.mk hl0
      have HD := Aside0.mk (digit_dg c)
      clear hl0
      by_cases hdg : dg c = true
      · have hpk := HP.out
        rw [HL.out, pk_cons, if_pos hdg] at hpk
        rw [hdg] at HD
        have HPN := Aside0.mk hpk
        clear hdg hpk
        go_wp2_with (go_at_call 12; (with_reducible refine (heapmap_digit.calls (c.toNat : Int) true _ HD.out).mono ?_); rintro e_ w2 ⟨rfl, nd, rfl⟩)
        go_ret
        refine ⟨?_, pw_below_drewN HB.out _⟩
        unfold pack
        rw [HPN.out]; rfl
      · have HDN := Aside0.mk hdg
        rw [show dg c = false by simpa using hdg] at HD
        have hpk := HP.out
        rw [HL.out, pk_cons, if_neg hdg] at hpk
        have HPK := Aside0.mk hpk
        have hrl := rl_le c l
        clear hdg hpk HP
        go_upto_region 6 with (go_at_call 12; (with_reducible refine (heapmap_digit.calls (c.toNat : Int) false _ HD.out).mono ?_); rintro e_ w2 ⟨rfl, nd, rfl⟩)
        go_wp2_with fail
        have H4 := Aside0.mk (show RelN w acc (rl c l) (.int .i64 1) (wr.drewN nd) from ⟨1, rfl, Nat.le_refl _, by omega, HI.out, pw_below_drewN HB.out _⟩)
        clear HI HB
        go_loopw [4] (fun v4 wr => RelN w acc (rl c l) v4 wr) (fun v4 _ => r.size - (intOf v4).toNat)
        case atStart => exact H4.out
        case round =>
          clear H4
          obtain ⟨i, rfl, hi1, him, hI, hB⟩ := hrel
          have HI := Aside0.mk hI
          have HB := Aside0.mk hB
          clear hI hB
          have hi0 : (0 : Int) ≤ (i : Int) := by omega
          by_cases hlt : i < rl c l + 1
          · have hir : i < r.size := by omega
            have hirI : (i : Int) < (r.size : Int) := by omega
            have hirb : decide ((i : Int) < (r.size : Int)) = true := decide_eq_true hirI
            have hxi : ∀ h' : i < r.size, r[i]'h' = c := get_of (by
              rw [HL.out]
              obtain ⟨j, rfl⟩ : ∃ j, i = j + 1 := ⟨i - 1, by omega⟩
              rw [List.getElem?_cons_succ]; exact rl_get c l j (by omega))
            go_wp2_with fail
            go_quiet (fail)
            go_wp2_with fail
            go_roundw
            case rel => exact ⟨i + 1, by go_num, by omega, by omega, HI.out, pw_below_drewN HB.out _⟩
            case measure => simp [intOf]; omega
          · have hik : i = rl c l + 1 := by omega
            have hex : (decide (i < r.size) = false ∧ ¬ i < r.size ∧ True) ∨ (decide ((i : Int) < (r.size : Int)) = true ∧ (i : Int) < (r.size : Int) ∧ ∃ d : UInt8, (∀ h' : i < r.size, r[i]'h' = d) ∧ ((d.toNat : Int) == (c.toNat : Int)) = false ∧ i < r.size) := by
              by_cases h : rl c l < l.length
              · obtain ⟨d, h1, h2⟩ := rl_stop c l h
                refine .inr ⟨decide_eq_true (by omega), by omega, d, get_of (by rw [HL.out, hik, List.getElem?_cons_succ]; exact h1), ?_, by omega⟩
                have : d.toNat ≠ c.toNat := fun e => h2 (UInt8.toNat_inj.1 e)
                simp; omega
              · exact .inl ⟨decide_eq_false (by omega), by omega, trivial⟩
            have HIK := Aside0.mk hik
            have hil : i ≤ r.size := by omega
            clear hik hlt him
            rcases hex with ⟨hd1, hd2, _⟩ | ⟨hd1, hd2, d, hd3, hd4, hd5⟩
            all_goals
              go_wp2_with fail
              go_quiet (fail)
              by_cases h1 : i = 1
              · have hgt : decide (1 < i) = false := decide_eq_false (by omega)
                have hgt2 : ¬ 1 < i := by omega
                have hiI : (i : Int) ≤ (r.size : Int) := by omega
                have hsl : i = 1 → rl c l = 0 := by have := HIK.out; omega
                have hex2 : (r.extract i r.size).data.toList = l.drop (rl c l) := by rw [to_end, HL.out, HIK.out, List.drop_succ_cons]
                have HX := Aside0.mk hex2
                have HW := Aside0.mk (hsl h1)
                clear hsl hex2 h1
                go_wp2_with (go_at_call 15; (with_reducible refine (wbyte w.heap.size w.heap.size (Lib.byteCells acc) (c.toNat : Int) _ (ib_drew HI.out _) (by rw [Lib.byteCells_length]; omega) (pw_below_drewN HB.out _).size).mono ?_); rintro e_ w2 ⟨rfl, hI2, hb2⟩; have HI2 := Aside0.mk hI2; have HB2 := Aside0.mk hb2; clear hI2 hb2)
                go_roundw
                case rel =>
                  have hp := HPK.out
                  rw [if_pos HW.out, ← HX.out] at hp
                  refine ⟨_, acc ++ [c], rfl, ?_, (pw_below_drewN HB.out _).trans HB2.out, ?_, ?_⟩
                  · rw [Lib.byteCells_append]; exact HI2.out
                  · rw [hp, Option.map_map]; congr 1; funext x; simp
                  · rw [ByteArray.size_extract]; simp; omega
                case measure => simp [strLen]; omega
              · have hgt : decide (1 < i) = true := decide_eq_true (by omega)
                have hgt2 : 1 < i := by omega
                have hiI : (i : Int) ≤ (r.size : Int) := by omega
                have hsl : ¬ rl c l = 0 := by have := HIK.out; omega
                have hex2 : (r.extract i r.size).data.toList = l.drop (rl c l) := by rw [to_end, HL.out, HIK.out, List.drop_succ_cons]
                have HX := Aside0.mk hex2
                have HW := Aside0.mk hsl
                have hdl := dec_le i i (Nat.le_refl _) (by omega)
                clear hsl hex2
                obtain ⟨ds, hds⟩ : ∃ ds, Lib.decDigits i = ds := ⟨_, rfl⟩
                rw [hds] at hdl
                have HDS := Aside0.mk hds
                have HL1 := Aside0.mk (show (Lib.byteCells acc).length + (⟨ds.toArray⟩ : ByteArray).size ≤ 140737488355328 by rw [Lib.byteCells_length]; show acc.length + ds.length ≤ _; omega)
                have HL2 := Aside0.mk (show (Lib.byteCells acc ++ Lib.strCells ⟨ds.toArray⟩).length + 1 ≤ 140737488355328 by rw [List.length_append, Lib.byteCells_length, Lib.strCells_length]; show acc.length + ds.length + 1 ≤ _; omega)
                clear hds
                go_wp2_with (first
                  | (go_at_call 14; (with_reducible refine (itoa_is i (by omega) ds HDS.out _ (tab_at HT.out (pw_below_drewN HB.out _))).mono ?_); rintro e_ w2 ⟨rfl, hb1⟩; have HB1 := Aside0.mk (below_then (pw_below_drewN HB.out _) (pw_below_drewN HB.out _).size hb1); have HI1 := Aside0.mk (ib_below (ib_drew HI.out _) hb1); clear hb1)
                  | (go_at_call 13; (with_reducible refine (wstring w.heap.size w.heap.size (Lib.byteCells acc) ⟨ds.toArray⟩ _ HI1.out HL1.out HB1.out.size).mono ?_); rintro e_ w3 ⟨rfl, hI2, hb2⟩; have HI2 := Aside0.mk hI2; have HB2 := Aside0.mk (HB1.out.trans hb2); clear hI2 hb2)
                  | (go_at_call 15; (with_reducible refine (wbyte w.heap.size w.heap.size _ (c.toNat : Int) _ HI2.out HL2.out HB2.out.size).mono ?_); rintro e_ w4 ⟨rfl, hI3, hb3⟩; have HI3 := Aside0.mk hI3; have HB3 := Aside0.mk (HB2.out.trans hb3); clear hI3 hb3))
                go_roundw
                case rel =>
                  have hp := HPK.out
                  rw [if_neg HW.out, ← HX.out, ← HIK.out, HDS.out] at hp
                  refine ⟨_, acc ++ ds ++ [c], rfl, ?_, HB3.out, ?_, ?_⟩
                  · rw [Lib.byteCells_append, Lib.byteCells_append]; exact HI3.out
                  · rw [hp, Option.map_map]; congr 1; funext x; simp
                  · rw [ByteArray.size_extract]; simp; omega
                case measure => simp [strLen]; omega
end Go.Proofs.YtephgjjlbnminaaDoor.T
