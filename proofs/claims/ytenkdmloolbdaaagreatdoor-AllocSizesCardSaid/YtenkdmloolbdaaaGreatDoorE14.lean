import Derived.Test.YtenkdmloolbdaaaGreatDoorE13
import Derived.Test.YtenkdmloolbdaaaGreatDoorE04
set_option linter.unusedVariables false
set_option linter.unusedSimpArgs false
set_option maxHeartbeats 8000000
set_option maxRecDepth 100000
section
namespace Go.Proofs.YtenkdmloolbdaaaGreatDoor.TS
open Go.RowKit Go.Proofs.YtenkdmloolbdaaaGreatDoorW.PrintWords Go.Proofs.YtenkdmloolbdaaaGreatDoorW.PrintLast Go.Proofs.YtenkdmloolbdaaaGreatDoorW.PrintMore
def takeR (n : Int) (rs : List (Int × Int)) : Int × Int × List (Int × Int) :=
 if n < 1 ∨ 4095 < n then (0, 1, rs) else if 4096 < (takeL n 1 rs).1 + n then (0, 14, rs) else ((takeL n 1 rs).1, 0, (takeL n 1 rs).2)
def Taken (w : World) (base g : Nat) (A : Option Addr) (rs : List (Int × Int)) (n : Int) (e : Ending) (w' : World) : Prop :=
 ∃ A' c, e = .returned (.tuple #[.int .i64 (takeR n rs).1, .int .i64 (takeR n rs).2.1]) ∧ Sp w' base g A' c (takeR n rs).2.2 ∧ Chg w w' g (Row0 A) ∧ (Row0 A' = Row0 A ∨ ∃ b, Row0 A' = some b ∧ w.heap.size ≤ b)
def At (n : Int) (rs : List (Int × Int)) (k : Nat) (a : Int) : Prop :=
 k ≤ rs.length ∧ 1 ≤ a ∧ a ≤ 4096 ∧ From a (rs.drop k) ∧ takeL n 1 rs = ((takeL n a (rs.drop k)).1, rs.take k ++ (takeL n a (rs.drop k)).2)
theorem At.next {n : Int} {rs : List (Int × Int)} {k : Nat} {a : Int} (h : At n rs k a) (hk : k < rs.length) (hlt : rs[k].1 - a < n) : At n rs (k + 1) (rs[k].1 + rs[k].2) := by
 obtain ⟨h1, h2, h3, h4, h5⟩ := h
 have e : rs.drop k = rs[k] :: rs.drop (k + 1) := List.drop_eq_getElem_cons hk
 rw [e] at h4 h5
 rw [takeL, if_pos hlt] at h5
 refine ⟨hk, by have := h4.1; have := h4.2.1; omega, h4.2.2.1, h4.2.2.2, ?_⟩
 have et : rs.take (k + 1) = rs.take k ++ [rs[k]] := by rw [List.take_add_one, List.getElem?_eq_getElem hk]; rfl
 rw [h5, et]
 simp only [List.append_assoc, List.singleton_append]
theorem At.stop {n : Int} {rs : List (Int × Int)} {k : Nat} {a : Int} (h : At n rs k a) (hs : k = rs.length ∨ ∃ hk : k < rs.length, ¬ rs[k].1 - a < n) : takeL n 1 rs = (a, rs.take k ++ [(a, n)] ++ rs.drop k) := by
 obtain ⟨h1, h2, h3, h4, h5⟩ := h
 rcases hs with hs | ⟨hk, hlt⟩
 ·have e : rs.drop k = [] := List.drop_of_length_le (by omega)
  rw [e] at h5 ⊢
  rw [h5, takeL]; simp
 ·have e : rs.drop k = rs[k] :: rs.drop (k + 1) := List.drop_eq_getElem_cons hk
  rw [e] at h5 ⊢
  rw [h5, takeL, if_neg hlt]; simp
theorem insert_sp (base g : Nat) (A : Option Addr) (c : Nat) (rs : List (Int × Int)) (k : Nat) (a n : Int) (w : World) (h : Sp w base g A c rs) (hk : k ≤ rs.length) (l : List (Int × Int)) (hl : rs.take k ++ [(a, n)] ++ rs.drop k = l) :
 Calls Tryz.prog 172 #[.slice A rs.length c, .int .i64 k, .slice (some ⟨w.heap.size, 0, none⟩) 1 1] (w.alloc (.cells #[.int .i64 a, .int .i64 n] 246)) fun e w' => ∃ A' c', e = .returned (.slice A' l.length c') ∧ Own2 w' base A' c' l ∧ Chg w w' g (Row0 A) ∧ (Row0 A' = Row0 A ∨ ∃ b, Row0 A' = some b ∧ w.heap.size ≤ b) ∧ w'.heap[g]? = some (.cells #[.slice A rs.length c] 213 (0, 0)) := by
 subst hl
 have hlen := h.len
 have hb : base ≤ w.heap.size := Nat.le_of_lt (Nat.lt_of_le_of_lt h.lo (Array.getElem?_eq_some_iff.1 h.cell).1)
 have hal : Below w.heap.size w (w.alloc (.cells #[.int .i64 a, .int .i64 n] 246)) := below_alloc (Below.refl _ _) _
 have h1 := h.below hal
 have hnew : (w.alloc (.cells #[.int .i64 a, .int .i64 n] 246)).heap[w.heap.size]? = some (.cells #[.int .i64 a, .int .i64 n] 246 (0, 0)) := heap_alloc_new w _
 have hgl := (Array.getElem?_eq_some_iff.1 h.cell).1
 refine (insert_own A c rs.length k base (flat2 rs) w.heap.size (.int .i64 a) (.int .i64 n) _ h1.row (by have := hal.size; omega) (flat2_one rs) hk (fun e => ?_) hnew rfl rfl (by omega)).mono ?_
 ·have := (h.row.rowlt _ e.symm).2; omega
 ·rintro e w' ⟨v', rfl, ho, hgr, hat⟩
  have hll : (rs.take k ++ [(a, n)] ++ rs.drop k).length = rs.length + 1 := by
   rw [List.length_append, List.length_append, List.length_take, List.length_drop, List.length_singleton]; omega
  have hfl : flat2 (rs.take k ++ [(a, n)] ++ rs.drop k) = (flat2 rs).take (k * 2) ++ [.int .i64 a, .int .i64 n] ++ (flat2 rs).drop (k * 2) := by
   rw [flat2_append, flat2_append, flat2_take rs k hk, flat2_drop rs k hk]; rfl
  rw [← hll, ← hfl] at ho
  obtain ⟨A', c', rfl⟩ : ∃ A' c', v' = .slice A' (rs.take k ++ [(a, n)] ++ rs.drop k).length c' := by
   rcases ho.2 with ⟨h0, hl⟩ | ⟨b, cap, cur, hv, _⟩
   ·omega
   ·exact ⟨_, _, hv⟩
  rw [own_slice] at hat
  refine ⟨A', c', rfl, ho, Chg.before hal (Below.grown hgr g), ?_, ?_⟩
  ·rcases hat with h2 | ⟨b, h2, h3⟩
   ·exact .inl h2
   ·exact .inr ⟨b, h2, by have := hal.size; omega⟩
  ·exact (hgr.block g (by have := hal.size; omega) (fun e => h.ne e.symm)).trans h1.cell
def RelT (w : World) (base g : Nat) (A : Option Addr) (c : Nat) (rs : List (Int × Int)) (n : Int) (v6 v7 : Value) (wr : World) : Prop :=
 ∃ (k : Nat) (a : Int), v7 = .int .i64 k ∧ v6 = .int .i64 a ∧ At n rs k a ∧ Sp wr base g A c rs ∧ Below w.heap.size w wr
theorem take_own (base g : Nat) (A : Option Addr) (c : Nat) (rs : List (Int × Int)) (n : Int) (w : World) (h : Sp w base g A c rs) (hn1 : 1 ≤ n) (hn2 : n ≤ 4095) :
 Calls Tryz.prog 120 #[.pointer (some ⟨g, 0, none⟩), .int .i64 n] w fun e w' => Taken w base g A rs n e w' := by
 have hlen := h.len
 have HS := ak h
 clear h
 have d1 : decide (n < 1) = false := decide_eq_false (by omega)
 have d1' : ¬ (n < 1) := by omega
 have d2 : decide (4095 < n) = false := decide_eq_false (by omega)
 have d2' : ¬ (4095 < n) := by omega
 go_enter Tryz.func120, Tryz.ntmps120
 go_wp2_with fail
 go_loopw [6, 7] (fun v6 v7 wr => RelT w base g A c rs n v6 v7 wr) (fun _ v7 _ => rs.length - (intOf v7).toNat)
 case atStart => exact ⟨0, 1, rfl, rfl, ⟨Nat.zero_le _, Int.le_refl _, by omega, HS.1.good, by simp⟩, HS.1, Below.refl _ _⟩
 case round =>
  clear d1 d1' d2 d2'
  obtain ⟨k, a, rfl, rfl, hat, hs, hB⟩ := hrel
  have hk := hat.1
  have ha1 := hat.2.1
  have ha2 := hat.2.2.1
  have HAT := ak hat
  have HS1 := ak hs
  have HB := ak hB
  have c0 := hs.at0
  clear hat hs hB
  by_cases hlt : k < rs.length
  ·have hltb : decide ((k : Int) < (rs.length : Int)) = true := decide_eq_true (by omega)
   have hltI : (k : Int) < (rs.length : Int) := by omega
   have hk0 : (0 : Int) ≤ (k : Int) := by omega
   obtain ⟨gr, rfl, e0, e1⟩ := HS1.1.row.at_ k hlt
   have hbh := HS1.1.behind k hlt
   obtain ⟨⟨r1, r2⟩, hr⟩ : ∃ r, rs[k] = r := ⟨_, rfl⟩
   rw [hr] at e0 e1 hbh
   simp only at e0 e1 hbh
   have HRR := ak hr
   clear hr
   have hq1 := ak (show wrap64 (r1 - a) = r1 - a from IntWalk.wrap64_in _ ⟨by omega, by omega⟩)
   by_cases hgo : r1 - a < n
   ·have hgob : decide (r1 - a < n) = true := decide_eq_true hgo
    have hw := hq1.out
    have HNX := ak (show At n rs (k + 1) (r1 + r2) from by have := HAT.1.next hlt (by rw [HRR.1]; exact hgo); rw [HRR.1] at this; exact this)
    go_upto_region 6 with (fail)
    clear hw
    refine st_ 18 (fun w' => w'.cell? ⟨g, 0, none⟩ = some (.slice (some ⟨gr, 0, none⟩) rs.length c) ∧ w'.cell? ⟨gr, k * 2, none⟩ = some (.int .i64 r1) ∧ w'.cell? ⟨gr, k * 2 + 1, none⟩ = some (.int .i64 r2)) [] ⟨c0, e0, e1⟩ (fun hHeld => ?_)
    refine pu_ 0 41 1 ?_
    refine pu_ 1 42 3 ?_
    refine pu_ 2 43 7 ?_
    refine pu_ 4 45 23 ?_
    refine pu_ 8 49 279 ?_
    refine pu_ 9 50 791 ?_
    refine pu_ 10 51 1815 ?_
    refine pu_ 12 53 5911 ?_
    refine ta_ 3 44 5919 hHeld ?_
    refine pu_ 5 46 5951 ?_
    refine pu_ 6 47 6015 ?_
    refine ta_ 7 48 6143 hHeld ?_
    refine ta_ 11 52 8191 hHeld ?_
    refine pu_ 13 54 16383 ?_
    refine pu_ 14 55 32767 ?_
    refine ta_ 15 56 65535 hHeld ?_
    refine pu_ 16 57 131071 ?_
    refine pu_ 17 6 262143 ?_
    refine done_ (by kernel_rfl) ?_
    go_wp2_with fail
    go_roundw
    case rel => exact ⟨k + 1, r1 + r2, by go_num, by rw [IntWalk.wrap64_in _ ⟨by omega, by omega⟩], HNX.1, HS1.1.below (below_drew (Below.refl _ _)), below_drew HB.1⟩
    case measure => simp [intOf]; omega
   ·have hgob : decide (r1 - a < n) = false := decide_eq_false hgo
    have HST := ak (HAT.1.stop (.inr ⟨hlt, by rw [HRR.1]; exact hgo⟩))
    by_cases hfull : 4096 < a + n
    ·have hfb : decide (4096 < a + n) = true := decide_eq_true hfull
     have hr : takeR n rs = (0, 14, rs) := by unfold takeR; rw [if_neg (by omega), HST.1, if_pos hfull]
     have HR := ak hr
     clear hr hfull
     go_wp2_with fail
     go_ret2
     exact ⟨_, c, by rw [HR.1]; rfl, by rw [HR.1]; exact HS1.1, Chg.of_below HB.1 _ _, .inl rfl⟩
    ·have hfb : decide (4096 < a + n) = false := decide_eq_false hfull
     obtain ⟨l, hl⟩ : ∃ l, rs.take k ++ [(a, n)] ++ rs.drop k = l := ⟨_, rfl⟩
     have hr : takeR n rs = (a, 0, l) := by unfold takeR; rw [if_neg (by omega), HST.1, if_neg hfull, ← hl]
     have hgood : From 1 l := by
      have := takeL_good n HS1.1.good hn1 (by rw [HST.1]; omega)
      rw [HST.1, hl] at this; exact this
     have HL := ak hl
     have HGO := ak hgood
     have HR := ak hr
     clear hr hgood hfull hl
     go_wp2_with (go_at_call 172; (with_reducible refine (insert_sp base g _ c rs k a n _ HS1.1 hk l HL.1).mono ?_); rintro e_ w2 ⟨A2, c2, rfl, ho, hch, hrow, hg2⟩; have HO := ak ho; have HCH := ak hch; have HROW2 := ak hrow; have HNE2 := ak (show Row0 A2 ≠ some g from fun e => by rcases hrow with h | ⟨b, h, h2⟩; (exact HS1.1.ne (h ▸ e)); (rw [h] at e; injection e with e; have := (Array.getElem?_eq_some_iff.1 HS1.1.cell).1; omega)); clear ho hch hrow; have c2_ : w2.cell? ⟨g, 0, none⟩ = some (.slice (some ⟨gr, 0, none⟩) rs.length c) := (by simp only [World.cell?, hg2]; rfl); have hf2 : w2.frozen? ⟨g, 0, none⟩ = false := (by simp [World.frozen?, hg2]); have HG2 := ak hg2; clear hg2)
     go_ret2
     exact ⟨A2, c2, by rw [HR.1]; rfl, by rw [HR.1]; exact ⟨HS1.1.lo, heap_set0 HG2.1, HO.1.setOther HNE2.1 0 _, HNE2.1, HGO.1⟩, (Chg.before HB.1 HCH.1).set 0 _, HROW2.1.imp id (fun ⟨b, h1, h2⟩ => ⟨b, h1, by have := HB.1.size; omega⟩)⟩
  ·have hltb : decide ((k : Int) < (rs.length : Int)) = false := decide_eq_false (by omega)
   have hltI : ¬ ((k : Int) < (rs.length : Int)) := by omega
   have HST := ak (HAT.1.stop (.inl (by omega)))
   by_cases hfull : 4096 < a + n
   ·have hfb : decide (4096 < a + n) = true := decide_eq_true hfull
    have hr : takeR n rs = (0, 14, rs) := by unfold takeR; rw [if_neg (by omega), HST.1, if_pos hfull]
    have HR := ak hr
    clear hr hfull
    go_wp2_with fail
    go_ret2
    exact ⟨_, c, by rw [HR.1]; rfl, by rw [HR.1]; exact HS1.1, Chg.of_below HB.1 _ _, .inl rfl⟩
   ·have hfb : decide (4096 < a + n) = false := decide_eq_false hfull
    obtain ⟨l, hl⟩ : ∃ l, rs.take k ++ [(a, n)] ++ rs.drop k = l := ⟨_, rfl⟩
    have hr : takeR n rs = (a, 0, l) := by unfold takeR; rw [if_neg (by omega), HST.1, if_neg hfull, ← hl]
    have hgood : From 1 l := by
     have := takeL_good n HS1.1.good hn1 (by rw [HST.1]; omega)
     rw [HST.1, hl] at this; exact this
    have HL := ak hl
    have HGO := ak hgood
    have HR := ak hr
    clear hr hgood hfull hl
    go_wp2_with (go_at_call 172; (with_reducible refine (insert_sp base g _ c rs k a n _ HS1.1 hk l HL.1).mono ?_); rintro e_ w2 ⟨A2, c2, rfl, ho, hch, hrow, hg2⟩; have HO := ak ho; have HCH := ak hch; have HROW2 := ak hrow; have HNE2 := ak (show Row0 A2 ≠ some g from fun e => by rcases hrow with h | ⟨b, h, h2⟩; (exact HS1.1.ne (h ▸ e)); (rw [h] at e; injection e with e; have := (Array.getElem?_eq_some_iff.1 HS1.1.cell).1; omega)); clear ho hch hrow; have c2_ : w2.cell? ⟨g, 0, none⟩ = some (.slice A rs.length c) := (by simp only [World.cell?, hg2]; rfl); have hf2 : w2.frozen? ⟨g, 0, none⟩ = false := (by simp [World.frozen?, hg2]); have HG2 := ak hg2; clear hg2)
    go_ret2
    exact ⟨A2, c2, by rw [HR.1]; rfl, by rw [HR.1]; exact ⟨HS1.1.lo, heap_set0 HG2.1, HO.1.setOther HNE2.1 0 _, HNE2.1, HGO.1⟩, (Chg.before HB.1 HCH.1).set 0 _, HROW2.1.imp id (fun ⟨b, h1, h2⟩ => ⟨b, h1, by have := HB.1.size; omega⟩)⟩
theorem Sp.new (w : World) (base : Nat) (hb : base ≤ w.heap.size) : Sp (w.alloc (.cells #[.slice none 0 0] 213)) base w.heap.size none 0 [] :=
 ⟨hb, heap_alloc_new w _, World.ownsRow_nil _ _ _ _, by simp [Row0], trivial⟩
theorem new_own (w : World) :
 Calls Tryz.prog 84 #[] w fun e w' => e = .returned (.pointer (some ⟨w.heap.size, 0, none⟩)) ∧ w' = w.alloc (.cells #[.slice none 0 0] 213) := by
 go_enter Tryz.func84, Tryz.ntmps84
 go_wp2
 go_ret
 exact ⟨rfl, rfl⟩
theorem give_is (base g : Nat) (A : Option Addr) (c : Nat) (rs l : List (Int × Int)) (p m : Int) (w : World) (ht : giveL p rs = some (m, l)) (h : Sp w base g A c rs) :
 Calls Tryz.prog 114 #[.pointer (some ⟨g, 0, none⟩), .int .i64 p] w fun e w' => ∃ c', e = .returned (.tuple #[.int .i64 m, .int .i64 0]) ∧ Sp w' base g A c' l ∧ Chg w w' g (Row0 A) := by
 refine (give_own base g A c rs p w h).mono ?_
 intro e w' hg
 unfold Given at hg
 rw [ht] at hg
 exact hg
end Go.Proofs.YtenkdmloolbdaaaGreatDoor.TS
end
