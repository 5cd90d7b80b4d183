import Derived.Test.YtenkdmloolbdaaaGreatDoorE19
import Derived.Test.YtenkdmloolbdaaaGreatDoorE04
set_option linter.unusedVariables false
set_option linter.unusedSimpArgs false
set_option maxHeartbeats 8000000
set_option maxRecDepth 100000
section
namespace Go.Proofs.YtenkdmloolbdaaaGreatDoor.TZ
open Go.RowKit Go.Proofs.YtenkdmloolbdaaaGreatDoorW.PrintWords Go.Proofs.YtenkdmloolbdaaaGreatDoorW.PrintLast Go.Proofs.YtenkdmloolbdaaaGreatDoorW.PrintMore Go.Proofs.YtenkdmloolbdaaaGreatDoor.PH
def qt (n : Nat) (xs : List Int) (i : Nat) : List Int := (List.range (n * n)).map fun p => if p % n * n + p / n < i then xs.getD (p % n * n + p / n) 0 else 0
theorem qt_zero (n : Nat) (xs : List Int) : qt n xs 0 = List.replicate (n * n) 0 := by
 unfold qt
 apply List.ext_getElem
 ·simp
 ·intro i h1 h2; simp
theorem qt_len (n : Nat) (xs : List Int) (i : Nat) : (qt n xs i).length = n * n := by unfold qt; simp
theorem place (n i : Nat) (hn : 1 ≤ n) (hi : i < n * n) : i % n * n + i / n < n * n ∧ (i % n * n + i / n) % n * n + (i % n * n + i / n) / n = i := by
 have h1 : i % n < n := Nat.mod_lt _ hn
 have h2 : i / n < n := Nat.div_lt_of_lt_mul hi
 have h3 : (i % n * n + i / n) / n = i % n := by rw [Nat.mul_comm, Nat.mul_add_div (by omega), Nat.div_eq_of_lt h2]; rfl
 have h4 : (i % n * n + i / n) % n = i / n := by rw [Nat.mul_comm, Nat.mul_add_mod, Nat.mod_eq_of_lt h2]
 refine ⟨?_, ?_⟩
 ·have : i % n * n + n ≤ n * n := by rw [← Nat.succ_mul]; exact Nat.mul_le_mul_right n h1
  omega
 ·rw [h3, h4, Nat.mul_comm]; exact Nat.div_add_mod i n
theorem qt_set (n : Nat) (xs : List Int) (i : Nat) (hn : 1 ≤ n) (hi : i < n * n) (x : Int) (hx : xs.getD i 0 = x) : (qt n xs i).set (i % n * n + i / n) x = qt n xs (i + 1) := by
 obtain ⟨hp, hpp⟩ := place n i hn hi
 unfold qt
 apply List.ext_getElem
 ·simp
 ·intro q h1 h2
  simp only [List.length_set, List.length_map, List.length_range] at h1
  rw [List.getElem_set]
  simp only [List.getElem_map, List.getElem_range]
  by_cases hq : i % n * n + i / n = q
  ·rw [if_pos hq, ← hq, hpp, if_pos (by omega), hx]
  ·rw [if_neg hq]
   have hne : q % n * n + q / n ≠ i := by
    intro e
    apply hq
    have := (place n q hn h1).2
    rw [e] at this
    exact this
   by_cases h : q % n * n + q / n < i
   ·rw [if_pos h, if_pos (by omega)]
   ·rw [if_neg h, if_neg (by omega)]
theorem Gr.other {w : World} {base g h n m h2 i : Nat} {xs : List Int} {v : Value} (H : Gr w base g h n m xs) (h1 : g ≠ h2) (h3 : h ≠ h2) : Gr (w.setCell ⟨h2, i, none⟩ v) base g h n m xs :=
 ⟨H.lo, H.loh, H.ne, by rw [Below.heap_setCell w ⟨h2, i, none⟩ _ g h1]; exact H.cell, by rw [Below.heap_setCell w ⟨h2, i, none⟩ _ h h3]; exact H.row, H.len⟩
def TurnP (w : World) (n : Nat) (xs : List Int) (e : Ending) (w' : World) : Prop :=
 ∃ g h, e = .returned (.pointer (some ⟨g, 0, none⟩)) ∧ Gr w' w.heap.size g h n n (qt n xs (n * n)) ∧ Below w.heap.size w w'
def RelTu (w : World) (base g h g2 h2 n : Nat) (xs : List Int) (v29 : Value) (wr : World) : Prop :=
 ∃ i : Nat, v29 = .int .i64 i ∧ i ≤ n * n ∧ Gr wr base g h n n xs ∧ Gr wr w.heap.size g2 h2 n n (qt n xs i) ∧ Below w.heap.size w wr
theorem Gr.lt {w : World} {base g h n m : Nat} {xs : List Int} (H : Gr w base g h n m xs) : g < w.heap.size ∧ h < w.heap.size := ⟨(Array.getElem?_eq_some_iff.1 H.cell).1, (Array.getElem?_eq_some_iff.1 H.row).1⟩
theorem turned_own (base g h n : Nat) (h1 : 1 ≤ n) (h8 : n ≤ 8) (xs : List Int) (w : World) (H : Gr w base g h n n xs) :
 Calls Tryz.prog 182 #[.pointer (some ⟨g, 0, none⟩)] w (TurnP w n xs) := by
 obtain ⟨p, hp⟩ : ∃ p, n * n = p := ⟨_, rfl⟩
 have hp64 : p ≤ 64 := by rw [← hp]; exact Nat.mul_le_mul h8 h8
 have hxl : xs.length = p := by rw [← hp]; exact H.len
 have hmk := print_make (P := Tryz.prog) 34 3 .i64 8 Tryz.underlying34 (by kernel_rfl) (by decide) p (by omega)
 have c0 := H.c0
 have c1 := H.c1
 have c2 := H.c2
 rw [hxl] at c2
 have HG := ak H
 have HP := ak hp
 have HXL := ak hxl
 have HLT := ak H.lt
 clear H hp hxl
 go_enter Tryz.func182, Tryz.ntmps182
 go_upto_region 3 with (fail)
 refine st_ 17 (fun w' => w'.cell? ⟨g, 0, none⟩ = some (.int .i64 n) ∧ w'.cell? ⟨g, 1, none⟩ = some (.int .i64 n) ∧ w'.cell? ⟨g, 2, none⟩ = some (.slice (some ⟨h, 0, none⟩) p p)) [] ⟨c0, c1, c2⟩ (fun hHeld => ?_)
 have n1 := ak (HG.1.below (below_drew (Below.refl w.heap.size w)))
 have HB := ak (below_drew (Below.refl w.heap.size w))
 have HLD := ak (show w.drew.heap.size = w.heap.size from rfl)
 clear HG c0 c1 c2
 generalize w.drew = wd at *
 have HG := n1
 clear n1
 refine pu_ 0 8 1 ?_
 refine pu_ 1 9 3 ?_
 refine pu_ 2 10 7 ?_
 refine pu_ 4 12 23 ?_
 refine pu_ 5 13 55 ?_
 refine pu_ 6 14 119 ?_
 refine pu_ 8 16 375 ?_
 refine pu_ 9 17 887 ?_
 refine pu_ 10 18 1911 ?_
 refine ta_ 3 11 1919 hHeld ?_
 refine ta_ 7 15 2047 hHeld ?_
 refine ta_ 11 19 4095 hHeld ?_
 refine pu_ 12 20 8191 ?_
 refine one_ (i := 13) (N := some 21) (bz 17 16383) rfl rfl (by kernel_rfl) (by decide) (fun K hK => ?_)
 refine va_ ?_
 refine hK.out _ _ ⟨(HG.1.below (below_alloc (Below.refl _ _) _)).c0, (HG.1.below (below_alloc (Below.refl _ _) _)).c1, (HXL.1 ▸ (HG.1.below (below_alloc (Below.refl _ _) _)).c2)⟩ (fun hHeld => ?_)
 clear hK K
 refine no_ 21 ?_
 refine pu_ 14 22 32767 ?_
 refine one_ (i := 15) (N := some 23) (bz 17 65535) rfl rfl (by kernel_rfl) (by decide) (fun K hK => ?_)
 refine va_ ?_
 refine hK.out _ _ ⟨(HG.1.below (below_alloc (below_alloc (Below.refl _ _) _) _)).c0, (HG.1.below (below_alloc (below_alloc (Below.refl _ _) _) _)).c1, (HXL.1 ▸ (HG.1.below (below_alloc (below_alloc (Below.refl _ _) _) _)).c2)⟩ (fun hHeld => ?_)
 clear hK K
 refine no_ 23 ?_
 refine pu_ 16 3 131071 ?_
 refine done_ (by kernel_rfl) ?_
 obtain ⟨W, hW⟩ : ∃ W, ((wd.alloc (.cells (madeCells #[.int .i64 0] p) 3)).alloc (.cells #[.int .i64 n, .int .i64 n, .slice (some ⟨wd.heap.size, 0, none⟩) p p] 300)) = W := ⟨_, rfl⟩
 rw [hW]
 have HBW := ak (show Below w.heap.size w W from hW ▸ below_alloc (below_alloc HB.1 _) _)
 have HGW := ak (show Gr W base g h n n xs from hW ▸ (HG.1.below (below_alloc (below_alloc (Below.refl _ _) _) _)))
 have HNW := ak (show Gr W w.heap.size (wd.heap.size + 1) wd.heap.size n n (qt n xs 0) from by
  rw [qt_zero, HP.1]
  refine ⟨by have := HB.1.size; omega, HB.1.size, by omega, ?_, ?_, by rw [List.length_replicate, HP.1]⟩
  ·rw [← hW]
   have := heap_alloc_new (wd.alloc (.cells (madeCells #[.int .i64 0] p) 3)) (.cells #[.int .i64 n, .int .i64 n, .slice (some ⟨wd.heap.size, 0, none⟩) p p] 300)
   rw [World.size_alloc] at this
   rw [List.length_replicate]; exact this
  ·rw [← hW, heap_alloc_old _ _ (by simp), heap_alloc_new, made_iv])
 clear HG HB hW
 have c2 := HGW.1.c2
 rw [HXL.1] at c2
 go_wp2_with fail
 clear c2
 have HWS := ak (show g < wd.heap.size ∧ h < wd.heap.size from by rw [HLD.1]; exact HLT.1)
 have H0 := ak (show RelTu w base g h (wd.heap.size + 1) wd.heap.size n xs (.int .i64 0) W from ⟨0, rfl, Nat.zero_le _, HGW.1, HNW.1, HBW.1⟩)
 clear HGW HNW HBW
 generalize wd.heap.size + 1 = g2 at *
 obtain ⟨h2, hh2⟩ : ∃ h2, wd.heap.size = h2 := ⟨_, rfl⟩
 rw [hh2] at H0 HWS ⊢
 clear hh2 HLD hmk
 go_loopw [29, 4, 5] (fun v29 _ _ wr => RelTu w base g h g2 h2 n xs v29 wr) (fun v29 _ _ _ => p - (intOf v29).toNat)
 case atStart => exact H0.1
 case round =>
  clear H0
  obtain ⟨i, rfl, hi, hG, hN, hB⟩ := hrel
  rw [HP.1] at hi
  have HG := ak hG
  have HN := ak hN
  have HB := ak hB
  clear hG hN hB
  have hi0 : (0 : Int) ≤ (i : Int) := by omega
  by_cases hlt : i < p
  ·have hltb : decide (i < p) = true := decide_eq_true hlt
   have hltI : (i : Int) < (p : Int) := by omega
   obtain ⟨x, hx⟩ : ∃ x, xs[i]? = some x := ⟨_, List.getElem?_eq_getElem (by rw [HXL.1]; exact hlt)⟩
   have q0 := HG.1.at_ i x hx
   have HXG := ak (show xs.getD i 0 = x by rw [List.getD_eq_getElem?_getD, hx]; rfl)
   clear hx
   obtain ⟨a, ha⟩ : ∃ a, i % n = a := ⟨_, rfl⟩
   obtain ⟨b, hb⟩ : ∃ b, i / n = b := ⟨_, rfl⟩
   obtain ⟨q, hq⟩ : ∃ q, a * n = q := ⟨_, rfl⟩
   obtain ⟨ps, hps⟩ : ∃ ps, q + b = ps := ⟨_, rfl⟩
   have hpl : ps < p := by
    have := (place n i h1 (by rw [HP.1]; exact hlt)).1
    rw [HP.1, ha, hb, hq, hps] at this; exact this
   have HST := ak (show (qt n xs i).set ps x = qt n xs (i + 1) by
    rw [← hps, ← hq, ← ha, ← hb]; exact qt_set n xs i h1 (by rw [HP.1]; exact hlt) x HXG.1)
   have hmod : Int.tmod (i : Int) (n : Int) = (a : Int) := by rw [Int.tmod_eq_emod_of_nonneg (by omega), ← ha]; rfl
   have hdiv : Int.tdiv (i : Int) (n : Int) = (b : Int) := by rw [Int.tdiv_eq_ediv_of_nonneg (by omega), ← hb]; rfl
   have hqI : (a : Int) * (n : Int) = (q : Int) := by rw [← hq, Int.natCast_mul]
   have hn0 : ¬ n = 0 := by omega
   have hn0' : ((n : Int) == 0) = false := by simp; omega
   have hq64 : q ≤ 64 := by omega
   have hb64 : b ≤ 64 := by omega
   have ha64 : a ≤ 64 := by
    have := Nat.mod_lt i (show n > 0 by omega)
    omega
   obtain ⟨y, hy⟩ : ∃ y, (qt n xs i)[ps]? = some y := ⟨_, List.getElem?_eq_getElem (by rw [qt_len, HP.1]; exact hpl)⟩
   have hsl := HN.1.c2
   rw [qt_len, HP.1] at hsl
   have c0 := HG.1.c0
   have c1 := HG.1.c1
   have hcl := HN.1.at_ ps y hy
   have hfz := HN.1.fz ps
   have hps0 : (0 : Int) ≤ (ps : Int) := by omega
   have hpsI : (ps : Int) < (p : Int) := by omega
   have hpsn : ps < p := hpl
   have hqb : (q : Int) + (b : Int) = (ps : Int) := by omega
   have HAD := ak hps
   have HY := ak hy
   clear hy ha hb hq hps
   go_upto_region 7 with (fail)
   refine st_ 25 (fun w' => w'.cell? ⟨g, 0, none⟩ = some (.int .i64 n) ∧ w'.cell? ⟨g, 1, none⟩ = some (.int .i64 n) ∧ w'.cell? ⟨g2, 2, none⟩ = some (.slice (some ⟨h2, 0, none⟩) p p)) [24] ⟨c0, c1, hsl⟩ (fun hHeld => ?_)
   have HGd := ak (HG.1.below (below_drew (Below.refl wr.heap.size wr)))
   have HNd := ak (HN.1.below (below_drew (Below.refl wr.heap.size wr)))
   have HBd := ak (below_drew HB.1)
   clear HG HN HB c0 c1 hsl hcl hfz q0
   generalize wr.drew = wd2 at *
   have hcl := HNd.1.at_ ps y HY.1
   have hfz := HNd.1.fz ps
   have HN2 := ak (HST.1 ▸ HNd.1.put ps x)
   have HB2 := ak (HBd.1.trans (HNd.1.putBelow ps (.int .i64 x)))
   have HG2 := ak (show Gr (wd2.setCell ⟨h2, ps, none⟩ (.int .i64 x)) base g h n n xs from HGd.1.other (by have := HWS.1; omega) (by have := HWS.1; omega))
   obtain ⟨hwq, hws, hwa, hwb⟩ : wrap64 (q : Int) = (q : Int) ∧ wrap64 (ps : Int) = (ps : Int) ∧ wrap64 (a : Int) = (a : Int) ∧ wrap64 (b : Int) = (b : Int) := ⟨wrap_s _ (by omega) (by omega), wrap_s _ (by omega) (by omega), wrap_s _ (by omega) (by omega), wrap_s _ (by omega) (by omega)⟩
   refine pu_ 0 34 1 ?_
   refine pu_ 1 35 3 ?_
   refine pu_ 2 36 7 ?_
   refine pu_ 4 38 23 ?_
   refine pu_ 5 39 55 ?_
   refine pu_ 6 40 119 ?_
   refine pu_ 7 41 247 ?_
   refine pu_ 10 44 1271 ?_
   refine pu_ 11 45 3319 ?_
   refine pu_ 12 46 7415 ?_
   refine pu_ 15 49 40183 ?_
   refine pu_ 16 50 105719 ?_
   refine pu_ 17 51 236791 ?_
   refine pu_ 18 52 498935 ?_
   refine pu_ 22 56 4693239 ?_
   refine ta_ 3 37 4693247 hHeld ?_
   refine ta_ 8 42 4693503 hHeld ?_
   refine pu_ 9 43 4694015 ?_
   refine ta_ 13 47 4702207 hHeld ?_
   refine pu_ 14 48 4718591 ?_
   refine ta_ 19 53 5242879 hHeld ?_
   refine pu_ 20 54 6291455 ?_
   refine pu_ 21 55 8388607 ?_
   refine pu_ 23 57 16777215 ?_
   refine last_ (i := 24) (N := none) (bz 25 33554431) rfl rfl (by kernel_rfl) (by decide) (fun K hK => ?_)
   refine skip_ (w1 := ?_) (by rfl) rfl ?_ ?_
   rotate_left
   ·go_simp
    rfl
   refine hK.out _ _ ?_
   clear hK K
   refine done_ (by kernel_rfl) ?_
   clear hwq hws hwa hwb hqI hqb hmod hdiv
   go_wp2_with fail
   go_roundw
   case rel => exact ⟨i + 1, by go_num, by rw [HP.1]; omega, HG2.1, HN2.1, HB2.1⟩
   case measure => simp [intOf]; omega
  ·obtain rfl : i = p := by omega
   have hltb : decide (i < i) = false := decide_eq_false hlt
   go_wp2_with fail
   go_ret
   exact ⟨g2, h2, rfl, by rw [HP.1]; exact HN.1, HB.1⟩
theorem rd_at (xs : List Int) (i : Nat) (h : i < xs.length) : rd xs (i : Int) = xs[i] := by
 unfold rd
 rw [Int.toNat_natCast, List.getD_eq_getElem?_getD, List.getElem?_eq_getElem h]; rfl
theorem equal_l0 (xs ys : List Int) (hl : xs.length = ys.length) (h64 : xs.length ≤ 1000) : ∀ (d i k : Nat), xs.length - i = d → i ≤ xs.length → d + 1 ≤ k → slices_Equal_int_int.l0 k xs ys (xs.length : Int) (i : Int) = some (decide (xs.drop i = ys.drop i)) := by
 intro d
 induction d with
 | zero =>
  intro i k hd hi hk
  obtain rfl : i = xs.length := by omega
  obtain ⟨q, rfl⟩ : ∃ q, k = q + 1 := ⟨k - 1, by omega⟩
  rw [slices_Equal_int_int.l0, if_neg (by omega), List.drop_length, hl, List.drop_length]
  simp
 | succ d ih =>
  intro i k hd hi hk
  obtain ⟨q, rfl⟩ : ∃ q, k = q + 1 := ⟨k - 1, by omega⟩
  have h1 : i < xs.length := by omega
  have h2 : i < ys.length := by omega
  have e := ih (i + 1) q (by omega) (by omega) (by omega)
  rw [List.drop_eq_getElem_cons h1, List.drop_eq_getElem_cons h2]
  rw [slices_Equal_int_int.l0, if_pos (by omega)]
  have hw : wrap64 ((i : Int) + 1) = ((i + 1 : Nat) : Int) := by rw [wrap_s _ (by omega) (by omega)]; omega
  rw [if_pos (by omega), if_pos (by omega), if_pos (by omega), rd_at xs i h1, rd_at ys i h2, hw, e]
  by_cases h : xs[i] = ys[i]
  ·rw [if_pos h, h]
   congr 1
   rw [decide_eq_decide]
   exact ⟨fun e => by rw [e], fun e => (List.cons.inj e).2⟩
  ·rw [if_neg h]
   congr 1
   exact (decide_eq_false (fun e => h (List.cons.inj e).1)).symm
theorem equal_f (xs ys : List Int) (h64 : xs.length ≤ 1000) : slices_Equal_int_int.f (xs.length + 1) xs ys = some (decide (xs = ys)) := by
 unfold slices_Equal_int_int.f
 by_cases hl : xs.length = ys.length
 ·rw [if_pos (by omega)]
  have := equal_l0 xs ys hl h64 xs.length 0 (xs.length + 1) rfl (Nat.zero_le _) (Nat.le_refl _)
  exact this
 ·rw [if_neg (by omega), decide_eq_false (fun e => hl (by rw [e]))]
theorem Gr.reads {w : World} {base g h n m : Nat} {xs : List Int} (H : Gr w base g h n m xs) (h64 : xs.length ≤ 1000) : Kd.C (Kd.int .i64) w (some ⟨h, 0, none⟩) xs.length xs := by
 refine Kd.C_of_reads (d := (0 : Int)) (h1 := fun _ => rfl) ⟨rfl, by omega, fun _ => ⟨_, rfl, fun j hj => ?_⟩⟩
 rw [Addr.add_lit, Nat.zero_add]
 refine H.at_ j _ ?_
 rw [List.getD_eq_getElem?_getD, List.getElem?_eq_getElem hj]; rfl
theorem same_own (base g h b2 g2 h2 n : Nat) (h8 : n ≤ 8) (xs ys : List Int) (w : World) (H : Gr w base g h n n xs) (H2 : Gr w b2 g2 h2 n n ys) (b : Bool) (hb : decide (xs = ys) = b) :
 Calls Tryz.prog 181 #[.pointer (some ⟨g, 0, none⟩), .pointer (some ⟨g2, 0, none⟩)] w fun e w' => e = .returned (.bool b) ∧ Drawn0 w w' := by
 have hl : xs.length ≤ 1000 := by rw [H.len]; have : n * n ≤ 8 * 8 := Nat.mul_le_mul h8 h8; omega
 have hl2 : ys.length ≤ 1000 := by rw [H2.len]; have : n * n ≤ 8 * 8 := Nat.mul_le_mul h8 h8; omega
 have HE := ak (show ∀ W : World, Kd.C (Kd.int .i64) W (some ⟨h, 0, none⟩) xs.length xs → Kd.C (Kd.int .i64) W (some ⟨h2, 0, none⟩) ys.length ys → Calls Tryz.prog 215 #[.slice (some ⟨h, 0, none⟩) xs.length xs.length, .slice (some ⟨h2, 0, none⟩) ys.length ys.length] W fun e w' => e = .returned (.bool b) ∧ Drawn0 W w' from fun W hx hy => slices_Equal_int_int.calls (xs.length + 1) _ _ xs _ _ ys b W hx (Nat.le_refl _) hy (Nat.le_refl _) (by rw [equal_f xs ys hl, hb]))
 have HX := ak (H.reads hl)
 have HY := ak (H2.reads hl2)
 have c0 := H.c0
 have c1 := H.c1
 have c2 := H.c2
 have d0 := H2.c0
 have d1 := H2.c1
 have d2 := H2.c2
 have hnn : ((n : Int) == (n : Int)) = true := by simp
 clear H H2 hb
 go_enter Tryz.func181, Tryz.ntmps181
 go_wp2_with fail
 go_quiet ((go_at_call 215; (with_reducible refine (HE.1 _ (Kd.C_drewN HX.1 _) (Kd.C_drewN HY.1 _)).mono ?_); rintro e_ w2 ⟨rfl, ⟨nd, rfl⟩⟩; (try first | exact ⟨rfl, _, World.drewN_drewN _ _ _⟩ | exact ⟨rfl, _, Eq.trans (World.drewN_drewN _ _ _) (congrArg (World.drewN _) (Nat.add_assoc _ _ _))⟩)))
 go_wp2_with fail
 go_ret
 exact ⟨rfl, _, rfl⟩
theorem pt_get (n : Nat) (dist : List (List Int)) (q : Nat) (hq : q < n * n) : (pt n dist (n * n)).getD q 0 = dd dist (q / n) (q % n) := by
 unfold pt
 rw [List.getD_eq_getElem?_getD, List.getElem?_map, List.getElem?_range hq]
 simp only [Option.map_some, Option.getD_some]
 rw [if_pos hq]
theorem qt_get (n : Nat) (xs : List Int) (m q : Nat) (hq : q < n * n) : (qt n xs m).getD q 0 = if q % n * n + q / n < m then xs.getD (q % n * n + q / n) 0 else 0 := by
 unfold qt
 rw [List.getD_eq_getElem?_getD, List.getElem?_map, List.getElem?_range hq]
 rfl
theorem ext_getD {l m : List Int} (hl : l.length = m.length) (h : ∀ q, q < l.length → l.getD q 0 = m.getD q 0) : l = m := by
 apply List.ext_getElem hl
 intro q h1 h2
 have := h q h1
 rw [List.getD_eq_getElem?_getD, List.getD_eq_getElem?_getD, List.getElem?_eq_getElem h1, List.getElem?_eq_getElem h2] at this
 exact this
theorem turn_iff (n : Nat) (hn : 1 ≤ n) (dist : List (List Int)) : (pt n dist (n * n) = qt n (pt n dist (n * n)) (n * n)) ↔ ∀ a, a < n → ∀ b, b < n → dd dist a b = dd dist b a := by
 have key : ∀ q, q < n * n → (qt n (pt n dist (n * n)) (n * n)).getD q 0 = dd dist (q % n) (q / n) := by
  intro q hq
  obtain ⟨hp, _⟩ := place n q hn hq
  have h4 : q % n < n := Nat.mod_lt _ hn
  have h5 : q / n < n := Nat.div_lt_of_lt_mul hq
  have hd : (q % n * n + q / n) / n = q % n := by rw [Nat.mul_comm, Nat.mul_add_div (by omega), Nat.div_eq_of_lt h5]; rfl
  have hm : (q % n * n + q / n) % n = q / n := by rw [Nat.mul_comm, Nat.mul_add_mod, Nat.mod_eq_of_lt h5]
  rw [qt_get n _ _ q hq, if_pos hp, pt_get n dist _ hp, hd, hm]
 constructor
 ·intro h a ha b hb
  have hlt : a * n + b < n * n := by
   have : a * n + n ≤ n * n := by rw [← Nat.succ_mul]; exact Nat.mul_le_mul_right n ha
   omega
  have hd : (a * n + b) / n = a := by rw [Nat.mul_comm, Nat.mul_add_div (by omega), Nat.div_eq_of_lt hb]; rfl
  have hm : (a * n + b) % n = b := by rw [Nat.mul_comm, Nat.mul_add_mod, Nat.mod_eq_of_lt hb]
  have e1 := pt_get n dist _ hlt
  have e2 := key _ hlt
  rw [hd, hm] at e1 e2
  rw [← e1, ← e2, ← h]
 ·intro h
  apply ext_getD
  ·rw [pt_len, qt_len]
  ·intro q hq
   rw [pt_len] at hq
   rw [pt_get n dist q hq, key q hq]
   exact h _ (Nat.div_lt_of_lt_mul hq) _ (Nat.mod_lt _ hn)
def fit (dist : List (List Int)) (a b : Nat) : Prop := if a = b then dd dist a b = 10 else 11 ≤ dd dist a b ∧ dd dist a b ≤ 255
theorem mt_no_lens (n : Nat) (dist : List (List Int)) (h : lensB n dist = false) : mtB n dist = false := by unfold mtB; rw [h, Bool.false_and]
theorem mt_no (n : Nat) (dist : List (List Int)) (a b : Nat) (ha : a < n) (hb : b < n) (h : ¬ (dd dist a b = dd dist b a ∧ fit dist a b)) : mtB n dist = false := by
 unfold mtB
 rw [Bool.and_eq_false_iff]
 right
 rw [List.all_eq_false]
 refine ⟨a, List.mem_range.2 ha, ?_⟩
 rw [Bool.not_eq_true, List.all_eq_false]
 refine ⟨b, List.mem_range.2 hb, ?_⟩
 intro e
 apply h
 unfold okAt at e
 rw [Bool.and_eq_true] at e
 refine ⟨of_decide_eq_true e.1, ?_⟩
 unfold fit
 by_cases hab : a = b
 ·rw [if_pos hab] at e ⊢; exact of_decide_eq_true e.2
 ·rw [if_neg hab] at e ⊢
  rw [Bool.and_eq_true] at e
  exact ⟨of_decide_eq_true e.2.1, of_decide_eq_true e.2.2⟩
theorem mt_yes (n : Nat) (dist : List (List Int)) (hl : lensB n dist = true) (h : ∀ a, a < n → ∀ b, b < n → dd dist a b = dd dist b a ∧ fit dist a b) : mtB n dist = true := by
 unfold mtB
 rw [hl, Bool.true_and, List.all_eq_true]
 intro a ha
 rw [List.all_eq_true]
 intro b hb
 obtain ⟨h1, h2⟩ := h a (List.mem_range.1 ha) b (List.mem_range.1 hb)
 unfold okAt
 unfold fit at h2
 rw [decide_eq_true h1, Bool.true_and]
 by_cases hab : a = b
 ·rw [if_pos hab] at h2 ⊢; exact decide_eq_true h2
 ·rw [if_neg hab] at h2 ⊢
  rw [decide_eq_true h2.1, decide_eq_true h2.2]; rfl
theorem lens_at {n : Nat} {dist : List (List Int)} (h : lensB n dist = true) : dist.length = n ∧ ∀ a, a < n → (dist.getD a []).length = n := by
 unfold lensB at h
 rw [Bool.and_eq_true, List.all_eq_true] at h
 exact ⟨of_decide_eq_true h.1, fun a ha => of_decide_eq_true (h.2 a (List.mem_range.2 ha))⟩
def RelM (w : World) (n : Nat) (f : Int) (A : Option Addr) (la ca : Nat) (B : Option Addr) (lb cb : Nat) (dist : List (List Int)) (v22 : Value) (wr : World) : Prop :=
 ∃ i : Nat, v22 = .int .i64 i ∧ i ≤ n ∧ (∀ a, a < i → ∀ b, b < n → fit dist a b) ∧ Box wr w.heap.size n f A la ca B lb cb ∧ Below w.heap.size w wr
def RelMI (w : World) (n : Nat) (f : Int) (A : Option Addr) (la ca : Nat) (B : Option Addr) (lb cb : Nat) (dist : List (List Int)) (i : Nat) (v29 : Value) (wr : World) : Prop :=
 ∃ j : Nat, v29 = .int .i64 j ∧ j ≤ n ∧ (∀ b, b < j → fit dist i b) ∧ Box wr w.heap.size n f A la ca B lb cb ∧ Below w.heap.size w wr
theorem matrix_own (n : Nat) (h1 : 1 ≤ n) (h8 : n ≤ 8) (f : Int) (A : Option Addr) (la ca : Nat) (B : Option Addr) (cb : Nat) (dist : List (List Int)) (w : World) (hr3 : Kd.C (Kd.slice 3 (Kd.int .i64)) w B dist.length dist) (hcb : dist.length ≤ cb) :
 Calls Tryz.prog 136 #[.agg #[.int .i64 n, .int .i64 f, .slice A la ca, .slice B dist.length cb]] w fun e w' => e = .returned (.bool (mtB n dist)) ∧ Below w.heap.size w w' := by
 have HR3 := ak hr3
 clear hr3
 rcases Bool.eq_false_or_eq_true (lensB n dist) with hL | hL
 ·have HL := ak hL
  have hq2 : ((n : Int) == (n : Int)) = true := by simp
  obtain ⟨hdl, hrl⟩ := lens_at hL
  have HDL := ak hdl
  have HRL := ak hrl
  clear hL hrl hdl
  obtain ⟨sy, hsy⟩ : ∃ sy, decide (pt n dist (n * n) = qt n (pt n dist (n * n)) (n * n)) = sy := ⟨_, rfl⟩
  have HSY := ak hsy
  clear hsy
  go_enter Tryz.func136, Tryz.ntmps136
  go_upto_region 2 with (go_at_call 180; (with_reducible refine (table_own n h1 h8 f A la ca B cb dist _ (Kd.C_alloc HR3.1 _) hcb).mono ?_); rintro e_ w2 ⟨hb, _, ht_⟩; obtain ⟨g, h, rfl, hg⟩ := ht_ HL.1; have HG := ak hg; have HX := ak ((Box.new w n f A la ca B dist.length cb).below hb); have HB := ak (below_then (below_alloc (Below.refl w.heap.size w) _) (by simp) hb); clear hg hb ht_)
  cases sy with
  | false =>
   have HM := ak (show mtB n dist = false by
    have hns : ¬ ∀ a, a < n → ∀ b, b < n → dd dist a b = dd dist b a := fun hh => (of_decide_eq_false HSY.1) ((turn_iff n h1 dist).2 hh)
    rcases Bool.eq_false_or_eq_true (mtB n dist) with hm | hm
    ·exfalso
     apply hns
     intro a ha b hb
     by_cases hh : dd dist a b = dd dist b a
     ·exact hh
     ·have := mt_no n dist a b ha hb (fun hc => hh hc.1)
      rw [this] at hm; cases hm
    ·exact hm)
   go_wp2_with (first
    | (go_at_call 182; (with_reducible refine (turned_own _ g h n h1 h8 _ _ HG.1).mono ?_); rintro e_ w3 ⟨g2, h2, rfl, hg2, hb3⟩; have HG3 := ak (HG.1.below hb3); have HG2 := ak hg2; have HB3 := ak (below_then HB.1 HB.1.size hb3); clear hg2 hb3)
    | (go_at_call 181; (with_reducible refine (same_own _ g h _ g2 h2 n h8 _ _ _ HG3.1 HG2.1 false HSY.1).mono ?_); rintro e_ w4 ⟨rfl, ⟨nd, rfl⟩⟩))
   go_ret
   exact ⟨by rw [HM.1]; rfl, pw_below_drewN HB3.1 _⟩
  | true =>
   have HSYM := ak ((turn_iff n h1 dist).1 (of_decide_eq_true HSY.1))
   go_upto_region 4 with (first
    | (go_at_call 182; (with_reducible refine (turned_own _ g h n h1 h8 _ _ HG.1).mono ?_); rintro e_ w3 ⟨g2, h2, rfl, hg2, hb3⟩; have HG3 := ak (HG.1.below hb3); have HG2 := ak hg2; have HB3 := ak (below_then HB.1 HB.1.size hb3); have HX3 := ak (HX.1.below hb3); clear hg2 hb3)
    | (go_at_call 181; (with_reducible refine (same_own _ g h _ g2 h2 n h8 _ _ _ HG3.1 HG2.1 true HSY.1).mono ?_); rintro e_ w4 ⟨rfl, ⟨nd, rfl⟩⟩))
   have HXd := ak (HX3.1.below (pw_below_drewN (Below.refl _ _) nd))
   have HBd := ak (pw_below_drewN HB3.1 nd)
   clear HX3 HB3 HX HB HG HG3 HG2 HSY
   generalize w3.drewN nd = wd at *
   have c3 := HXd.1.c3
   rw [HDL.1] at c3
   have H0 := ak (show RelM w n f A la ca B dist.length cb dist (.int .i64 0) wd from ⟨0, rfl, Nat.zero_le _, fun a ha => absurd ha (by omega), HXd.1, HBd.1⟩)
   clear HXd HBd
   go_wp2_with fail
   clear c3
   go_loopw [22, 4, 5, 6, 7, 27, 28, 29] (fun v22 _ _ _ _ _ _ _ wr => RelM w n f A la ca B dist.length cb dist v22 wr) (fun v22 _ _ _ _ _ _ _ _ => n - (intOf v22).toNat)
   case atStart => exact H0.1
   case round =>
    clear H0
    obtain ⟨i, rfl, hi, hfit, hX, hB⟩ := hrel
    have HX := ak hX
    have HB := ak hB
    have HF := ak hfit
    clear hX hB hfit
    have hi0 : (0 : Int) ≤ (i : Int) := by omega
    by_cases hlt : i < n
    ·have hltb : decide (i < n) = true := decide_eq_true hlt
     have hltI : (i : Int) < (n : Int) := by omega
     obtain ⟨ad, A0, cc, rfl, p0, hcc, hrd⟩ := at_L1 HR3.1 (i : Int) hi0 (by rw [HDL.1]; omega)
     rw [Int.toNat_natCast] at p0
     rw [rdl] at p0 hcc hrd
     have p0 := pw_cell_below HB.1 p0
     have hlen := HRL.1 i hlt
     obtain ⟨row, hrw⟩ : ∃ row, dist.getD i [] = row := ⟨_, rfl⟩
     rw [hrw] at p0 hcc hrd hlen
     have HRWI := ak hrw
     clear hrw
     rw [hlen] at p0 hcc hrd
     have HRD := ak hrd
     clear hrd hlen
     go_wp2_with fail
     have H1 := ak (show RelMI w n f A la ca (some ad) dist.length cb dist i (.int .i64 0) wr from ⟨0, rfl, Nat.zero_le _, fun b hb => absurd hb (by omega), HX.1, HB.1⟩)
     clear HX HB p0
     go_loopw [29, 6, 7] (fun v29 _ _ wr => RelMI w n f A la ca (some ad) dist.length cb dist i v29 wr) (fun v29 _ _ _ => n - (intOf v29).toNat)
     case atStart => exact H1.1
     case round =>
      clear H1
      obtain ⟨j, rfl, hj, hfj, hX, hB⟩ := hrel
      have HX := ak hX
      have HB := ak hB
      have HFJ := ak hfj
      clear hX hB hfj
      have hj0 : (0 : Int) ≤ (j : Int) := by omega
      by_cases hjn : j < n
      ·have hjb : decide (j < n) = true := decide_eq_true hjn
       have hjI : (j : Int) < (n : Int) := by omega
       obtain ⟨ad2, rfl, q0⟩ := Kd.at_int HRD.1 (j : Int) hj0 hjI
       have q0 := pw_cell_below HB.1 q0
       rw [Int.toNat_natCast] at q0
       have hrr : rd row (j : Int) = dd dist i j := by rw [← HRWI.1, ← rdl, rd_dd]
       rw [hrr] at q0
       clear hrr
       obtain ⟨d, hd⟩ : ∃ d, dd dist i j = d := ⟨_, rfl⟩
       rw [hd] at q0
       have HD := ak hd
       clear hd
       have GOOD := ak (show fit dist i j → ∀ b, b < j + 1 → fit dist i b from fun hh b hb => by
        rcases Nat.lt_or_ge b j with h' | h'
        ·exact HFJ.1 b h'
        ·obtain rfl : b = j := by omega
         exact hh)
       have BAD := ak (show ¬ fit dist i j → mtB n dist = false from fun hh => mt_no n dist i j hlt hjn (fun hc => hh hc.2))
       by_cases hij : i = j
       ·have e1 : ((i : Int) == (j : Int)) = true := by simp; omega
        have e2 : ((i : Int) != (j : Int)) = false := by simp; omega
        by_cases h10 : d = 10
        ·have e3 : (d != 10) = false := by simp; omega
         have HFT := ak (show fit dist i j by unfold fit; rw [if_pos hij, HD.1]; exact h10)
         clear hij h10
         go_wp2_with fail
         go_roundw
         case rel => exact ⟨j + 1, by go_num, by omega, GOOD.out HFT.1, HX.1, HB.1⟩
         case measure => simp [intOf]; omega
        ·have e3 : (d != 10) = true := by simp; omega
         have HM := ak (BAD.out (by unfold fit; rw [if_pos hij, HD.1]; exact h10))
         clear hij h10
         go_wp2_with fail
         go_ret
         exact ⟨by rw [HM.1]; rfl, HB.1⟩
       ·have e1 : ((i : Int) == (j : Int)) = false := by simp; omega
        have e2 : ((i : Int) != (j : Int)) = true := by simp; omega
        by_cases hle : d ≤ 10
        ·have e3 : decide (d ≤ 10) = true := decide_eq_true hle
         have HM := ak (BAD.out (by unfold fit; rw [if_neg hij, HD.1]; omega))
         clear hij hle
         go_wp2_with fail
         go_ret
         exact ⟨by rw [HM.1]; rfl, HB.1⟩
        ·have e3 : decide (d ≤ 10) = false := decide_eq_false hle
         by_cases hgt : 255 < d
         ·have e4 : decide (255 < d) = true := decide_eq_true hgt
          have HM := ak (BAD.out (by unfold fit; rw [if_neg hij, HD.1]; omega))
          clear hij hle hgt
          go_wp2_with fail
          go_ret
          exact ⟨by rw [HM.1]; rfl, HB.1⟩
         ·have e4 : decide (255 < d) = false := decide_eq_false hgt
          have HFT := ak (show fit dist i j by unfold fit; rw [if_neg hij, HD.1]; omega)
          clear hij hle hgt
          go_wp2_with fail
          go_roundw
          case rel => exact ⟨j + 1, by go_num, by omega, GOOD.out HFT.1, HX.1, HB.1⟩
          case measure => simp [intOf]; omega
      ·obtain rfl : j = n := by omega
       have hjb : decide (j < j) = false := decide_eq_false hjn
       go_wp2_with fail
       go_roundw
       case rel => exact ⟨i + 1, by go_num, by omega, fun a ha => by
        rcases Nat.lt_or_ge a i with h' | h'
        ·exact HF.1 a h'
        ·obtain rfl : a = i := by omega
         exact HFJ.1, HX.1, HB.1⟩
       case measure => simp [intOf]; omega
    ·obtain rfl : i = n := by omega
     have hltb : decide (i < i) = false := decide_eq_false hlt
     have HM := ak (mt_yes i dist HL.1 (fun a ha b hb => ⟨HSYM.1 a ha b hb, HF.1 a ha b hb⟩))
     go_wp2_with fail
     go_ret
     exact ⟨by rw [HM.1]; rfl, HB.1⟩
 ·have HM := ak (mt_no_lens n dist hL)
  have HL := ak hL
  clear hL
  go_enter Tryz.func136, Tryz.ntmps136
  go_wp2_with (go_at_call 180; (with_reducible refine (table_own n h1 h8 f A la ca B cb dist _ (Kd.C_alloc HR3.1 _) hcb).mono ?_); rintro e_ w2 ⟨hb, ht_, _⟩; obtain rfl := ht_ HL.1; have HB := ak (below_then (below_alloc (Below.refl w.heap.size w) _) (by simp) hb); clear hb ht_)
  go_ret
  exact ⟨by rw [HM.1]; rfl, HB.1⟩
end Go.Proofs.YtenkdmloolbdaaaGreatDoor.TZ
end
