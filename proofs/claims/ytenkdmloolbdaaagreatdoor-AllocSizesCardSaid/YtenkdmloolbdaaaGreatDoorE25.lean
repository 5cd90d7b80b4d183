import Derived.Test.YtenkdmloolbdaaaGreatDoorE12
import Derived.Test.YtenkdmloolbdaaaGreatDoorE04
import Derived.Test.YtenkdmloolbdaaaGreatDoorE16
set_option linter.unusedVariables false
set_option linter.unusedSimpArgs false
set_option maxHeartbeats 8000000
set_option maxRecDepth 100000
section
namespace Go.Proofs.YtenkdmloolbdaaaGreatDoor.T
open Go.RowKit Go.Proofs.YtenkdmloolbdaaaGreatDoorW.PrintWords Go.Proofs.YtenkdmloolbdaaaGreatDoorW.PrintLast Go.Proofs.YtenkdmloolbdaaaGreatDoorW.PrintMore
def outI (tk i : Nat) : Nat := tk ^^^ (tk &&& (1 <<< i))
theorem out8 : ∀ tk : Nat, tk < 256 → ∀ i : Nat, i < 8 → Go.bits .andNot .u8 (tk : Int) (IntKind.u8.wrap (2 ^ min i 8)) = (outI tk i : Int) := by decide +kernel
theorem span_give (b c tk i : Nat) (hc : c < 4) (ht : tk < 256) (hi : i < clN c) (hb : tk.testBit i = true) (w : World) (h : Blk w b (spanC c tk) 194) :
 Calls Tryz.prog 152 #[.pointer (some ⟨b, 0, none⟩), .int .i64 i] w fun e w' => e = .returned (.int .i64 0) ∧ Blk w' b (spanC c (outI tk i)) 194 ∧ Chg (· = b) w w' := by
 have HH := ak (span_has b c tk hc ht i hi w h)
 rw [hb] at HH
 have hn8 := cln_le c hc
 have HP := ak (out8 tk ht i (by omega))
 have HBL := ak h
 have s3 := h.at 3 (.int .u8 tk) rfl
 have f3 := h.fz 3
 have i0 : (0 : Int) ≤ (i : Int) := by omega
 clear h hn8 hi hb
 go_enter Tryz.func152, Tryz.ntmps152
 go_upto_region 5 with (go_at_call 196; (with_reducible refine HH.1.mono ?_); rintro e_ w1 ⟨rfl, hw1⟩; have hw1 := hw1.symm; subst hw1)
 all_goals first | (exact absurd ‹IntKind.u8.signed = true› (by decide)) | skip
 refine st_ 10 (fun w' => w'.cell? ⟨b, 3, none⟩ = some (.int .u8 tk)) [9] (s3) (fun hHeld => ?_)
 have n0_ := ak (HBL.1.below (below_drew (RowKit.Below.refl _ _)))
 have HCH := ak (Chg.drew (Chg.refl (· = b) w))
 have t3 := n0_.out.at 3 (.int .u8 tk) rfl
 have g3 := n0_.out.fz 3
 refine pu_ 0 13 1 ?_
 refine pu_ 1 14 3 ?_
 refine pu_ 2 15 7 ?_
 refine pu_ 4 17 23 ?_
 refine pu_ 5 18 55 ?_
 refine ta_ 3 16 63 hHeld ?_
 refine pu_ 6 19 127 ?_
 refine pu_ 7 20 255 ?_
 refine pu_ 8 21 511 ?_
 refine last_ (i := 9) (N := none) (bz 10 1023) rfl rfl (by kernel_rfl) (by decide) (fun K hK => ?_)
 refine skip_ (w1 := ?_) (by rfl) rfl ?_ ?_
 rotate_left
 ·go_simp
  rfl
 refine hK.out _ _ ?_
 clear hK K
 refine done_ (by kernel_rfl) ?_
 go_wp2_with fail
 go_ret
 refine ⟨rfl, ?_, (Chg.set (F := fun x => x = b) (Chg.refl _ _) ⟨b, 3, none⟩ (fun _ => rfl) _).drew⟩
 have h3 := HBL.1.set 3 (.int .u8 (Go.bits .andNot .u8 (tk : Int) (IntKind.u8.wrap (2 ^ min i 8))))
 rw [HP.1] at h3 ⊢
 exact h3.below (below_drew (RowKit.Below.refl _ _))
end Go.Proofs.YtenkdmloolbdaaaGreatDoor.T
end
section
namespace Go.Proofs.YtenkdmloolbdaaaGreatDoor.T
open Go.RowKit Go.Maps Go.WideShapes Go.Proofs.YtenkdmloolbdaaaGreatDoorW.PrintWords Go.Proofs.YtenkdmloolbdaaaGreatDoorW.PrintLast Go.Proofs.YtenkdmloolbdaaaGreatDoorW.PrintMore
theorem span_index (b c tk i : Nat) (hc : c < 4) (hi : i < clN c) (w : World) (h : Blk w b (spanC c tk) 194) :
 Calls Tryz.prog 151 #[.pointer (some ⟨b, 0, none⟩), .int .i64 ((i * clS c : Nat) : Int)] w fun e w' => e = .returned (.tuple #[.int .i64 i, .int .i64 0]) ∧ RowKit.Below w.heap.size w w' := by
 have hn8 := cln_le c hc
 have hz : 1 ≤ clS c ∧ clS c ≤ 64 := (by decide : ∀ c : Nat, c < 4 → 1 ≤ clS c ∧ clS c ≤ 64) c hc
 have hlt : i * clS c < clN c * clS c := Nat.mul_lt_mul_of_pos_right hi (by omega)
 have s1 := h.at 1 (.int .i64 (clS c)) rfl
 have s2 := h.at 2 (.int .i64 (clN c)) rfl
 obtain ⟨z, hzz⟩ : ∃ z, clS c = z := ⟨_, rfl⟩
 obtain ⟨m, hm⟩ : ∃ m, clN c = m := ⟨_, rfl⟩
 obtain ⟨o, ho⟩ : ∃ o, i * clS c = o := ⟨_, rfl⟩
 rw [ho]
 rw [hzz] at s1 hz hlt ho
 rw [hm] at s2 hlt hi hn8
 have hzm : m * z ≤ 512 := Nat.mul_le_mul hn8 hz.2
 have hq : (o : Int) / (z : Int) = (i : Int) := by rw [← ho, Int.natCast_mul]; exact Int.mul_ediv_cancel _ (by omega)
 have hr : (o : Int).tmod (z : Int) = 0 := by rw [← ho, Int.natCast_mul]; exact Int.mul_tmod_left _ _
 have hcm : (z : Int) * (m : Int) = ((m * z : Nat) : Int) := by rw [Int.natCast_mul, Int.mul_comm]
 obtain ⟨u, hu⟩ : ∃ u, m * z = u := ⟨_, rfl⟩
 rw [ho, hu] at hlt
 rw [hu] at hzm hcm
 have i0 : (0 : Int) ≤ (i : Int) := by omega
 have i8 : (i : Int) ≤ 8 := by omega
 have d0 : decide ((o : Int) < 0) = false := decide_eq_false (by omega)
 have d1 : decide ((u : Int) ≤ (o : Int)) = false := decide_eq_false (by omega)
 have d2 : decide (u ≤ o) = false := decide_eq_false (by omega)
 have z0 : ((z : Int) == 0) = false := beq_eq_false_iff_ne.mpr (by omega)
 have z1 : ¬ ((z : Int) = 0) := by omega
 have z2 : ¬ (z = 0) := by omega
 have hw : wrap64 (u : Int) = (u : Int) := w64 _ (by omega)
 have hw2 : wrap64 (i : Int) = (i : Int) := w64 _ (by omega)
 clear h hn8 hz hlt hi hzm hzz hm ho hu i0 i8
 go_enter Tryz.func151, Tryz.ntmps151
 go_upto_region 3 with fail
 refine st_ 25 (fun w' => w'.cell? ⟨b, 1, none⟩ = some (.int .i64 (z : Int)) ∧ w'.cell? ⟨b, 2, none⟩ = some (.int .i64 (m : Int))) [] ⟨s1, s2⟩ (fun hHeld => ?_)
 refine pu_ 0 10 1 ?_
 refine pu_ 1 11 3 ?_
 refine pu_ 2 12 7 ?_
 refine pu_ 3 13 15 ?_
 refine pu_ 4 14 31 ?_
 refine pu_ 5 15 63 ?_
 refine pu_ 6 16 127 ?_
 refine pu_ 8 18 383 ?_
 refine pu_ 9 19 895 ?_
 refine pu_ 10 20 1919 ?_
 refine ta_ 7 17 2047 hHeld ?_
 refine ta_ 11 21 4095 hHeld ?_
 refine pu_ 12 22 8191 ?_
 refine pu_ 13 23 16383 ?_
 refine pu_ 14 24 32767 ?_
 refine pu_ 15 25 65535 ?_
 refine pu_ 16 26 131071 ?_
 refine pu_ 17 27 262143 ?_
 refine pu_ 18 28 524287 ?_
 refine pu_ 19 29 1048575 ?_
 refine ta_ 20 30 2097151 hHeld ?_
 refine pu_ 21 31 4194303 ?_
 refine pu_ 22 32 8388607 ?_
 refine pu_ 23 33 16777215 ?_
 refine pu_ 24 9 33554431 ?_
 refine done_ (by kernel_rfl) ?_
 go_wp2_with fail
 go_ret2
 refine ⟨?_, below_drew (RowKit.Below.refl _ _)⟩
 show Ending.returned (.tuple #[.int .i64 (wrap64 (i : Int)), .int .i64 0]) = _
 rw [hw2]
theorem span_empty (b c tk : Nat) (ht : tk < 256) (w : World) (h : Blk w b (spanC c tk) 194) :
 Calls Tryz.prog 112 #[.pointer (some ⟨b, 0, none⟩)] w fun e w' => e = .returned (.bool (decide (Lib.onesCount tk = 0))) ∧ w' = w := by
 have HU := ak (span_used b c tk ht w h)
 obtain ⟨k, hk⟩ : ∃ k, Lib.onesCount tk = k := ⟨_, rfl⟩
 rw [hk] at HU ⊢
 have e1 : ((k : Int) == 0) = decide (k = 0) := by
  by_cases h : k = 0
  ·subst h; rfl
  ·rw [decide_eq_false h]; exact beq_eq_false_iff_ne.mpr (by omega)
 have e2 : (k == 0) = decide (k = 0) := by
  by_cases h : k = 0
  ·subst h; rfl
  ·rw [decide_eq_false h]; exact beq_eq_false_iff_ne.mpr h
 clear h hk
 go_enter Tryz.func112, Tryz.ntmps112
 go_wp2_with (go_at_call 73; (with_reducible refine HU.1.mono ?_); rintro e_ w1 ⟨rfl, hw1⟩; have hw1 := hw1.symm; subst hw1)
 go_ret
 exact ⟨rfl, rfl⟩
end Go.Proofs.YtenkdmloolbdaaaGreatDoor.T
end
