import Derived.Test.YtenkdmloolbdaaaGreatDoorE03
import Derived.Test.YtenkdmloolbdaaaGreatDoorE04
import Derived.Test.YtenkdmloolbdaaaGreatDoorE11
set_option linter.unusedVariables false
set_option linter.unusedSimpArgs false
set_option maxHeartbeats 8000000
set_option maxRecDepth 100000
section
namespace Go.Proofs.YtenkdmloolbdaaaGreatDoor.T
open Go.RowKit Go.Proofs.YtenkdmloolbdaaaGreatDoorW.PrintWords Go.Proofs.YtenkdmloolbdaaaGreatDoorW.PrintLast Go.Proofs.YtenkdmloolbdaaaGreatDoorW.PrintMore
theorem beqN (u q : Nat) : (u == q) = decide (u = q) := rfl
theorem beqI (u q : Nat) : ((u : Int) == (q : Int)) = decide (u = q) := by
 by_cases e : u = q
 ·subst e; simp
 ·rw [decide_eq_false e]
  exact beq_eq_false_iff_ne.mpr (by omega)
theorem tz_own (x : Nat) (hx : x < 256) (w : World) : Calls Tryz.prog 223 #[.int .u8 x] w fun e w' => e = .returned (.int .i64 (Lib.trailingZeros8 x)) ∧ w' = w := by
 have := Any.bits_TrailingZeros8 Tryz.lays136 x w (by omega) (by omega)
 rw [Int.toNat_natCast] at this
 exact this
theorem ones_own (x : Nat) (hx : x < 256) (w : World) : Calls Tryz.prog 128 #[.int .u8 x] w fun e w' => e = .returned (.int .i64 (Lib.onesCount x)) ∧ w' = w := by
 have := Any.bits_OnesCount8 Tryz.lays135 x w (by omega) (by omega)
 rw [Int.toNat_natCast] at this
 exact this
abbrev spanC (c tk : Nat) : Array Value := #[.int .i64 c, .int .i64 (clS c), .int .i64 (clN c), .int .u8 tk]
theorem span_class (b c tk : Nat) (w : World) (h : Blk w b (spanC c tk) 194) :
 Calls Tryz.prog 72 #[.pointer (some ⟨b, 0, none⟩)] w fun e w' => e = .returned (.int .i64 c) ∧ w' = w := by
 have s0 := h.at 0 (.int .i64 c) rfl
 clear h
 go_enter Tryz.func72, Tryz.ntmps72
 go_wp2_with fail
 go_ret
 exact ⟨rfl, rfl⟩
theorem span_used (b c tk : Nat) (ht : tk < 256) (w : World) (h : Blk w b (spanC c tk) 194) :
 Calls Tryz.prog 73 #[.pointer (some ⟨b, 0, none⟩)] w fun e w' => e = .returned (.int .i64 (Lib.onesCount tk)) ∧ w' = w := by
 have s3 := h.at 3 (.int .u8 tk) rfl
 have HO := ak (ones_own tk ht)
 clear h
 go_enter Tryz.func73, Tryz.ntmps73
 go_wp2_with (go_at_call 128; (with_reducible refine (HO.1 _).mono ?_); rintro e_ w1 ⟨rfl, rfl⟩)
 go_ret
 exact ⟨rfl, rfl⟩
theorem not8 : ∀ tk : Nat, tk < 256 → Go.bits .xor .u8 IntKind.u8.max (tk : Int) = ((255 - tk : Nat) : Int) := by decide +kernel
def freeI (tk : Nat) : Nat := Lib.trailingZeros8 (255 - tk)
def putI (tk i : Nat) : Nat := tk ||| (1 <<< i)
theorem free_le : ∀ tk : Nat, tk < 256 → freeI tk ≤ 8 := by decide +kernel
theorem put8 : ∀ tk : Nat, tk < 256 → ∀ i : Nat, i < 8 → Go.bits .or .u8 (tk : Int) (IntKind.u8.wrap (2 ^ min i 8)) = (putI tk i : Int) := by decide +kernel
theorem cln_le : ∀ c : Nat, c < 4 → clN c ≤ 8 := by decide +kernel
theorem span_take (b c tk : Nat) (hc : c < 4) (ht : tk < 256) (w : World) (h : Blk w b (spanC c tk) 194) (hf : freeI tk < clN c) :
 Calls Tryz.prog 209 #[.pointer (some ⟨b, 0, none⟩)] w fun e w' => e = .returned (.tuple #[.int .i64 (freeI tk), .int .i64 0]) ∧ Blk w' b (spanC c (putI tk (freeI tk))) 194 ∧ Chg (· = b) w w' := by
 obtain ⟨i, hi⟩ : ∃ i, freeI tk = i := ⟨_, rfl⟩
 have HT := ak (show ∀ W, Calls Tryz.prog 223 #[.int .u8 (Go.bits .xor .u8 IntKind.u8.max (tk : Int))] W fun e w' => e = .returned (.int .i64 i) ∧ w' = W from fun W => by
  have := tz_own (255 - tk) (by omega) W
  rw [← not8 tk ht, show Lib.trailingZeros8 (255 - tk) = i from hi] at this
  exact this)
 have hn8 := cln_le c hc
 rw [hi] at hf ⊢
 have HP := ak (put8 tk ht i (by omega))
 have HBL := ak h
 have s3 := h.at 3 (.int .u8 tk) rfl
 have s2 := h.at 2 (.int .i64 (clN c)) rfl
 have f3 := h.fz 3
 have i0 : (0 : Int) ≤ (i : Int) := by omega
 obtain ⟨q, hq⟩ : ∃ q, clN c = q := ⟨_, rfl⟩
 rw [hq] at s2 hf
 have d1 : decide (q ≤ i) = false := decide_eq_false (by omega)
 clear h hq hn8 hi
 go_enter Tryz.func209, Tryz.ntmps209
 go_upto_region 4 with (go_at_call 223; (with_reducible refine (HT.1 _).mono ?_); rintro e_ w1 ⟨rfl, rfl⟩)
 all_goals first | (exact absurd ‹IntKind.u8.signed = true› (by decide)) | skip
 go_upto_region 6 with fail
 refine st_ 10 (fun w' => w'.cell? ⟨b, 3, none⟩ = some (.int .u8 tk)) [9] (s3) (fun hHeld => ?_)
 have n0_ := ak (HBL.1.below (below_drew (RowKit.Below.refl _ _)))
 have HCH := ak (Chg.drew (Chg.refl (· = b) w1))
 have t3 := n0_.out.at 3 (.int .u8 tk) rfl
 have g3 := n0_.out.fz 3
 refine pu_ 0 19 1 ?_
 refine pu_ 1 20 3 ?_
 refine pu_ 2 21 7 ?_
 refine pu_ 4 23 23 ?_
 refine pu_ 5 24 55 ?_
 refine ta_ 3 22 63 hHeld ?_
 refine pu_ 6 25 127 ?_
 refine pu_ 7 26 255 ?_
 refine pu_ 8 27 511 ?_
 refine last_ (i := 9) (N := none) (bz 10 1023) rfl rfl (by kernel_rfl) (by decide) (fun K hK => ?_)
 refine skip_ (w1 := ?_) (by rfl) rfl ?_ ?_
 rotate_left
 ·go_simp
  rfl
 refine hK.out _ _ ?_
 clear hK K
 refine done_ (by kernel_rfl) ?_
 go_wp2_with fail
 go_ret2
 refine ⟨rfl, ?_, (Chg.set (F := fun x => x = b) (Chg.refl _ _) ⟨b, 3, none⟩ (fun _ => rfl) _).drew⟩
 have h3 := HBL.1.set 3 (.int .u8 (Go.bits .or .u8 (tk : Int) (IntKind.u8.wrap (2 ^ min i 8))))
 rw [HP.1] at h3 ⊢
 exact h3.below (below_drew (RowKit.Below.refl _ _))
theorem span_full (b c tk : Nat) (ht : tk < 256) (w : World) (h : Blk w b (spanC c tk) 194) :
 Calls Tryz.prog 205 #[.pointer (some ⟨b, 0, none⟩)] w fun e w' => e = .returned (.bool (decide (Lib.onesCount tk = clN c))) ∧ RowKit.Below w.heap.size w w' := by
 have HU := ak (span_used b c tk ht)
 have HBL := ak h
 have s2 := h.at 2 (.int .i64 (clN c)) rfl
 obtain ⟨u, hu⟩ : ∃ u, Lib.onesCount tk = u := ⟨_, rfl⟩
 obtain ⟨q, hq⟩ : ∃ q, clN c = q := ⟨_, rfl⟩
 rw [hu] at HU ⊢
 rw [hq] at s2 ⊢
 have HQ := ak hq
 clear h hu hq
 obtain ⟨bb, hbb⟩ : ∃ bb, decide (u = q) = bb := ⟨_, rfl⟩
 have d1 : ((u : Int) == (q : Int)) = bb := by rw [← hbb]; exact beqI u q
 have d2 : (u == q) = bb := by rw [← hbb]; exact beqN u q
 rw [hbb]
 clear hbb
 go_enter Tryz.func205, Tryz.ntmps205
 go_upto_region 1 with fail
 refine st_ 12 (fun w' => w'.cell? ⟨b, 2, none⟩ = some (.int .i64 q)) [] (s2) (fun hHeld => ?_)
 refine pu_ 0 3 1 ?_
 refine pu_ 1 4 3 ?_
 refine pu_ 2 5 7 ?_
 refine pu_ 3 6 15 ?_
 refine pu_ 5 8 47 ?_
 refine pu_ 6 9 111 ?_
 refine pu_ 7 10 239 ?_
 refine ta_ 8 11 495 hHeld ?_
 refine one_ (i := 4) (N := some 7) (bz 12 511) rfl rfl (by kernel_rfl) (by decide) (fun K hK => ?_)
 refine goes_ Tryz.func73 (by kernel_rfl) rfl #[.pointer (some ⟨b, 0, none⟩)] (by rfl) rfl rfl (by simp only [List.map_toArray, List.map_cons, List.map_nil]; rfl) ?_
 with_reducible refine (HU.1 _ (HBL.1.below (below_drew (RowKit.Below.refl _ _)))).mono ?_
 rintro e_ w3 ⟨rfl, rfl⟩
 refine ⟨_, rfl, ?_⟩
 refine hK.out _ _ (hHeld) (fun hHeld => ?_)
 clear hK K
 refine no_ 7 ?_
 refine pu_ 9 12 1023 ?_
 refine pu_ 10 13 2047 ?_
 refine pu_ 11 2 4095 ?_
 refine done_ (by kernel_rfl) ?_
 go_wp2_with fail
 go_ret
 exact ⟨rfl, below_drew (RowKit.Below.refl _ _)⟩
theorem count_own (c : Nat) (hc : c < 4) (w : World) (h : GlobR w) :
 Calls Tryz.prog 227 #[.int .i64 c] w fun e w' => e = .returned (.tuple #[.int .i64 (clN c), .int .i64 0]) ∧ RowKit.Below w.heap.size w w' := by
 have HR := ak (row_own c hc w h)
 clear h
 match c, hc, HR with
 | 0, _, HR =>
  have HR2 := ak (show Calls Tryz.prog 171 #[.int .i64 0] w fun e w' => e = .returned (.tuple #[.agg #[.int .i64 8, .int .i64 0], .int .i64 0]) ∧ RowKit.Below w.heap.size w w' from HR.1)
  show Calls Tryz.prog 227 #[.int .i64 0] w fun e w' => e = .returned (.tuple #[.int .i64 8, .int .i64 0]) ∧ RowKit.Below w.heap.size w w'
  clear HR
  go_enter Tryz.func227, Tryz.ntmps227
  go_upto_region 4 with (go_at_call 171; (with_reducible refine HR2.1.mono ?_); rintro e_ w1 ⟨rfl, hb⟩; have HB := ak hb; clear hb)
  have HBL := ak (Blk.new w1 #[.int .i64 8, .int .i64 0] 249)
  have t0 := HBL.1.at 0 (.int .i64 8) rfl
  have t1 := HBL.1.at 1 (.int .i64 0) rfl
  have HB2 := ak (below_alloc HB.1 (.cells #[.int .i64 8, .int .i64 0] 249))
  refine st_ 8 (fun w' => w'.cell? ⟨w1.heap.size, 0, none⟩ = some (.int .i64 8) ∧ w'.cell? ⟨w1.heap.size, 1, none⟩ = some (.int .i64 0)) [] ⟨t0, t1⟩ (fun hHeld => ?_)
  refine pu_ 0 14 1 ?_
  refine pu_ 3 17 9 ?_
  refine ta_ 1 15 11 hHeld ?_
  refine pu_ 2 16 15 ?_
  refine ta_ 4 18 31 hHeld ?_
  refine pu_ 5 19 63 ?_
  refine pu_ 6 2 127 ?_
  refine pu_ 7 3 255 ?_
  refine done_ (by kernel_rfl) ?_
  go_wp2_with fail
  go_ret2
  exact ⟨by kernel_rfl, below_drew HB2.1⟩
 | 1, _, HR =>
  have HR2 := ak (show Calls Tryz.prog 171 #[.int .i64 1] w fun e w' => e = .returned (.tuple #[.agg #[.int .i64 16, .int .i64 0], .int .i64 0]) ∧ RowKit.Below w.heap.size w w' from HR.1)
  show Calls Tryz.prog 227 #[.int .i64 1] w fun e w' => e = .returned (.tuple #[.int .i64 4, .int .i64 0]) ∧ RowKit.Below w.heap.size w w'
  clear HR
  go_enter Tryz.func227, Tryz.ntmps227
  go_upto_region 4 with (go_at_call 171; (with_reducible refine HR2.1.mono ?_); rintro e_ w1 ⟨rfl, hb⟩; have HB := ak hb; clear hb)
  have HBL := ak (Blk.new w1 #[.int .i64 16, .int .i64 0] 249)
  have t0 := HBL.1.at 0 (.int .i64 16) rfl
  have t1 := HBL.1.at 1 (.int .i64 0) rfl
  have HB2 := ak (below_alloc HB.1 (.cells #[.int .i64 16, .int .i64 0] 249))
  refine st_ 8 (fun w' => w'.cell? ⟨w1.heap.size, 0, none⟩ = some (.int .i64 16) ∧ w'.cell? ⟨w1.heap.size, 1, none⟩ = some (.int .i64 0)) [] ⟨t0, t1⟩ (fun hHeld => ?_)
  refine pu_ 0 14 1 ?_
  refine pu_ 3 17 9 ?_
  refine ta_ 1 15 11 hHeld ?_
  refine pu_ 2 16 15 ?_
  refine ta_ 4 18 31 hHeld ?_
  refine pu_ 5 19 63 ?_
  refine pu_ 6 2 127 ?_
  refine pu_ 7 3 255 ?_
  refine done_ (by kernel_rfl) ?_
  go_wp2_with fail
  go_ret2
  exact ⟨by kernel_rfl, below_drew HB2.1⟩
 | 2, _, HR =>
  have HR2 := ak (show Calls Tryz.prog 171 #[.int .i64 2] w fun e w' => e = .returned (.tuple #[.agg #[.int .i64 32, .int .i64 1], .int .i64 0]) ∧ RowKit.Below w.heap.size w w' from HR.1)
  show Calls Tryz.prog 227 #[.int .i64 2] w fun e w' => e = .returned (.tuple #[.int .i64 4, .int .i64 0]) ∧ RowKit.Below w.heap.size w w'
  clear HR
  go_enter Tryz.func227, Tryz.ntmps227
  go_upto_region 4 with (go_at_call 171; (with_reducible refine HR2.1.mono ?_); rintro e_ w1 ⟨rfl, hb⟩; have HB := ak hb; clear hb)
  have HBL := ak (Blk.new w1 #[.int .i64 32, .int .i64 1] 249)
  have t0 := HBL.1.at 0 (.int .i64 32) rfl
  have t1 := HBL.1.at 1 (.int .i64 1) rfl
  have HB2 := ak (below_alloc HB.1 (.cells #[.int .i64 32, .int .i64 1] 249))
  refine st_ 8 (fun w' => w'.cell? ⟨w1.heap.size, 0, none⟩ = some (.int .i64 32) ∧ w'.cell? ⟨w1.heap.size, 1, none⟩ = some (.int .i64 1)) [] ⟨t0, t1⟩ (fun hHeld => ?_)
  refine pu_ 0 14 1 ?_
  refine pu_ 3 17 9 ?_
  refine ta_ 1 15 11 hHeld ?_
  refine pu_ 2 16 15 ?_
  refine ta_ 4 18 31 hHeld ?_
  refine pu_ 5 19 63 ?_
  refine pu_ 6 2 127 ?_
  refine pu_ 7 3 255 ?_
  refine done_ (by kernel_rfl) ?_
  go_wp2_with fail
  go_ret2
  exact ⟨by kernel_rfl, below_drew HB2.1⟩
 | 3, _, HR =>
  have HR2 := ak (show Calls Tryz.prog 171 #[.int .i64 3] w fun e w' => e = .returned (.tuple #[.agg #[.int .i64 64, .int .i64 2], .int .i64 0]) ∧ RowKit.Below w.heap.size w w' from HR.1)
  show Calls Tryz.prog 227 #[.int .i64 3] w fun e w' => e = .returned (.tuple #[.int .i64 4, .int .i64 0]) ∧ RowKit.Below w.heap.size w w'
  clear HR
  go_enter Tryz.func227, Tryz.ntmps227
  go_upto_region 4 with (go_at_call 171; (with_reducible refine HR2.1.mono ?_); rintro e_ w1 ⟨rfl, hb⟩; have HB := ak hb; clear hb)
  have HBL := ak (Blk.new w1 #[.int .i64 64, .int .i64 2] 249)
  have t0 := HBL.1.at 0 (.int .i64 64) rfl
  have t1 := HBL.1.at 1 (.int .i64 2) rfl
  have HB2 := ak (below_alloc HB.1 (.cells #[.int .i64 64, .int .i64 2] 249))
  refine st_ 8 (fun w' => w'.cell? ⟨w1.heap.size, 0, none⟩ = some (.int .i64 64) ∧ w'.cell? ⟨w1.heap.size, 1, none⟩ = some (.int .i64 2)) [] ⟨t0, t1⟩ (fun hHeld => ?_)
  refine pu_ 0 14 1 ?_
  refine pu_ 3 17 9 ?_
  refine ta_ 1 15 11 hHeld ?_
  refine pu_ 2 16 15 ?_
  refine ta_ 4 18 31 hHeld ?_
  refine pu_ 5 19 63 ?_
  refine pu_ 6 2 127 ?_
  refine pu_ 7 3 255 ?_
  refine done_ (by kernel_rfl) ?_
  go_wp2_with fail
  go_ret2
  exact ⟨by kernel_rfl, below_drew HB2.1⟩
theorem span_new (c : Nat) (hc : c < 4) (w : World) (h : GlobR w) :
 Calls Tryz.prog 208 #[.int .i64 c] w fun e w' => ∃ b, e = .returned (.tuple #[.pointer (some ⟨b, 0, none⟩), .int .i64 0]) ∧ w.heap.size ≤ b ∧ Blk w' b (spanC c 0) 194 ∧ RowKit.Below w.heap.size w w' := by
 have HC := ak (fun (W : World) (hb : RowKit.Below w.heap.size w W) => count_own c hc W (h.below hb))
 have HS := ak (fun (W : World) (hb : RowKit.Below w.heap.size w W) => size_own c hc W (h.below hb))
 have HB := ak (RowKit.Below.refl w.heap.size w)
 clear h
 obtain ⟨s, hs⟩ : ∃ s, clS c = s := ⟨_, rfl⟩
 obtain ⟨q, hq⟩ : ∃ q, clN c = q := ⟨_, rfl⟩
 unfold spanC
 rw [hs] at HS ⊢
 rw [hq] at HC ⊢
 clear hs hq
 go_enter Tryz.func208, Tryz.ntmps208
 go_wp2_with (first | (go_at_call 227; (with_reducible refine (HC.1 _ HB.1).mono ?_); rintro e_ w1 ⟨rfl, hb⟩; have n0_ := ak (below_then HB.1 HB.1.size hb); clear HB hb; have HB := n0_; clear n0_) | (go_at_call 119; (with_reducible refine (HS.1 _ HB.1).mono ?_); rintro e_ w2 ⟨rfl, hb⟩; have n0_ := ak (below_then HB.1 HB.1.size hb); clear HB hb; have HB := n0_; clear n0_))
 go_ret2
 exact ⟨_, rfl, HB.1.size, Blk.new _ _ _, below_alloc HB.1 _⟩
theorem shr8 : ∀ tk : Nat, tk < 256 → ∀ i : Nat, i < 8 → (Go.bits .and .u8 ((tk : Int) / 2 ^ min i 8) 1 == 1) = tk.testBit i := by decide +kernel
theorem span_has (b c tk : Nat) (hc : c < 4) (ht : tk < 256) (i : Nat) (hi : i < clN c) (w : World) (h : Blk w b (spanC c tk) 194) :
 Calls Tryz.prog 196 #[.pointer (some ⟨b, 0, none⟩), .int .i64 i] w fun e w' => e = .returned (.bool (tk.testBit i)) ∧ w' = w := by
 have hn8 := cln_le c hc
 have hsh := shr8 tk ht i (by omega)
 have s3 := h.at 3 (.int .u8 tk) rfl
 have s2 := h.at 2 (.int .i64 (clN c)) rfl
 obtain ⟨q, hq⟩ : ∃ q, clN c = q := ⟨_, rfl⟩
 rw [hq] at s2 hi
 obtain ⟨r, hr⟩ : ∃ r, tk.testBit i = r := ⟨_, rfl⟩
 rw [hr] at hsh ⊢
 have i0 : (0 : Int) ≤ (i : Int) := by omega
 have d0 : decide (0 ≤ (i : Int)) = true := decide_eq_true i0
 have d1 : decide (i < q) = true := decide_eq_true hi
 clear h hn8 hq hr
 go_enter Tryz.func196, Tryz.ntmps196
 go_wp2_with fail
 go_ret
 exact ⟨rfl, rfl⟩
end Go.Proofs.YtenkdmloolbdaaaGreatDoor.T
end
