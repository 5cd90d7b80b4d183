import Derived.Test.YtenkdmloolbdaaaGreatDoorE25
import Derived.Test.YtenkdmloolbdaaaGreatDoorE04
import Derived.Test.YtenkdmloolbdaaaGreatDoorE16
import Derived.Conc.LoneSelect
import Derived.Test.YtenkdmloolbdaaaGreatDoorE27
import Derived.Test.YtenkdmloolbdaaaGreatDoorE28
import Derived.Test.YtenkdmloolbdaaaGreatDoorE32
set_option linter.unusedVariables false
set_option linter.unusedSimpArgs false
set_option maxHeartbeats 8000000
set_option maxRecDepth 100000
section
namespace Go.Proofs.YtenkdmloolbdaaaGreatDoor.T
open Go.RowKit Go.Maps Go.WideShapes Go.Proofs.YtenkdmloolbdaaaGreatDoorW.PrintWords Go.Proofs.YtenkdmloolbdaaaGreatDoorW.PrintLast Go.Proofs.YtenkdmloolbdaaaGreatDoorW.PrintMore
def Do (f : Nat) (xs : Array Value) (m : Nat) (a : Ad) (s s' : St) (r : Value) : Prop := ∀ κ w, GlobK κ w → MachK κ w m a s →
 Calls Tryz.prog f xs w fun e w' => e = .returned r ∧ ∃ κ', MachK κ' w' m a s' ∧ Upd (fun z => 1 ≤ z) κ w κ' w'
theorem span_of2 (κ : Kol) (m : Nat) (a : Ad) (s : St) (x p : Nat) (y : Int) (hx : x ≤ 1000000) (hp : p < 4096) (ho : TS.ofR s.rs ((x / 64 : Nat) : Int) = ((p : Int), y, true)) (w : World) (h : MachK κ w m a s) (hd : Held) (hsp : s.sp p = some hd) :
 Calls Tryz.prog 91 #[.pointer (some ⟨m, 0, none⟩), .int .i64 x] w fun e w' => ∃ q, e = .returned (.pointer (some ⟨q, 0, none⟩)) ∧ HeldK κ w' q p hd ∧ SpAt κ w' a.sb q p ∧ RowKit.Below w.heap.size w w' := by
 have HOF := ak (space_of ((x / 64 : Nat) : Int) h.spc)
 rw [ho, show ((x / 64 : Nat) : Int) = (x : Int) / 64 from by omega] at HOF
 have HM := ak h
 have c6 := h.c6
 have hx0 : (0 : Int) ≤ (x : Int) := by omega
 have hx1 : (x : Int) ≤ 1000000 := by omega
 clear h ho
 go_enter Tryz.func91, Tryz.ntmps91
 go_upto_region 4 with (go_at_call 145; (with_reducible refine HOF.1.mono ?_); rintro e_ w1 ⟨rfl, hb⟩; have HB := ak hb; clear hb)
 have hm1 := HM.1.below HB.1
 obtain ⟨f, k1, k2, k3⟩ := hm1.sp
 obtain ⟨q1, hq1, hh⟩ := (k3 p).2 hd hsp
 have hlk := k1.look (p : Int) (i64o _ (by omega) (by omega))
 rw [hq1] at hlk
 have c11 := hm1.c11
 have HH := ak (And.intro hh (show SpAt κ w1 a.sb q1 p from ⟨_, f, k1, hq1⟩))
 clear hm1 k1 k2 k3 hq1 hh c6
 go_wp2_with fail
 go_ret
 exact ⟨q1, rfl, HH.1.1, HH.1.2, HB.1⟩
def backS (s : St) (p : Nat) (hd : Held) (i : Nat) : St := { s with sp := setSp s.sp p { hd with tk := outI hd.tk i } }
theorem back_own (m : Nat) (a : Ad) (s : St) (p i : Nat) (hd : Held) (y : Int) (hp : s.sp p = some hd) (hc : hd.cls < 4) (ht : hd.tk < 256) (hi : i < clN hd.cls) (hb : hd.tk.testBit i = true) (hpg : p < 4096) (ho : TS.ofR s.rs (((64 * p + i * clS hd.cls) / 64 : Nat) : Int) = ((p : Int), y, true)) :
 Do 98 #[.pointer (some ⟨m, 0, none⟩), .int .i64 (plc p hd.cls i)] m a s (backS s p hd i) (.tuple #[]) := by
 intro κ w hg h
 have hn8 := cln_le hd.cls hc
 have hz := cls_size hd.cls hc
 have hib : i * clS hd.cls ≤ 8 * 64 := Nat.mul_le_mul (by omega) hz
 obtain ⟨o, hoo⟩ : ∃ o, i * clS hd.cls = o := ⟨_, rfl⟩
 have HSO := ak (span_of2 κ m a s (64 * p + i * clS hd.cls) p y (by omega) hpg ho w h hd hp)
 have HIX := ak (fun sb w' (hh : Blk w' sb (spanC hd.cls hd.tk) 194) => span_index sb hd.cls hd.tk i hc hi w' hh)
 unfold plc
 rw [hoo] at HSO HIX hib ⊢
 obtain ⟨x, hx⟩ : ∃ x, 64 * p + o = x := ⟨_, rfl⟩
 rw [hx] at HSO ⊢
 have HM := ak h
 have HF := ak (And.intro hc (And.intro ht (And.intro hi hb)))
 have HP := ak hp
 have g2 : (0 : Int) ≤ (p : Int) * 64 ∧ (p : Int) * 64 ≤ 1000000 := by omega
 have g3 : (x : Int) - (p : Int) * 64 = (o : Int) := by omega
 have g4 : (0 : Int) ≤ (o : Int) ∧ (o : Int) ≤ 1000000 := by omega
 have f1 : wrap64 ((p : Int) * 64) = (p : Int) * 64 := w64 _ g2
 have f2 : wrap64 ((x : Int) - wrap64 ((p : Int) * 64)) = (o : Int) := by rw [f1, g3]; exact w64 _ g4
 rw [← f2] at HIX
 clear hg h hp hc ht hi hb ho hn8 hz hib g2 g3 g4 hoo hx f1 f2
 go_enter Tryz.func98, Tryz.ntmps98
 go_upto_region 2 with (go_at_call 91; (with_reducible refine HSO.1.mono ?_); rintro e_ w1 ⟨q, rfl, q1, q2, q3⟩; obtain ⟨sb, k1, k2⟩ := q1; have HK1 := ak k1; have HK2 := ak k2; have HAT := ak q2; have HU := ak (Upd.of_below (I := fun z => 1 ≤ z) κ q3); have HM1 := ak (HM.1.below q3); have s0 := k1.blk.at 0 (.pointer (some ⟨sb, 0, none⟩)) rfl; have s1 := k1.blk.at 1 (.int .i64 (p : Int)) rfl; clear k1 k2 q2 q3)
 clear HM HSO
 refine st_ 17 (fun w' => w'.cell? ⟨q, 0, none⟩ = some (.pointer (some ⟨sb, 0, none⟩)) ∧ w'.cell? ⟨q, 1, none⟩ = some (.int .i64 (p : Int))) [11] ⟨s0, s1⟩ (fun hHeld => ?_)
 have hd_ := below_drew (RowKit.Below.refl w1.heap.size w1)
 have n0_ := ak (HM1.1.below hd_)
 have n1_ := ak (HAT.1.upd (I := fun _ => False) (Upd.of_below κ hd_) (fun h => h))
 have n2_ := ak (HK1.1.below hd_)
 have n3_ := ak (HK2.1.below hd_)
 have n4_ := ak (HU.1.below hd_)
 clear HM1 HAT HK1 HK2 HU s0 s1 hd_
 have HM1 := n0_
 have HAT := n1_
 have HK1 := n2_
 have HK2 := n3_
 have HU := n4_
 clear n0_ n1_ n2_ n3_ n4_
 have s0 := HK1.1.blk.at 0 (.pointer (some ⟨sb, 0, none⟩)) rfl
 have s1 := HK1.1.blk.at 1 (.int .i64 (p : Int)) rfl
 generalize w1.drew = wd at *
 refine pu_ 0 13 1 ?_
 refine pu_ 1 14 3 ?_
 refine pu_ 2 15 7 ?_
 refine pu_ 4 17 23 ?_
 refine pu_ 5 18 55 ?_
 refine pu_ 6 19 119 ?_
 refine pu_ 7 20 247 ?_
 refine ta_ 3 16 255 hHeld ?_
 refine ta_ 8 21 511 hHeld ?_
 refine pu_ 9 22 1023 ?_
 refine pu_ 10 23 2047 ?_
 refine last_ (i := 11) (N := some 24) (bz 17 4095) rfl rfl (by kernel_rfl) (by decide) (fun K hK => ?_)
 refine goes_ Tryz.func151 (by kernel_rfl) rfl #[.pointer (some ⟨sb, 0, none⟩), .int .i64 (wrap64 ((x : Int) - wrap64 ((p : Int) * 64)))] (by rfl) rfl rfl (by simp only [List.map_toArray, List.map_cons, List.map_nil]; rfl) ?_
 with_reducible refine (HIX.1 sb _ HK2.1.blk).mono ?_
 rintro e_ w2 ⟨rfl, hb⟩
 refine ⟨_, rfl, ?_⟩
 have n0_ := ak (HM1.1.below hb)
 have n1_ := ak (HAT.1.upd (I := fun _ => False) (Upd.of_below κ hb) (fun h => h))
 have n2_ := ak (HK1.1.below hb)
 have n3_ := ak (HK2.1.below hb)
 have n4_ := ak (HU.1.below hb)
 clear HM1 HAT HK1 HK2 HU s0 s1 hb
 have HM1 := n0_
 have HAT := n1_
 have HK1 := n2_
 have HK2 := n3_
 have HU := n4_
 clear n0_ n1_ n2_ n3_ n4_
 have s0 := HK1.1.blk.at 0 (.pointer (some ⟨sb, 0, none⟩)) rfl
 have s1 := HK1.1.blk.at 1 (.int .i64 (p : Int)) rfl
 clear hHeld
 clear s0 s1
 refine hK.out _ _ ?_
 clear hK K
 refine no_ 24 ?_
 refine pu_ 12 12 8191 ?_
 refine pu_ 13 25 16383 ?_
 refine pu_ 14 26 32767 ?_
 refine pu_ 15 5 65535 ?_
 refine pu_ 16 6 131071 ?_
 refine done_ (by kernel_rfl) ?_
 have s0 := HK1.1.blk.at 0 (.pointer (some ⟨sb, 0, none⟩)) rfl
 have HGV := ak (span_give sb hd.cls hd.tk i HF.1.1 HF.1.2.1 HF.1.2.2.1 HF.1.2.2.2 _ HK2.1.blk)
 go_wp2_with (go_at_call 152; (with_reducible refine HGV.1.mono ?_); rintro e_ w3 ⟨rfl, q1, q2⟩; have HQ := ak (And.intro q1 q2); clear q1 q2)
 refine bodyPost_end (results_none rfl _ _ _) rfl ?_
 have hU3 : Upd (fun z => z = 1000 + 2 * p ∨ z = 1001 + 2 * p) κ w2 κ w3 := ⟨fun _ _ => rfl, HQ.1.2.os, HQ.1.2.tape, HQ.1.2.output, HQ.1.2.size, fun b hb hne => HQ.1.2.block b hb (fun e => hne (by rw [e]; exact Or.inr HK2.1.kol))⟩
 have hh3 : HeldK κ w3 q p { hd with tk := outI hd.tk i } := ⟨sb, ⟨HK1.1.kol, HK1.1.blk.chg HQ.1.2 (fun e => by have h1 := HK1.1.kol; have e : q = sb := e; rw [e, HK2.1.kol] at h1; omega)⟩, HK2.1.kol, HQ.1.1⟩
 exact ⟨rfl, κ, HM1.1.putHeld hpg HAT.1 HP.1 hh3 hU3, HU.1.then hU3 (fun c e => by omega)⟩
end Go.Proofs.YtenkdmloolbdaaaGreatDoor.T
end
