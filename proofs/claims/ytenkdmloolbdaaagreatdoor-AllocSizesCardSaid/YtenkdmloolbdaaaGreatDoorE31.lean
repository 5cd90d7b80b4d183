import Derived.Test.YtenkdmloolbdaaaGreatDoorE28
import Derived.Test.YtenkdmloolbdaaaGreatDoorE04
set_option linter.unusedVariables false
set_option linter.unusedSimpArgs false
set_option maxHeartbeats 8000000
set_option maxRecDepth 100000
section
namespace Go.Proofs.YtenkdmloolbdaaaGreatDoor.T
open Go.RowKit Go.Maps Go.WideShapes Go.Proofs.YtenkdmloolbdaaaGreatDoorW.PrintWords Go.Proofs.YtenkdmloolbdaaaGreatDoorW.PrintLast Go.Proofs.YtenkdmloolbdaaaGreatDoorW.PrintMore
def tkI (tk : Nat) : Nat → Nat
 | 0 => tk
 | j + 1 => putI (tkI tk j) (freeI (tkI tk j))
def adI (page cls tk j : Nat) : Nat := page * 64 + freeI (tkI tk j) * clS cls
def fiL (c : Cpu) (page cls tk jj : Nat) : Nat → List Int := setL c.L cls (c.L cls ++ ((List.range jj).drop 1).map fun i => (adI page cls tk i : Int))
def fiS (s : St) (j : Nat) (c : Cpu) (page : Nat) (hd : Held) (jj : Nat) : St :=
 { s with cpus := s.cpus.set j { c with L := fiL c page hd.cls hd.tk jj }, sn := s.sn, sp := setSp s.sp page { hd with tk := tkI hd.tk jj } }
theorem fiS_zero (s : St) (j : Nat) (c : Cpu) (page : Nat) (hd : Held) (hc : s.cpus[j]? = some c) (hp : s.sp page = some hd) : fiS s j c page hd 0 = s := by
 have h1 : fiL c page hd.cls hd.tk 0 = c.L := by
  funext k
  unfold fiL setL
  by_cases e : k = hd.cls
  ·subst e; simp
  ·simp [e]
 have h2 : s.cpus.set j c = s.cpus := by
  apply List.ext_getElem?
  intro i
  rw [List.getElem?_set]
  split
  ·rename_i e
   subst e
   split
   ·rw [hc]
   ·rename_i h; exact absurd (List.getElem?_eq_some_iff.1 hc).1 h
  ·rfl
 have h3 : setSp s.sp page { hd with tk := tkI hd.tk 0 } = s.sp := by
  funext q
  unfold setSp
  split
  ·rename_i e; rw [e, hp]; rfl
  ·rfl
 unfold fiS
 rw [h1, h3]
 rw [show s.cpus.set j { c with L := c.L } = s.cpus from h2]
theorem setSp_twice (sp : Nat → Option Held) (page : Nat) (x y : Held) : setSp (setSp sp page x) page y = setSp sp page y := by
 funext q
 unfold setSp
 split <;> rfl
theorem cls_size : ∀ c : Nat, c < 4 → clS c ≤ 64 := by decide
theorem fiL_succ (c : Cpu) (page cls tk jj : Nat) (hj : 1 ≤ jj) : setL (fiL c page cls tk jj) cls ((fiL c page cls tk jj) cls ++ [(adI page cls tk jj : Int)]) = fiL c page cls tk (jj + 1) := by
 funext k
 unfold fiL setL
 by_cases e : k = cls
 ·subst e
  simp only [if_true]
  rw [List.range_succ, List.drop_append_of_le_length (by simp; omega)]
  simp
 ·simp [e]
theorem fiL_len (c : Cpu) (page cls tk jj : Nat) : ((fiL c page cls tk jj) cls).length = (c.L cls).length + (jj - 1) := by
 unfold fiL setL
 simp
theorem fiS_cpu (s : St) (j : Nat) (c : Cpu) (page : Nat) (hd : Held) (jj : Nat) (hc : s.cpus[j]? = some c) : (fiS s j c page hd jj).cpus[j]? = some { c with L := fiL c page hd.cls hd.tk jj } := by
 show (s.cpus.set j _)[j]? = _
 rw [List.getElem?_set, if_pos rfl, if_pos (List.getElem?_eq_some_iff.1 hc).1]
theorem fiS_next (s : St) (j : Nat) (c : Cpu) (page : Nat) (hd : Held) (jj : Nat) (hj : jj = 0) : ({ fiS s j c page hd jj with sn := s.sn, sp := setSp (fiS s j c page hd jj).sp page { hd with tk := tkI hd.tk (jj + 1) } } : St) = fiS s j c page hd (jj + 1) := by
 subst hj
 unfold fiS
 simp only []
 rw [setSp_twice]
 rfl
theorem fiS_put (s : St) (j : Nat) (c : Cpu) (page : Nat) (hd : Held) (jj : Nat) : ({ ({ fiS s j c page hd jj with sn := s.sn, sp := setSp (fiS s j c page hd jj).sp page { hd with tk := tkI hd.tk (jj + 1) } } : St) with cpus := ((fiS s j c page hd jj).cpus).set j { c with L := fiL c page hd.cls hd.tk (jj + 1) } } : St) = fiS s j c page hd (jj + 1) := by
 unfold fiS
 simp only []
 rw [setSp_twice, List.set_set]
def RelFi (κ : Kol) (w : World) (m : Nat) (a : Ad) (s : St) (j : Nat) (c : Cpu) (q page : Nat) (hd : Held) (T : Nat) (v10 v26 : Value) (wr : World) : Prop :=
 ∃ (jj : Nat) (κ' : Kol), v26 = .int .i64 jj ∧ jj ≤ T ∧ v10 = .int .i64 (if jj = 0 then -1 else (adI page hd.cls hd.tk 0 : Int)) ∧ MachK κ' wr m a (fiS s j c page hd jj) ∧ SpAt κ' wr a.sb q page ∧ HeldK κ' wr q page { hd with tk := tkI hd.tk jj } ∧ Upd (fun z => 1 ≤ z) κ w κ' wr
theorem span_took (b c tk : Nat) (hc : c < 4) (ht : tk < 256) (w : World) (h : Blk w b (spanC c tk) 194) (hf : clN c ≤ freeI tk) :
 Calls Tryz.prog 209 #[.pointer (some ⟨b, 0, none⟩)] w fun e w' => e = .returned (.tuple #[.int .i64 0, .int .i64 14]) ∧ w' = w := by
 obtain ⟨i, hi⟩ : ∃ i, freeI tk = i := ⟨_, rfl⟩
 have HT := ak (show ∀ W, Calls Tryz.prog 223 #[.int .u8 (Go.bits .xor .u8 IntKind.u8.max (tk : Int))] W fun e w' => e = .returned (.int .i64 i) ∧ w' = W from fun W => by
  have := tz_own (255 - tk) (by omega) W
  rw [← not8 tk ht, show Lib.trailingZeros8 (255 - tk) = i from hi] at this
  exact this)
 rw [hi] at hf
 have s3 := h.at 3 (.int .u8 tk) rfl
 have s2 := h.at 2 (.int .i64 (clN c)) rfl
 obtain ⟨q, hq⟩ : ∃ q, clN c = q := ⟨_, rfl⟩
 rw [hq] at s2 hf
 have d1 : decide (q ≤ i) = true := decide_eq_true hf
 clear h hq hi
 go_enter Tryz.func209, Tryz.ntmps209
 go_wp2_with (go_at_call 223; (with_reducible refine (HT.1 _).mono ?_); rintro e_ w1 ⟨rfl, hw1⟩; have hw1 := hw1.symm; subst hw1)
 go_ret2
 exact ⟨rfl, rfl⟩
theorem fill_gen (κ : Kol) (m : Nat) (a : Ad) (s : St) (j p : Nat) (c : Cpu) (q page : Nat) (hd : Held) (hcl : hd.cls < 4) (T : Nat) (hT1 : 1 ≤ T) (hT4 : T ≤ 4) (htk : ∀ i, i ≤ T → tkI hd.tk i < 256) (hfr : ∀ i, i < T → freeI (tkI hd.tk i) < clN hd.cls) (htop : T < 4 → clN hd.cls ≤ freeI (tkI hd.tk T)) (hp : a.cps[j]? = some p) (hc : s.cpus[j]? = some c) (hcL : (c.L hd.cls).length ≤ 4) (hpg : page < 4096) (hsp : s.sp page = some hd) (w : World) (hg : GlobK κ w) (h : MachK κ w m a s) (hat : SpAt κ w a.sb q page) (hh : HeldK κ w q page hd) :
 Calls Tryz.prog 170 #[.pointer (some ⟨m, 0, none⟩), .pointer (some ⟨p, 0, none⟩), .pointer (some ⟨q, 0, none⟩)] w fun e w' => e = .returned (.tuple #[.int .i64 (adI page hd.cls hd.tk 0), .int .i64 0]) ∧ ∃ κ', MachK κ' w' m a (fiS s j c page hd T) ∧ Upd (fun z => 1 ≤ z) κ w κ' w' := by
 have HS := ak (size_own hd.cls hcl w hg.g)
 have hS64 := cls_size hd.cls hcl
 obtain ⟨cs, hcs⟩ : ∃ cs, clS hd.cls = cs := ⟨_, rfl⟩
 rw [hcs] at HS hS64
 have HCS := ak hcs
 have HM := ak h
 have HAT := ak hat
 have HH := ak hh
 obtain ⟨sb, k1, k2⟩ := hh
 have s0 := k1.blk.at 0 (.pointer (some ⟨sb, 0, none⟩)) rfl
 have HCL := ak (span_class sb hd.cls hd.tk w k2.blk)
 have HX := ak (And.intro hp (And.intro hc hsp))
 have HTK := ak htk
 have HFR := ak hfr
 have HTP := ak htop
 clear hg h hat k1 k2 hcs hp hc hsp htk hfr htop
 go_enter Tryz.func170, Tryz.ntmps170
 go_wp2_with (first | (go_at_call 72; (with_reducible refine HCL.1.mono ?_); rintro e_ w1 ⟨rfl, rfl⟩) | (go_at_call 119; (with_reducible refine HS.1.mono ?_); rintro e_ w2 ⟨rfl, hb⟩; have HB := ak hb; clear hb))
 have H0 := ak (show RelFi κ w1 m a s j c q page hd T (.int .i64 (-1)) (.int .i64 0) w2 from
  ⟨0, κ, rfl, by omega, rfl, by rw [fiS_zero s j c page hd HX.1.2.1 HX.1.2.2]; exact HM.1.below HB.1, HAT.1.upd (I := fun _ => False) (Upd.of_below κ HB.1) (fun h => h), HH.1.upd (I := fun _ => False) (Upd.of_below κ HB.1) (fun h => h) (fun h => h), Upd.of_below κ HB.1⟩)
 clear s0 HM HAT HH HCL HS
 go_loopw [10, 11, 12, 13, 26] (fun v10 _ _ _ v26 wr => RelFi κ w1 m a s j c q page hd T v10 v26 wr) (fun _ _ _ _ v26 _ => 4 - (RowKit.intOf v26).toNat)
 case atStart => exact H0.1
 case round =>
  clear H0
  obtain ⟨jj, κ', rfl, hj4, rfl, hm, hat, hhd, hu⟩ := hrel
  have HM := ak hm
  have HAT := ak hat
  have HU := ak hu
  obtain ⟨sb', k1, k2⟩ := hhd
  have s0 := k1.blk.at 0 (.pointer (some ⟨sb', 0, none⟩)) rfl
  have s1 := k1.blk.at 1 (.int .i64 (page : Int)) rfl
  have HK := ak (And.intro k1 k2)
  clear hm hat k1 k2 hu
  by_cases hlt : jj < T
  ·have jI : (jj : Int) < 4 := by omega
   have hfj := HFR.1 jj hlt
   have htj := HTK.1 jj hj4
   obtain ⟨fi, hfi⟩ : ∃ fi, freeI (tkI hd.tk jj) = fi := ⟨_, rfl⟩
   have hfi8 : fi ≤ 8 := by rw [← hfi]; exact free_le _ htj
   have hc8 : fi * cs ≤ 8 * 64 := Nat.mul_le_mul hfi8 hS64
   have HT := ak (span_take sb' hd.cls (tkI hd.tk jj) hcl htj wr HK.1.2.blk hfj)
   rw [hfi] at HT
   have had : adI page hd.cls hd.tk jj = page * 64 + fi * cs := by unfold adI; rw [hfi, HCS.1]
   have HAD := ak had
   have HFI := ak hfi
   obtain ⟨z, hz⟩ : ∃ z, fi * cs = z := ⟨_, rfl⟩
   have e2 : (fi : Int) * (cs : Int) = (z : Int) := by rw [← hz, Int.natCast_mul]
   rw [hz] at hc8
   have g1 : (0 : Int) ≤ (z : Int) ∧ (z : Int) ≤ 1000000 := by omega
   have g2 : (0 : Int) ≤ (page : Int) * 64 ∧ (page : Int) * 64 ≤ 1000000 := by omega
   have g3 : (0 : Int) ≤ (page : Int) * 64 + (z : Int) ∧ (page : Int) * 64 + (z : Int) ≤ 1000000 := by omega
   have f1 : wrap64 ((fi : Int) * (cs : Int)) = (z : Int) := by rw [e2]; exact w64 _ g1
   have f2 : wrap64 ((page : Int) * 64) = (page : Int) * 64 := w64 _ g2
   have f3 : wrap64 ((page : Int) * 64 + (z : Int)) = (page : Int) * 64 + (z : Int) := w64 _ g3
   rw [hz] at HAD
   clear hfj htj hfi hfi8 hc8 had hz g1 g2 g3 e2
   go_upto_region 10 with (go_at_call 209; (with_reducible refine HT.1.mono ?_); rintro e_ w3 ⟨rfl, q1, q2⟩; have HQ := ak (And.intro q1 q2); have t1 := (HK.1.1.upd (I := (· = 1001 + 2 * page)) (κ := κ') ⟨fun _ _ => rfl, q2.os, q2.tape, q2.output, q2.size, fun b hb hne => q2.block b hb (fun e => hne (by rw [e]; exact HK.1.2.kol))⟩ (by omega)).blk.at 1 (.int .i64 (page : Int)) rfl; clear q1 q2 s1)
   rw [f3]
   clear f1 f2 f3 t1
   have hU3 : Upd (fun z => z = 1000 + 2 * page ∨ z = 1001 + 2 * page) κ' wr κ' w3 := ⟨fun _ _ => rfl, HQ.1.2.os, HQ.1.2.tape, HQ.1.2.output, HQ.1.2.size, fun b hb hne => HQ.1.2.block b hb (fun e => hne (by rw [e]; exact Or.inr HK.1.2.kol))⟩
   have hh3 : HeldK κ' w3 q page { hd with tk := tkI hd.tk (jj + 1) } := ⟨sb', ⟨HK.1.1.kol, HK.1.1.blk.chg HQ.1.2 (fun e => by have h1 := HK.1.1.kol; have e : q = sb' := e; rw [e, HK.1.2.kol] at h1; omega)⟩, HK.1.2.kol, by
    have := HQ.1.1
    rw [← HFI.1] at this
    exact this⟩
   have hm3 := HM.1.putHeld hpg HAT.1 (show (fiS s j c page hd jj).sp page = some { hd with tk := tkI hd.tk jj } from by show setSp s.sp page _ page = _; unfold setSp; rw [if_pos rfl]) hh3 hU3
   have HM3 := ak hm3
   have HH3 := ak hh3
   have HAT3 := ak (HAT.1.upd hU3 (by omega))
   have HU3 := ak (HU.1.then hU3 (fun c e => by omega))
   clear hU3 hh3 hm3
   by_cases hz0 : jj = 0
   ·subst hz0
    rw [if_pos rfl]
    go_wp2_with fail
    refine ⟨⟨1, κ', rfl, by omega, ?_, ?_, HAT3.1, HH3.1, HU3.1⟩, by simp only [RowKit.intOf]; omega⟩
    ·rw [if_neg (by omega), HAD.1]; simp
    ·have := HM3.1
     rw [show (fiS s j c page hd 0).sn = s.sn from rfl, fiS_next s j c page hd 0 rfl] at this
     exact this
   ·rw [if_neg hz0]
    have d0 : decide (((adI page hd.cls hd.tk 0 : Nat) : Int) < 0) = false := decide_eq_false (by omega)
    obtain ⟨cb, k1, k2⟩ := HM3.1.cpuK HX.1.1 (fiS_cpu s j c page hd jj HX.1.2.1)
    have p5 := k1.blk.at 5 (.pointer (some ⟨cb, 0, none⟩)) rfl
    obtain ⟨sb2, g1, g2⟩ := HH3.1
    have s0 := g1.blk.at 0 (.pointer (some ⟨sb2, 0, none⟩)) rfl
    have HKK := ak (And.intro k1 (And.intro k2 (And.intro g1 g2)))
    have hlen : ((fiL c page hd.cls hd.tk jj) hd.cls).length < 8 := by rw [fiL_len]; omega
    have HLEN := ak hlen
    clear k1 k2 g1 g2 hlen
    go_upto_region 12 with fail
    refine st_ 11 (fun w' => w'.cell? ⟨p, 5, none⟩ = some (.pointer (some ⟨cb, 0, none⟩)) ∧ w'.cell? ⟨q, 0, none⟩ = some (.pointer (some ⟨sb2, 0, none⟩))) [10] ⟨p5, s0⟩ (fun hHeld => ?_)
    have hd_ := below_drew (RowKit.Below.refl w3.heap.size w3)
    have n0_ := ak (HM3.1.below hd_)
    have n1_ := ak (HAT3.1.upd (I := fun _ => False) (Upd.of_below κ' hd_) (fun h => h))
    have n2_ := ak (HH3.1.upd (I := fun _ => False) (Upd.of_below κ' hd_) (fun h => h) (fun h => h))
    have n3_ := ak (HU3.1.below hd_)
    have n4_ := ak (And.intro (HKK.1.1.below hd_) (And.intro (HKK.1.2.1.below hd_) (And.intro (HKK.1.2.2.1.below hd_) (HKK.1.2.2.2.below hd_))))
    clear HM3 HAT3 HH3 HU3 HKK p5 s0 hd_
    have HM3 := n0_
    have HAT3 := n1_
    have HH3 := n2_
    have HU3 := n3_
    have HKK := n4_
    clear n0_ n1_ n2_ n3_ n4_
    have p5 := HKK.1.1.blk.at 5 (.pointer (some ⟨cb, 0, none⟩)) rfl
    have s0 := HKK.1.2.2.1.blk.at 0 (.pointer (some ⟨sb2, 0, none⟩)) rfl
    generalize w3.drew = wd at *
    refine pu_ 0 50 1 ?_
    refine pu_ 1 51 3 ?_
    refine pu_ 2 52 7 ?_
    refine pu_ 4 54 23 ?_
    refine pu_ 5 55 55 ?_
    refine pu_ 6 56 119 ?_
    refine pu_ 9 59 631 ?_
    refine ta_ 3 53 639 hHeld ?_
    refine ta_ 7 57 767 hHeld ?_
    refine one_ (i := 8) (N := some 58) (bz 11 1023) rfl rfl (by kernel_rfl) (by decide) (fun K hK => ?_)
    refine goes_ Tryz.func72 (by kernel_rfl) rfl #[.pointer (some ⟨sb2, 0, none⟩)] (by rfl) rfl rfl (by simp only [List.map_toArray, List.map_cons, List.map_nil]; rfl) ?_
    with_reducible refine (span_class sb2 hd.cls (tkI hd.tk (jj + 1)) _ HKK.1.2.2.2.blk).mono ?_
    rintro e_ w4 ⟨rfl, rfl⟩
    refine ⟨_, rfl, ?_⟩
    refine hK.out _ _ ⟨hHeld.1, hHeld.2⟩ (fun hHeld => ?_)
    clear hK K
    refine no_ 58 ?_
    refine last_ (i := 10) (N := some 60) (bz 11 2047) rfl rfl (by kernel_rfl) (by decide) (fun K hK => ?_)
    refine goes_ Tryz.func150 (by kernel_rfl) rfl #[.pointer (some ⟨cb, 0, none⟩), .int .i64 hd.cls, .int .i64 ((page : Int) * 64 + (z : Int))] (by rfl) rfl rfl (by simp only [List.map_toArray, List.map_cons, List.map_nil]; rfl) ?_
    with_reducible refine (cache_push κ' (150 + 6 * j + 1) cb hd.cls hcl (fiL c page hd.cls hd.tk jj) ((page : Int) * 64 + (z : Int)) HLEN.1 _ HKK.1.2.1).mono ?_
    rintro e_ w5 ⟨rfl, q1_⟩
    refine ⟨_, rfl, ?_⟩
    have HR := ak q1_
    clear q1_
    refine hK.out _ _ ?_
    clear hK K
    refine no_ 60 ?_
    refine done_ (by kernel_rfl) ?_
    go_wp2_with fail
    obtain ⟨κ2, g1, g2⟩ := HR.1
    have hU4 : Upd (fun z => 150 + 6 * j ≤ z ∧ z < 156 + 6 * j) κ' w4 κ2 w5 := g2.mono (fun c e => by omega)
    have g1' : CacheK κ2 (150 + 6 * j + 1) w5 cb (fiL c page hd.cls hd.tk (jj + 1)) := by
     rw [← fiL_succ c page hd.cls hd.tk jj (by omega), HAD.1, Int.natCast_add, Int.natCast_mul]
     exact g1
    have hj16 : j < 16 := Nat.lt_of_lt_of_le (List.getElem?_eq_some_iff.1 HX.1.2.1).1 (by have := HM3.1.hcp; rw [show (fiS s j c page hd jj).cpus.length = s.cpus.length from List.length_set] at this; exact this)
    have hm5 := HM3.1.putCpu (c' := { c with L := fiL c page hd.cls hd.tk (jj + 1) }) HX.1.1 (fiS_cpu s j c page hd jj HX.1.2.1) ⟨cb, HKK.1.1.upd g2 (by omega), g1'⟩ hU4
    refine ⟨⟨jj + 1, κ2, by simp, by omega, ?_, ?_, HAT3.1.upd hU4 (by omega), HH3.1.upd hU4 (by omega) (by omega), HU3.1.then hU4 (fun c e => by omega)⟩, by simp only [RowKit.intOf]; omega⟩
    ·rw [if_neg (by omega)]
    ·have := fiS_put s j c page hd jj
     rw [← this]
     exact hm5
  ·obtain rfl : jj = T := by omega
   by_cases hj4 : jj = 4
   ·subst hj4
    rw [if_neg (by omega)]
    have d0 : decide (((adI page hd.cls hd.tk 0 : Nat) : Int) < 0) = false := decide_eq_false (by omega)
    go_wp2_with fail
    go_ret2
    exact ⟨rfl, κ', HM.1, HU.1⟩
   ·have hfull := HTP.1 (by omega)
    have HTF := ak (span_took sb' hd.cls (tkI hd.tk jj) hcl (HTK.1 jj (Nat.le_refl _)) wr HK.1.2.blk hfull)
    rw [if_neg (by omega)]
    have jI : (jj : Int) < 4 := by omega
    have d0 : decide (((adI page hd.cls hd.tk 0 : Nat) : Int) < 0) = false := decide_eq_false (by omega)
    go_wp2_with (go_at_call 209; (with_reducible refine HTF.1.mono ?_); rintro e_ w3 ⟨rfl, hw3⟩; have hw3 := hw3.symm; subst hw3)
    go_ret2
    exact ⟨rfl, κ', HM.1, HU.1⟩
theorem fill_own (κ : Kol) (m : Nat) (a : Ad) (s : St) (j p : Nat) (c : Cpu) (q page : Nat) (hd : Held) (hcl : hd.cls < 4) (htk : ∀ i, i ≤ 4 → tkI hd.tk i < 256) (hfr : ∀ i, i < 4 → freeI (tkI hd.tk i) < clN hd.cls) (hp : a.cps[j]? = some p) (hc : s.cpus[j]? = some c) (hcL : (c.L hd.cls).length ≤ 4) (hpg : page < 4096) (hsp : s.sp page = some hd) (w : World) (hg : GlobK κ w) (h : MachK κ w m a s) (hat : SpAt κ w a.sb q page) (hh : HeldK κ w q page hd) :
 Calls Tryz.prog 170 #[.pointer (some ⟨m, 0, none⟩), .pointer (some ⟨p, 0, none⟩), .pointer (some ⟨q, 0, none⟩)] w fun e w' => e = .returned (.tuple #[.int .i64 (adI page hd.cls hd.tk 0), .int .i64 0]) ∧ ∃ κ', MachK κ' w' m a (fiS s j c page hd 4) ∧ Upd (fun z => 1 ≤ z) κ w κ' w' := by
 exact fill_gen κ m a s j p c q page hd hcl 4 (by decide) (by decide) htk hfr (fun e => absurd e (by decide)) hp hc hcL hpg hsp w hg h hat hh
end Go.Proofs.YtenkdmloolbdaaaGreatDoor.T
end
