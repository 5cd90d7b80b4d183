import Derived.Test.YtenkdmloolbdaaaGreatDoorE38
import Derived.Test.YtenkdmloolbdaaaGreatDoorE04
set_option linter.unusedVariables false
set_option linter.unusedSimpArgs false
set_option maxHeartbeats 8000000
set_option maxRecDepth 100000
section
namespace Go.Proofs.YtenkdmloolbdaaaGreatDoor.T
open Go.RowKit Go.Maps Go.WideShapes Go.Proofs.YtenkdmloolbdaaaGreatDoorW.PrintWords Go.Proofs.YtenkdmloolbdaaaGreatDoorW.PrintLast Go.Proofs.YtenkdmloolbdaaaGreatDoorW.PrintMore
structure GrowP (s : St) (a : Ad) (j p : Nat) (c : Cpu) (cls k st ow : Nat) (cur' : Int) (x : Bud) (K y : Nat) (r : List Nat) (page : Nat) (rs : List (Int × Int)) : Prop where
 h_cl : cls < 4
 h_set : c.set < 256
 h_p : a.cps[j]? = some p
 h_c : s.cpus[j]? = some c
 h_ch : TZ.chV s.n s.f s.cs s.ds c.mode c.set c.nd j c.cur (s.bs.map fun x => mayB s.mn x (clO cls)) = ((k : Int), (st : Int), cur', 0)
 h_x : s.bs[k]? = some x
 h_T : CanT s.f s.mn x (clO cls) K y r
 h_all : ∀ x ∈ s.bs, ∀ k, k < 11 → (x.fr k).length ≤ 1024
 h_mn : -100000 ≤ s.mn
 h_node : c.node = (ow : Int)
 h_ow : ow < s.n
 h_st : st < s.n
 h_k : k < s.n
 h_n8 : s.n ≤ 8
 h_f : s.f ≤ 1024
 h_ev : s.ev.length ≤ 1000000
 h_tk : TS.takeR ((2 ^ clO cls : Nat) : Int) s.rs = ((page : Int), 0, rs)
 h_pg : page + 2 ^ clO cls ≤ 4096
 h_pf : ∀ i, i < 2 ^ clO cls → s.pf ((page + i : Nat) : Int) = none
 h_pgf : ∀ i, i < 2 ^ clO cls → s.pg ((k * s.f + y + i : Nat) : Int) = none
 h_fr : k * s.f + y + 2 ^ clO cls ≤ s.n * s.f
 h_pn : s.pn ≤ 100000
 h_sn : s.sn ≤ 100000
 h_pol : TZ.polR c.mode c.set c.nd s.n = 0
 h_er : TZ.erN s.n s.f s.cs s.ds c.node = 0
 h_no : ∀ q, s.sp q = none
 h_L : c.L cls = []
 h_len : s.l.length = s.n * s.f * 64
def takS (s : St) (j : Nat) (c : Cpu) (cls k st ow : Nat) (cur' : Int) (x : Bud) (K y page : Nat) (rs : List (Int × Int)) : St :=
 fiS (growS (acqS s j c k st ow cur' x K y (clO cls) c.mode) page (k * s.f + y) k (clO cls) cls rs) j { c with cur := cur' } page ⟨k, clO cls, k * s.f + y, cls, 0⟩ 4
theorem fresh_tk : ∀ i, i ≤ 4 → tkI 0 i < 256 := by
 intro i hi
 match i, hi with
 | 0, _ => decide +kernel
 | 1, _ => decide +kernel
 | 2, _ => decide +kernel
 | 3, _ => decide +kernel
 | 4, _ => decide +kernel
theorem fresh_fr (cls : Nat) (hc : cls < 4) : ∀ i, i < 4 → freeI (tkI 0 i) < clN cls := by
 have h0 : ∀ c : Nat, c < 4 → ∀ i : Nat, i < 4 → freeI (tkI 0 i) < clN c := by decide +kernel
 exact h0 cls hc
theorem taken_own [SortI] (κ : Kol) (m : Nat) (a : Ad) (s : St) (j p : Nat) (c : Cpu) (cls k st ow : Nat) (cur' : Int) (x : Bud) (K y : Nat) (r : List Nat) (page : Nat) (rs : List (Int × Int)) (hP : GrowP s a j p c cls k st ow cur' x K y r page rs) (w : World) (hg : GlobK κ w) (h : MachK κ w m a s) :
 Calls Tryz.prog 117 #[.pointer (some ⟨m, 0, none⟩), .int .i64 j, .pointer (some ⟨p, 0, none⟩), .int .i64 cls] w fun e w' => e = .returned (.tuple #[.int .i64 (adI page cls 0 0), .int .i64 0]) ∧ ∃ κ', MachK κ' w' m a (takS s j c cls k st ow cur' x K y page rs) ∧ Upd (fun z => 1 ≤ z) κ w κ' w' := by
 have HNE := ak (nearest_none κ m a s j p c cls hP.h_p hP.h_c (by have := hP.h_k; omega) hP.h_n8 hP.h_pol hP.h_er hP.h_no w h)
 have HGR := ak (fun (W : World) (hG : GlobK κ W) (hW : MachK κ W m a s) => grow_own κ m a s j p c cls hP.h_cl hP.h_set hP.h_p hP.h_c k st ow cur' hP.h_ch x K y r hP.h_x hP.h_T hP.h_all hP.h_mn hP.h_node hP.h_ow hP.h_st hP.h_k hP.h_n8 hP.h_f hP.h_ev page rs hP.h_tk hP.h_pg hP.h_pf hP.h_pgf hP.h_fr hP.h_pn hP.h_sn W hG hW)
 obtain ⟨s1, hs1⟩ : ∃ s1, growS (acqS s j c k st ow cur' x K y (clO cls) c.mode) page (k * s.f + y) k (clO cls) cls rs = s1 := ⟨_, rfl⟩
 have hc1 : s1.cpus[j]? = some { c with cur := cur' } := by rw [← hs1]; show (s.cpus.set j _)[j]? = _; rw [List.getElem?_set, if_pos rfl, if_pos (List.getElem?_eq_some_iff.1 hP.h_c).1]
 have hp1 : s1.sp page = some ⟨k, clO cls, k * s.f + y, cls, 0⟩ := by rw [← hs1]; show setSp _ page _ page = _; unfold setSp; rw [if_pos rfl]
 have HFI := ak (fun (κ' : Kol) (W : World) (q : Nat) (hG : GlobK κ' W) (hW : MachK κ' W m a s1) hat hh => fill_own κ' m a s1 j p { c with cur := cur' } q page ⟨k, clO cls, k * s.f + y, cls, 0⟩ hP.h_cl (fun i hi => fresh_tk i hi) (fresh_fr cls hP.h_cl) hP.h_p hc1 (by show (c.L cls).length ≤ 4; rw [hP.h_L]; simp) (by have := hP.h_pg; have := Nat.one_le_two_pow (n := clO cls); omega) hp1 W hG hW hat hh)
 have HS := ak (show takS s j c cls k st ow cur' x K y page rs = fiS s1 j { c with cur := cur' } page ⟨k, clO cls, k * s.f + y, cls, 0⟩ 4 from by rw [← hs1]; rfl)
 rw [hs1] at HGR
 have HG := ak hg
 have HM := ak h
 clear hP hs1 hc1 hp1 hg h
 go_enter Tryz.func117, Tryz.ntmps117
 go_wp2_with (first | (go_at_call 168; (with_reducible refine HNE.1.mono ?_); rintro e_ w1 ⟨rfl, hb⟩; have HB := ak hb; have HG1 := ak (HG.1.upd (I := fun _ => False) (Upd.of_below κ hb) (fun h => h)); clear hb) | (go_at_call 169; (with_reducible refine (HGR.1 _ HG1.1 (HM.1.below HB.1)).mono ?_); rintro e_ w2 ⟨q, κ1, rfl, q1, q2, q3, q4⟩; have HQ := ak (And.intro q1 (And.intro q2 (And.intro q3 q4))); clear q1 q2 q3 q4) | (go_at_call 170; (with_reducible refine (HFI.1 _ _ q (HG1.1.upd HQ.1.2.2.2 (by omega)) HQ.1.1 HQ.1.2.1 HQ.1.2.2.1).mono ?_); rintro e_ w3 ⟨rfl, κ2, q1, q2⟩; have HR := ak (And.intro q1 q2); clear q1 q2))
 go_ret2
 refine ⟨rfl, κ2, by rw [HS.1]; exact HR.1.1, ((Upd.of_below (I := fun z => 1 ≤ z) κ HB.1).then HQ.1.2.2.2 (fun _ h => h)).then HR.1.2 (fun _ h => h)⟩
theorem ad_zero (page cls : Nat) : adI page cls 0 0 = page * 64 := by
 unfold adI
 rw [show freeI (tkI 0 0) = 0 by decide +kernel]
 omega
theorem GrowP.onPage {s : St} {a : Ad} {j p : Nat} {c : Cpu} {cls k st ow : Nat} {cur' : Int} {x : Bud} {K y : Nat} {r : List Nat} {page : Nat} {rs : List (Int × Int)} (h : GrowP s a j p c cls k st ow cur' x K y r page rs) (hz : clS cls ≤ 64) : OnPage (takS s j c cls k st ow cur' x K y page rs) (page * 64) (clS cls) (k * s.f + y) := by
 have h1 := Nat.one_le_two_pow (n := clO cls)
 have h2 := h.h_fr
 have h3 := h.h_pg
 have h4 : s.n * s.f ≤ 8 * 1024 := Nat.mul_le_mul h.h_n8 h.h_f
 refine ⟨?_, by show k * s.f + y < s.n * s.f; omega, by omega, by omega, by show s.n * s.f ≤ 100000; omega, h.h_len⟩
 show mapF s.pf page (k * s.f + y : Nat) (2 ^ clO cls) ((page * 64 / 64 : Nat) : Int) = _
 unfold mapF
 rw [Nat.mul_div_cancel _ (by decide), if_pos (by omega)]
 congr 1
 omega
theorem small_new [SortI] (κ : Kol) (m : Nat) (a : Ad) (s : St) (j p : Nat) (c : Cpu) (n : Nat) (h1 : 1 ≤ n) (h64 : n ≤ 64) (k st ow : Nat) (cur' : Int) (x : Bud) (K y : Nat) (r : List Nat) (page : Nat) (rs : List (Int × Int)) (hP : GrowP s a j p c (clOf n) k st ow cur' x K y r page rs) (w : World) (hg : GlobK κ w) (h : MachK κ w m a s) :
 Calls Tryz.prog 62 #[.pointer (some ⟨m, 0, none⟩), .int .i64 j, .pointer (some ⟨p, 0, none⟩), .int .i64 n] w fun e w' => e = .returned (.tuple #[.int .i64 ((page * 64 : Nat) : Int), .int .i64 0]) ∧ ∃ κ', MachK κ' w' m a { takS s j c (clOf n) k st ow cur' x K y page rs with l := spliceB s.l ((k * s.f + y) * 64 + page * 64 % 64) (List.replicate (clS (clOf n)) 0), pn := (takS s j c (clOf n) k st ow cur' x K y page rs).pn, pf := (takS s j c (clOf n) k st ow cur' x K y page rs).pf, pg := (takS s j c (clOf n) k st ow cur' x K y page rs).pg } ∧ Upd (fun z => 1 ≤ z) κ w κ' w' := by
 have hcl := hP.h_cl
 have HOF := ak (of_class n h1 h64 w hg.g)
 obtain ⟨cls, hk⟩ : ∃ k, clOf n = k := ⟨_, rfl⟩
 rw [hk] at HOF hcl hP ⊢
 have HSZ := ak (fun (W : World) (hW : GlobR W) => size_own cls hcl W hW)
 have HG := ak hg
 have HM := ak h
 have HTN := ak (fun (W : World) (hG : GlobK κ W) (hW : MachK κ W m a s) => taken_own κ m a s j p c cls k st ow cur' x K y r page rs hP W hG hW)
 have HPC := ak (And.intro hP.h_p (And.intro hP.h_c hP.h_L))
 have hs8 : 8 ≤ clS cls ∧ clS cls ≤ 64 := by match cls, hcl with | 0, _ => decide | 1, _ => decide | 2, _ => decide | 3, _ => decide
 have HO0 := ak (hP.onPage hs8.2)
 obtain ⟨fr, hfr⟩ : ∃ fr, k * s.f + y = fr := ⟨_, rfl⟩
 obtain ⟨s2, hs2⟩ : ∃ s2, takS s j c cls k st ow cur' x K y page rs = s2 := ⟨_, rfl⟩
 have HL2 := ak (show s2.l = s.l from by rw [← hs2]; rfl)
 rw [hs2] at HTN HO0 ⊢
 rw [hfr] at HO0 ⊢
 rw [ad_zero] at HTN
 obtain ⟨z, hz⟩ : ∃ z, clS cls = z := ⟨_, rfl⟩
 rw [hz] at HSZ hs8 HO0 ⊢
 obtain ⟨x0, hx0⟩ : ∃ x0, page * 64 = x0 := ⟨_, rfl⟩
 rw [hx0] at HTN HO0 ⊢
 have HO2 := HO0
 clear hg h hP hk hz h1 h64 hs2 hfr hx0 HO0
 go_enter Tryz.func62, Tryz.ntmps62
 go_upto_region 4 with (go_at_call 115; (with_reducible refine HOF.1.mono ?_); rintro e_ w1 ⟨rfl, hb⟩; have HB1 := ak hb; clear hb)
 have hm1 := HM.1.below HB1.1
 obtain ⟨cb, k1, k2⟩ := hm1.cpuK HPC.1.1 HPC.1.2.1
 have p5 := k1.blk.at 5 (.pointer (some ⟨cb, 0, none⟩)) rfl
 have HPO := ak (cache_empty κ (150 + 6 * j + 1) cb cls hcl c.L HPC.1.2.2 w1 k2)
 have HM1 := ak hm1
 have HG1 := ak (HG.1.upd (I := fun _ => False) (Upd.of_below κ HB1.1) (fun h => h))
 clear hm1 k1 k2 HG HM
 go_upto_region 7 with (first | (go_at_call 116; (with_reducible refine HPO.1.mono ?_); rintro e_ w2 ⟨rfl, rfl⟩) | (go_at_call 117; (with_reducible refine (HTN.1 _ HG1.1 HM1.1).mono ?_); rintro e_ w3 ⟨rfl, κ2, q1, q2⟩; have HM2 := ak q1; have HG2 := ak (HG1.1.upd q2 (by omega)); have HU2 := ak ((Upd.of_below (I := fun z => 1 ≤ z) κ HB1.1).then q2 (fun c e => e)); clear q1 q2))
 go_upto_region 15 with (go_at_call 119; (with_reducible refine (HSZ.1 _ HG2.1.g).mono ?_); rintro e_ w4 ⟨rfl, hb⟩; have HM3 := ak (HM2.1.below hb); have HU3 := ak (HU2.1.below hb); clear hb)
 clear p5 HM1 HG1 HM2 HU2 HB1
 have c4 := HM3.1.c4
 have hmk := make_bytes z (by omega)
 refine st_ 11 (fun w' => w'.cell? ⟨m, 4, none⟩ = some (.pointer (some ⟨a.mem, 0, none⟩))) [8] (c4) (fun hHeld => ?_)
 have hd_ := below_drew (RowKit.Below.refl w4.heap.size w4)
 have n0_ := ak (HM3.1.below hd_)
 have n1_ := ak (HU3.1.below hd_)
 clear HM3 HU3 c4 hd_
 have HM3 := n0_
 have HU3 := n1_
 clear n0_ n1_
 have c4 := HM3.1.c4
 generalize w4.drew = wd at *
 refine pu_ 0 66 1 ?_
 refine pu_ 1 67 3 ?_
 refine pu_ 2 68 7 ?_
 refine pu_ 3 69 15 ?_
 refine pu_ 5 71 47 ?_
 refine pu_ 6 72 111 ?_
 refine ta_ 4 70 127 hHeld ?_
 refine one_ (i := 7) (N := some 73) (bz 11 255) rfl rfl (by kernel_rfl) (by decide) (fun K hK => ?_)
 refine va_ ?_
 have hUm : Upd (fun _ => False) κ2 wd (κ2.ext wd.heap.size 0) (wd.alloc (.cells (bv (List.replicate z 0)) 5)) := (Upd.of_below κ2 (below_alloc (RowKit.Below.refl _ _) _)).paint _ _ (Nat.le_refl _)
 have HMM := ak (HM3.1.upd hUm (fun _ _ h => h))
 have HUM := ak (HU3.1.then hUm (fun _ h => h.elim))
 have HBM := ak (BlkK.new κ2 wd 0 (bv (List.replicate z 0)) 5)
 refine hK.out _ _ (HMM.1.c4) (fun hHeld => ?_)
 clear hK K
 refine no_ 73 ?_
 refine last_ (i := 8) (N := some 74) (bz 11 511) rfl rfl (by kernel_rfl) (by decide) (fun K hK => ?_)
 have HWR := ak (by have h_ := mem_write1 (κ2.ext wd.heap.size 0) 3 a.mem s2.f (s2.n * s2.f) s2.pn s2.l (List.replicate z 0) s2.pf s2.pg x0 fr z (some ⟨wd.heap.size, 0, none⟩) HO2.1.N (by simp) (by simp only [List.length_replicate]; exact HO2.1.max) (by simp only [List.length_replicate]; omega) (by simp only [List.length_replicate]; exact HO2.1.fit) HO2.1.f HO2.1.lt _ HMM.1.mem (RdS.blk HBM.1 (by omega) (by simp only [List.length_replicate]; omega)); rw [List.length_replicate] at h_; exact h_)
 refine goes_ Tryz.func66 (by kernel_rfl) rfl #[.pointer (some ⟨a.mem, 0, none⟩), .int .i64 x0, .slice (some ⟨wd.heap.size, 0, none⟩) z z] (by rfl) rfl rfl (by simp only [List.map_toArray, List.map_cons, List.map_nil]; rfl) ?_
 with_reducible refine (HWR.1).mono ?_
 rintro e_ w5 ⟨rfl, q1_⟩
 refine ⟨_, rfl, ?_⟩
 have HR := ak q1_
 clear q1_
 refine hK.out _ _ ?_
 clear hK K
 refine no_ 74 ?_
 refine pu_ 9 8 1023 ?_
 refine pu_ 10 9 2047 ?_
 refine done_ (by kernel_rfl) ?_
 go_wp2_with fail
 go_ret2
 obtain ⟨κ3, g1, g2⟩ := HR.1
 have hm5 := HMM.1.putMem _ _ _ _ g1 (g2.mono (fun c e => by omega))
 rw [HL2.1] at hm5
 exact ⟨rfl, κ3, hm5, HUM.1.then g2 (fun c e => by omega)⟩
def liveS (s : St) (x : Int) (n : Int) : St := { s with ln := s.ln + 1, live := putF s.live x n }
theorem malloc_small (κ : Kol) (m : Nat) (a : Ad) (s s1 : St) (j p n x : Nat) (h1 : 1 ≤ n) (h64 : n ≤ 64) (hx : x ≤ 1000000) (hp : a.cps[j]? = some p) (hln : s1.ln < 1000000) (w : World) (hg : GlobK κ w) (h : MachK κ w m a s)
 (hsm : Calls Tryz.prog 62 #[.pointer (some ⟨m, 0, none⟩), .int .i64 j, .pointer (some ⟨p, 0, none⟩), .int .i64 n] w fun e w' => e = .returned (.tuple #[.int .i64 x, .int .i64 0]) ∧ ∃ κ', MachK κ' w' m a s1 ∧ Upd (fun z => 1 ≤ z) κ w κ' w') :
 Calls Tryz.prog 21 #[.pointer (some ⟨m, 0, none⟩), .int .i64 j, .int .i64 n] w fun e w' => e = .returned (.tuple #[.int .i64 x, .int .i64 0]) ∧ ∃ κ', MachK κ' w' m a (liveS s1 x n) ∧ Upd (fun z => 1 ≤ z) κ w κ' w' := by
 have HC := ak (cpu_own κ m a s j p hp w h)
 have HS := ak hsm
 have HLN := ak hln
 have n1 : (1 : Int) ≤ (n : Int) := by omega
 have n2 : (n : Int) ≤ 64 := by omega
 have d0 : decide ((n : Int) < 1) = false := decide_eq_false (by omega)
 have d1 : decide (1024 < (n : Int)) = false := decide_eq_false (by omega)
 have HI := ak (And.intro (i64o (x : Int) (by omega) (by omega)) (i64o (n : Int) (by omega) (by omega)))
 clear h hg hsm hln hp
 go_enter Tryz.func21, Tryz.ntmps21
 go_upto_region 12 with (first | (go_at_call 61; (with_reducible refine HC.1.mono ?_); rintro e_ w1 ⟨rfl, rfl⟩) | (go_at_call 62; (with_reducible refine HS.1.mono ?_); rintro e_ w2 ⟨rfl, κ1, q1, q2⟩; have HM := ak q1; have HU := ak q2; clear q1 q2))
 have c12 := HM.1.c12
 obtain ⟨hk, D, hown, hv⟩ := HM.1.live
 have HO := ak hown
 have HV := ak (And.intro hk hv)
 clear hk hown hv
 go_wp2_with (at_mapUpdate; refine wpList_mapUpdate_own _ rfl _ _ _ 127 rfl 3 3 int_law Tryz.underlying127 (plainElem Tryz.prog 3) a.lb s1.ln D rfl HO.1 (by have := HLN.1; simp only [maxLen]; omega) _ (.int .i64 (n : Int)) (.int .i64 (x : Int)) rfl rfl (keyOf_int_mk Tryz.underlying3 HI.1.1) (.lit (.int .i64 (n : Int))) [] (plainElem_int Tryz.underlying3 HI.1.2) ?_; intro w9 hown1 hg1; have HW := ak (And.intro hown1 hg1); clear hown1 hg1)
 go_ret2
 have hU9 := Upd.of_grown HW.1.2 HV.1.1
 exact ⟨rfl, κ1, HM.1.putLive _ _ ⟨HV.1.1, _, HW.1.1, HV.1.2.put (HO.1.tidy int_law).isMap _ _⟩ hU9, HU.1.then hU9 (fun c e => by omega)⟩
theorem touch_ok (κ : Kol) (m : Nat) (a : Ad) (s : St) (j p q : Nat) (f : Int) (hq : q ≤ 1000000) (hf : s.pf (q : Int) = some f) (w : World) (h : MachK κ w m a s) :
 Calls Tryz.prog 121 #[.pointer (some ⟨m, 0, none⟩), .int .i64 j, .pointer (some ⟨p, 0, none⟩), .int .i64 q] w fun e w' => e = .returned (.int .i64 0) ∧ w' = w := by
 have HF := ak (mem_frame κ 3 a.mem s.f (s.n * s.f) s.pn s.l s.pf s.pg (q : Int) (i64o _ (by omega) (by omega)) w h.mem)
 rw [hf] at HF
 have c4 := h.c4
 clear h hf
 go_enter Tryz.func121, Tryz.ntmps121
 go_wp2_with (go_at_call 77; (with_reducible refine HF.1.mono ?_); rintro e_ w1 ⟨rfl, rfl⟩)
 go_ret
 exact ⟨rfl, rfl⟩
def RelRc (w : World) (q0 q1 : Nat) (v14 : Value) (wr : World) : Prop := wr = w ∧ ∃ q : Nat, v14 = .int .i64 q ∧ q0 ≤ q ∧ q ≤ q1 + 1
theorem reach_ok (κ : Kol) (m : Nat) (a : Ad) (s : St) (j p x o n sz : Nat) (hp : a.cps[j]? = some p) (hx : x + o + n ≤ 262144) (hlv : s.live (x : Int) = some ((sz : Nat) : Int)) (hn : 1 ≤ n) (hfit : o + n ≤ sz) (hsz : sz ≤ 1000000) (hf : ∀ q, (x + o) / 64 ≤ q → q ≤ (x + o + n - 1) / 64 → ∃ f, s.pf (q : Int) = some f) (w : World) (h : MachK κ w m a s) :
 Calls Tryz.prog 65 #[.pointer (some ⟨m, 0, none⟩), .int .i64 j, .int .i64 x, .int .i64 o, .int .i64 n] w fun e w' => e = .returned (.int .i64 0) ∧ w' = w := by
 have HC := ak (cpu_own κ m a s j p hp w h)
 have HO := ak (object_own κ m a s (x : Int) (i64o _ (by omega) (by omega)) w h)
 rw [hlv] at HO
 have HM := ak h
 have HF := ak hf
 have b0 : decide ((o : Int) < 0) = false := decide_eq_false (by omega)
 have b1 : decide ((n : Int) < 0) = false := decide_eq_false (by omega)
 have b2 : decide (sz < o) = false := decide_eq_false (by omega)
 have b2' : decide ((sz : Int) < (o : Int)) = false := decide_eq_false (by omega)
 have b3 : decide ((sz : Int) - (o : Int) < (n : Int)) = false := decide_eq_false (by omega)
 have b4 : ((n : Int) == 0) = false := beq_eq_false_iff_ne.mpr (by omega)
 have b5 : (n == 0) = false := beq_eq_false_iff_ne.mpr (by omega)
 obtain ⟨q0, hq0⟩ : ∃ q, (x + o) / 64 = q := ⟨_, rfl⟩
 obtain ⟨q1, hq1⟩ : ∃ q, (x + o + n - 1) / 64 = q := ⟨_, rfl⟩
 have hq01 : q0 ≤ q1 := by omega
 have hq1m : q1 ≤ 5000 := by omega
 rw [hq0, hq1] at HF
 have g0 : ((x : Int) + (o : Int)) / 64 = (q0 : Int) := by omega
 have g1 : ((x : Int) + (o : Int) + (n : Int) - 1) / 64 = (q1 : Int) := by omega
 have HG := ak (And.intro g0 g1)
 have G1 := ak (show (0 : Int) ≤ (x : Int) + (o : Int) ∧ (x : Int) + (o : Int) ≤ 1000000 by omega)
 have G2 := ak (show (0 : Int) ≤ (x : Int) + (o : Int) + (n : Int) ∧ (x : Int) + (o : Int) + (n : Int) ≤ 1000000 by omega)
 have G3 := ak (show (0 : Int) ≤ (x : Int) + (o : Int) + (n : Int) - 1 ∧ (x : Int) + (o : Int) + (n : Int) - 1 ≤ 1000000 by omega)
 clear h hp hlv hf hq0 hq1 g0 g1
 go_enter Tryz.func65, Tryz.ntmps65
 go_upto_region 11 with (first | (go_at_call 61; (with_reducible refine HC.1.mono ?_); rintro e_ w1 ⟨rfl, rfl⟩) | (go_at_call 64; (with_reducible refine HO.1.mono ?_); rintro e_ w2 ⟨rfl, rfl⟩))
 have e1 := w64 _ G1.out
 have hp0 : (0 : Int) ≤ (x : Int) + (o : Int) := G1.out.1
 have g0 := HG.1.1
 have g0' : Int.tdiv ((x : Int) + (o : Int)) 64 = (q0 : Int) := by rw [Int.tdiv_eq_ediv_of_nonneg G1.out.1]; exact HG.1.1
 go_wp2_with fail
 clear e1 hp0 g0 g0'
 have H0 := ak (show RelRc w2 q0 q1 (.int .i64 q0) w2 from ⟨rfl, q0, rfl, Nat.le_refl _, by omega⟩)
 go_loopw [14, 15] (fun v14 _ wr => RelRc w2 q0 q1 v14 wr) (fun v14 _ _ => q1 + 1 - (RowKit.intOf v14).toNat)
 case atStart => exact H0.1
 case round =>
  clear H0
  obtain ⟨rfl, q, rfl, hqa, hqb⟩ := hrel
  by_cases hlt : q ≤ q1
  ·obtain ⟨fr, hfr⟩ := HF.1 q hqa hlt
   have HT := ak (touch_ok κ m a s j p q fr (by omega) hfr wr HM.1)
   have hq1 : (0 : Int) ≤ (q : Int) + 1 ∧ (q : Int) + 1 ≤ 1000000 := by omega
   have hle : (q : Int) ≤ (q1 : Int) := by omega
   have FF := ak (show (q0 ≤ q + 1 ∧ q + 1 ≤ q1 + 1) ∧ q1 + 1 - ((q : Int) + 1).toNat < q1 + 1 - ((q : Nat) : Int).toNat by omega)
   have e1 := w64 _ G1.out
   have e2 := w64 _ G2.out
   have e3 := w64 _ G3.out
   have hp0 : (0 : Int) ≤ (x : Int) + (o : Int) + (n : Int) - 1 := G3.out.1
   have g0 := HG.1.2
   have g0' : Int.tdiv ((x : Int) + (o : Int) + (n : Int) - 1) 64 = (q1 : Int) := by rw [Int.tdiv_eq_ediv_of_nonneg G3.out.1]; exact HG.1.2
   clear hfr
   go_upto_region 14 with fail
   clear e1 e2 e3 hp0 g0 g0'
   go_wp2_with (go_at_call 121; (with_reducible refine HT.1.mono ?_); rintro e_ w5 ⟨rfl, rfl⟩)
   exact ⟨⟨rfl, q + 1, by rw [Int.natCast_add]; rfl, FF.out.1.1, FF.out.1.2⟩, FF.out.2⟩
  ·have hle : ¬ ((q : Int) ≤ (q1 : Int)) := by omega
   have e1 := w64 _ G1.out
   have e2 := w64 _ G2.out
   have e3 := w64 _ G3.out
   have hp0 : (0 : Int) ≤ (x : Int) + (o : Int) + (n : Int) - 1 := G3.out.1
   have g0 := HG.1.2
   have g0' : Int.tdiv ((x : Int) + (o : Int) + (n : Int) - 1) 64 = (q1 : Int) := by rw [Int.tdiv_eq_ediv_of_nonneg G3.out.1]; exact HG.1.2
   go_wp2_with fail
   go_ret
   exact ⟨rfl, rfl⟩
theorem reach_zero (κ : Kol) (m : Nat) (a : Ad) (s : St) (j p x o sz : Nat) (hp : a.cps[j]? = some p) (hx : x ≤ 1000000) (hlv : s.live (x : Int) = some ((sz : Nat) : Int)) (hfit : o ≤ sz) (hsz : sz ≤ 1000000) (w : World) (h : MachK κ w m a s) :
 Calls Tryz.prog 65 #[.pointer (some ⟨m, 0, none⟩), .int .i64 j, .int .i64 x, .int .i64 o, .int .i64 0] w fun e w' => e = .returned (.int .i64 0) ∧ w' = w := by
 have HC := ak (cpu_own κ m a s j p hp w h)
 have HO := ak (object_own κ m a s (x : Int) (i64o _ (by omega) (by omega)) w h)
 rw [hlv] at HO
 have b0 : decide ((o : Int) < 0) = false := decide_eq_false (by omega)
 have b2 : decide (sz < o) = false := decide_eq_false (by omega)
 have b2' : decide ((sz : Int) < (o : Int)) = false := decide_eq_false (by omega)
 have b3 : decide ((sz : Int) - (o : Int) < 0) = false := decide_eq_false (by omega)
 clear h hp hlv
 go_enter Tryz.func65, Tryz.ntmps65
 go_wp2_with (first | (go_at_call 61; (with_reducible refine HC.1.mono ?_); rintro e_ w1 ⟨rfl, rfl⟩) | (go_at_call 64; (with_reducible refine HO.1.mono ?_); rintro e_ w2 ⟨rfl, rfl⟩))
 go_ret
 exact ⟨rfl, rfl⟩
structure Lives (s : St) (x o n sz fr : Nat) : Prop where
 live : s.live (x : Int) = some ((sz : Nat) : Int)
 hsz : sz ≤ 1000000
 fit : o + n ≤ sz
 on : OnPage s (x + o) n fr
theorem write_own (κ : Kol) (m : Nat) (a : Ad) (s : St) (j p x o sz fr cb : Nat) (bs : List Nat) (B : Option Addr) (hp : a.cps[j]? = some p) (hn : 1 ≤ bs.length) (hcb : bs.length ≤ cb) (hl : Lives s x o bs.length sz fr) (w : World) (h : MachK κ w m a s) (hb : RdS (· = 4) κ w B bs) :
 Calls Tryz.prog 23 #[.pointer (some ⟨m, 0, none⟩), .int .i64 j, .int .i64 x, .int .i64 o, .slice B bs.length cb] w fun e w' => e = .returned (.int .i64 0) ∧ ∃ κ', MachK κ' w' m a { s with l := spliceB s.l (fr * 64 + (x + o) % 64) bs, pn := s.pn, pf := s.pf, pg := s.pg } ∧ Upd (· = 4) κ w κ' w' := by
 have hon := hl.on
 have HR := ak (reach_ok κ m a s j p x o bs.length sz hp (by have := hon.max; omega) hl.live hn hl.fit hl.hsz (fun q h1 h2 => by
  have := hon.fit
  obtain rfl : q = (x + o) / 64 := by omega
  exact ⟨_, hon.f⟩) w h)
 have HW := ak (mem_write1 κ 3 a.mem s.f (s.n * s.f) s.pn s.l bs s.pf s.pg (x + o) fr cb B hon.N hcb hon.max hn hon.fit hon.f hon.lt w h.mem hb)
 have HM := ak h
 have c4 := h.c4
 obtain ⟨n, hnn⟩ : ∃ n, bs.length = n := ⟨_, rfl⟩
 rw [hnn] at HR HW ⊢
 have g : (0 : Int) ≤ (x : Int) + (o : Int) ∧ (x : Int) + (o : Int) ≤ 1000000 := by have := hon.max; omega
 have e1 := w64 _ g
 rw [Int.natCast_add] at HW
 clear h hb hl hon hp g hnn hcb
 go_enter Tryz.func23, Tryz.ntmps23
 go_wp2_with (first | (go_at_call 65; (with_reducible refine HR.1.mono ?_); rintro e_ w1 ⟨rfl, rfl⟩) | (go_at_call 66; (with_reducible refine HW.1.mono ?_); rintro e_ w2 ⟨rfl, κ1, q1, q2⟩; have HQ := ak (And.intro q1 q2); clear q1 q2))
 go_ret
 clear e1
 exact ⟨rfl, κ1, HM.1.putMem _ _ _ _ HQ.1.1 (HQ.1.2.mono (fun c e => by omega)), HQ.1.2⟩
theorem write_zero (κ : Kol) (m : Nat) (a : Ad) (s : St) (j p x o sz cb : Nat) (B : Option Addr) (hp : a.cps[j]? = some p) (hx : x + o ≤ 262144) (hlv : s.live (x : Int) = some ((sz : Nat) : Int)) (hfit : o ≤ sz) (hsz : sz ≤ 1000000) (hN : s.n * s.f ≤ 100000) (w : World) (h : MachK κ w m a s) :
 Calls Tryz.prog 23 #[.pointer (some ⟨m, 0, none⟩), .int .i64 j, .int .i64 x, .int .i64 o, .slice B 0 cb] w fun e w' => e = .returned (.int .i64 0) ∧ ∃ κ', MachK κ' w' m a s ∧ Upd (· = 4) κ w κ' w' := by
 have HR := ak (reach_zero κ m a s j p x o sz hp (by omega) hlv hfit hsz w h)
 have HW := ak (mem_write0 κ 3 a.mem s.f (s.n * s.f) s.pn s.l s.pf s.pg (x + o) cb B hN hx w h.mem)
 have HM := ak h
 have c4 := h.c4
 have g : (0 : Int) ≤ (x : Int) + (o : Int) ∧ (x : Int) + (o : Int) ≤ 1000000 := by omega
 have e1 := w64 _ g
 rw [Int.natCast_add] at HW
 clear h hp g hlv
 go_enter Tryz.func23, Tryz.ntmps23
 go_wp2_with (first | (go_at_call 65; (with_reducible refine HR.1.mono ?_); rintro e_ w1 ⟨rfl, rfl⟩) | (go_at_call 66; (with_reducible refine HW.1.mono ?_); rintro e_ w2 ⟨rfl, κ1, q1, q2⟩; have HQ := ak (And.intro q1 q2); clear q1 q2))
 go_ret
 clear e1
 exact ⟨rfl, κ1, HM.1.putMem _ _ _ _ HQ.1.1 (HQ.1.2.mono (fun c e => by omega)), HQ.1.2⟩
theorem read_own (κ : Kol) (m : Nat) (a : Ad) (s : St) (j p x o n sz fr : Nat) (hp : a.cps[j]? = some p) (hn : 1 ≤ n) (hl : Lives s x o n sz fr) (w : World) (h : MachK κ w m a s) :
 Calls Tryz.prog 24 #[.pointer (some ⟨m, 0, none⟩), .int .i64 j, .int .i64 x, .int .i64 o, .int .i64 n] w fun e w' => ∃ A cp, e = .returned (.tuple #[.slice A n cp, .int .i64 0]) ∧ RdB w' A n ((s.l.drop (fr * 64 + (x + o) % 64)).take n) ∧ RowKit.Below w.heap.size w w' := by
 have hon := hl.on
 have HR := ak (reach_ok κ m a s j p x o n sz hp (by have := hon.max; omega) hl.live hn hl.fit hl.hsz (fun q h1 h2 => by
  have := hon.fit
  obtain rfl : q = (x + o) / 64 := by omega
  exact ⟨_, hon.f⟩) w h)
 have hll : fr * 64 + (x + o) % 64 + n ≤ s.l.length := by
  rw [hon.len]
  have h1 := hon.fit
  have h2 : (fr + 1) * 64 ≤ s.n * s.f * 64 := Nat.mul_le_mul_right _ hon.lt
  omega
 have HW := ak (mem_read1 κ 3 a.mem s.f (s.n * s.f) s.pn n s.l s.pf s.pg (x + o) fr hon.N hon.max hn hon.fit hon.f hon.lt hll w h.mem)
 have c4 := h.c4
 obtain ⟨bs, hbs⟩ : ∃ bs, (s.l.drop (fr * 64 + (x + o) % 64)).take n = bs := ⟨_, rfl⟩
 rw [hbs] at HW ⊢
 have g : (0 : Int) ≤ (x : Int) + (o : Int) ∧ (x : Int) + (o : Int) ≤ 1000000 := by have := hon.max; omega
 have e1 := w64 _ g
 rw [Int.natCast_add] at HW
 clear h hl hon hp g hll hbs
 go_enter Tryz.func24, Tryz.ntmps24
 go_wp2_with (first | (go_at_call 65; (with_reducible refine HR.1.mono ?_); rintro e_ w1 ⟨rfl, rfl⟩) | (go_at_call 67; (with_reducible refine HW.1.mono ?_); rintro e_ w2 ⟨A1, c1, rfl, q1, q2⟩; have HQ := ak (And.intro q1 q2); clear q1 q2))
 go_ret2
 exact ⟨A1, c1, rfl, HQ.1.1, HQ.1.2⟩
theorem keep_own (κ : Kol) (m : Nat) (a : Ad) (s : St) (j p : Nat) (c : Cpu) (cls : Nat) (x : Int) (hcl : cls < 4) (hp : a.cps[j]? = some p) (hc : s.cpus[j]? = some c) (hL : (c.L cls).length < 8) (w : World) (h : MachK κ w m a s) :
 Calls Tryz.prog 96 #[.pointer (some ⟨m, 0, none⟩), .pointer (some ⟨p, 0, none⟩), .int .i64 cls, .int .i64 x] w fun e w' => e = .returned (.tuple #[]) ∧ ∃ κ', MachK κ' w' m a { s with cpus := s.cpus.set j { c with L := setL c.L cls (c.L cls ++ [x]) } } ∧ Upd (fun z => 150 + 6 * j ≤ z ∧ z < 156 + 6 * j) κ w κ' w' := by
 obtain ⟨cb, k1, k2⟩ := h.cpuK hp hc
 have p5 := k1.blk.at 5 (.pointer (some ⟨cb, 0, none⟩)) rfl
 have HPU := ak (cache_push κ (150 + 6 * j + 1) cb cls hcl c.L x hL w k2)
 have HM := ak h
 have HK := ak k1
 have HX := ak (And.intro hp hc)
 clear h k1 k2 hp hc hL
 go_enter Tryz.func96, Tryz.ntmps96
 go_wp2_with (go_at_call 150; (with_reducible refine HPU.1.mono ?_); rintro e_ w1 ⟨rfl, q1⟩; have HQ := ak q1; clear q1)
 refine bodyPost_ret (results_none rfl _ _ _) rfl ?_
 obtain ⟨κ1, g1, g2⟩ := HQ.1
 have hU : Upd (fun z => 150 + 6 * j ≤ z ∧ z < 156 + 6 * j) κ w κ1 w1 := g2.mono (fun c e => by omega)
 exact ⟨rfl, κ1, HM.1.putCpu (c' := { c with L := setL c.L cls (c.L cls ++ [x]) }) HX.1.1 HX.1.2 ⟨cb, HK.1.upd g2 (by omega), g1⟩ hU, hU⟩
theorem free_bad (κ : Kol) (m : Nat) (a : Ad) (s : St) (j p : Nat) (x : Int) (hx : I64 x) (hp : a.cps[j]? = some p) (hlv : s.live x = none) (w : World) (h : MachK κ w m a s) :
 Calls Tryz.prog 43 #[.pointer (some ⟨m, 0, none⟩), .int .i64 j, .int .i64 x] w fun e w' => e = .returned (.int .i64 6) ∧ w' = w := by
 have HC := ak (cpu_own κ m a s j p hp w h)
 have HO := ak (object_own κ m a s x hx w h)
 rw [hlv] at HO
 clear h hp hlv
 go_enter Tryz.func43, Tryz.ntmps43
 go_wp2_with (first | (go_at_call 61; (with_reducible refine HC.1.mono ?_); rintro e_ w1 ⟨rfl, rfl⟩) | (go_at_call 64; (with_reducible refine HO.1.mono ?_); rintro e_ w2 ⟨rfl, rfl⟩))
 go_ret
 exact ⟨rfl, rfl⟩
def freeS_ (s : St) (j : Nat) (c : Cpu) (cls : Nat) (x : Int) : St :=
 { ({ s with ln := s.ln, live := outF s.live x } : St) with cpus := s.cpus.set j { c with L := setL c.L cls (c.L cls ++ [x]) } }
theorem free_own (κ : Kol) (m : Nat) (a : Ad) (s : St) (j p : Nat) (c : Cpu) (x sz page : Nat) (y : Int) (hd : Held) (hx : x ≤ 1000000) (hp : a.cps[j]? = some p) (hc : s.cpus[j]? = some c) (hlv : s.live (x : Int) = some ((sz : Nat) : Int)) (hpg : page < 4096) (hof : TS.ofR s.rs ((x / 64 : Nat) : Int) = ((page : Int), y, true)) (hsp : s.sp page = some hd) (hnode : c.node = (hd.node : Int)) (hcl : hd.cls < 4) (hL : (c.L hd.cls).length < 8) (w : World) (h : MachK κ w m a s) :
 Calls Tryz.prog 43 #[.pointer (some ⟨m, 0, none⟩), .int .i64 j, .int .i64 x] w fun e w' => e = .returned (.int .i64 0) ∧ ∃ κ', MachK κ' w' m a (freeS_ s j c hd.cls x) ∧ Upd (fun z => 1 ≤ z) κ w κ' w' := by
 have HC := ak (cpu_own κ m a s j p hp w h)
 have HI := ak (i64o (x : Int) (by omega) (by omega))
 have HO := ak (object_own κ m a s (x : Int) HI.1 w h)
 rw [hlv] at HO
 have HM := ak h
 have c12 := h.c12
 obtain ⟨hk, D, hown, hv⟩ := h.live
 have HOW := ak hown
 have HV := ak (And.intro hk hv)
 obtain ⟨s1, hs1⟩ : ∃ s1, ({ s with ln := s.ln, live := outF s.live x } : St) = s1 := ⟨_, rfl⟩
 have HS1 := ak hs1
 have hr1 : s1.rs = s.rs := by rw [← hs1]
 have hp1 : s1.sp = s.sp := by rw [← hs1]
 have hc1 : s1.cpus = s.cpus := by rw [← hs1]
 have HSO := ak (fun (W : World) (hW : MachK κ W m a s1) => span_of κ m a s1 x page y hx hpg (by rw [hr1]; exact hof) W hW hd (by rw [hp1]; exact hsp))
 have HKE := ak (fun (W : World) (hW : MachK κ W m a s1) => keep_own κ m a s1 j p c hd.cls (x : Int) hcl hp (by rw [hc1]; exact hc) hL W hW)
 have HCK := ak (fun (W : World) (hW : MachK κ W m a s1) => hW.cpuK hp (show s1.cpus[j]? = some c from by rw [hc1]; exact hc))
 have hbe : ((hd.node : Int) == c.node) = true := by rw [hnode]; simp
 have HJ := ak (And.intro hc1 (show j < 16 from Nat.lt_of_lt_of_le (List.getElem?_eq_some_iff.1 hc).1 h.hcp))
 clear h hk hown hv hs1 hr1 hp1 hc1 hp hc hlv hof hsp hnode hL
 go_enter Tryz.func43, Tryz.ntmps43
 go_upto_region 8 with (first | (go_at_call 61; (with_reducible refine HC.1.mono ?_); rintro e_ w1 ⟨rfl, rfl⟩) | (go_at_call 64; (with_reducible refine HO.1.mono ?_); rintro e_ w2 ⟨rfl, rfl⟩) | (at_delete; refine wpList_delete_own _ rfl _ _ 127 3 rfl 3 int_law Tryz.underlying127 _ a.lb s.ln D rfl HOW.1 _ _ rfl (keyOf_int_mk Tryz.underlying3 HI.1) ?_; intro w3 hown1 hturn1; have HW := ak (And.intro hown1 hturn1); clear hown1 hturn1))
 have hU3 := Upd.of_turned HW.1.2 HV.1.1
 have hm3 := HM.1.putLive s.ln (outF s.live x) ⟨HV.1.1, _, HW.1.1, HV.1.2.del (x : Int)⟩ hU3
 rw [HS1.1] at hm3
 have HM3 := ak hm3
 have HU3 := ak hU3
 clear hU3 hm3 c12 HM HOW HV HW
 go_upto_region 11 with (go_at_call 91; (with_reducible refine (HSO.1 _ HM3.1).mono ?_); rintro e_ w4 ⟨q, rfl, q1, q2⟩; have HH := ak q1; have HM4 := ak (HM3.1.below q2); have HU4 := ak (HU3.1.below q2); clear q1 q2)
 obtain ⟨sb, g1, g2⟩ := HH.1
 have h2 := g1.blk.at 2 (.int .i64 (hd.node : Int)) rfl
 have k0 := (HCK.1 _ HM4.1).k0
 have HG := ak (And.intro g1 g2)
 clear g1 g2
 refine st_ 10 (fun w' => w'.cell? ⟨q, 2, none⟩ = some (.int .i64 (hd.node : Int)) ∧ w'.cell? ⟨p, 0, none⟩ = some (.int .i64 c.node)) [] ⟨h2, k0⟩ (fun hHeld => ?_)
 have hd_ := below_drew (RowKit.Below.refl w4.heap.size w4)
 have n0_ := ak (HM4.1.below hd_)
 have n1_ := ak (HU4.1.below hd_)
 have n2_ := ak (And.intro (HG.1.1.below hd_) (HG.1.2.below hd_))
 clear HM4 HU4 HG h2 k0 hd_
 have HM4 := n0_
 have HU4 := n1_
 have HG := n2_
 clear n0_ n1_ n2_
 have h2 := HG.1.1.blk.at 2 (.int .i64 (hd.node : Int)) rfl
 have k0 := (HCK.1 _ HM4.1).k0
 generalize w4.drew = wd at *
 refine pu_ 0 45 1 ?_
 refine pu_ 1 46 3 ?_
 refine pu_ 2 47 7 ?_
 refine pu_ 4 49 23 ?_
 refine pu_ 5 50 55 ?_
 refine pu_ 6 51 119 ?_
 refine ta_ 3 48 127 hHeld ?_
 refine ta_ 7 52 255 hHeld ?_
 refine pu_ 8 53 511 ?_
 refine pu_ 9 44 1023 ?_
 refine done_ (by kernel_rfl) ?_
 have s0 := HG.1.1.blk.at 0 (.pointer (some ⟨sb, 0, none⟩)) rfl
 have HCL := ak (span_class sb hd.cls hd.tk _ HG.1.2.blk)
 clear h2 k0 HM3 HU3
 go_wp2_with (first | (go_at_call 72; (with_reducible refine HCL.1.mono ?_); rintro e_ w5 ⟨rfl, rfl⟩) | (go_at_call 96; (with_reducible refine (HKE.1 _ HM4.1).mono ?_); rintro e_ w6 ⟨rfl, κ1, q1, q2⟩; have HQ := ak (And.intro q1 q2); clear q1 q2))
 go_ret
 have hf := HQ.1.1
 rw [HJ.1.1] at hf
 refine ⟨rfl, κ1, ?_, (HU4.1.mono (J := fun z => 1 ≤ z) (fun c e => by omega)).then HQ.1.2 (fun c e => by omega)⟩
 unfold freeS_
 rw [HS1.1]
 exact hf
end Go.Proofs.YtenkdmloolbdaaaGreatDoor.T
end
