import Derived.Test.YtenkdmloolbdaaaGreatDoorE16
import Derived.Test.YtenkdmloolbdaaaGreatDoorE04
import Derived.Test.YtenkdmloolbdaaaGreatDoorE23
import Derived.Maps.RangeWalk
set_option linter.unusedVariables false
set_option linter.unusedSimpArgs false
set_option maxHeartbeats 8000000
set_option maxRecDepth 100000
section
namespace Go.Proofs.YtenkdmloolbdaaaGreatDoor.T
open Go.RowKit Go.Maps Go.WideShapes Go.Proofs.YtenkdmloolbdaaaGreatDoorW.PrintWords Go.Proofs.YtenkdmloolbdaaaGreatDoorW.PrintLast Go.Proofs.YtenkdmloolbdaaaGreatDoorW.PrintMore
theorem CpuK.cursor {κ : Kol} {i : Nat} {w : World} {b : Nat} {c : Cpu} (h : CpuK κ i w b c) (v : Int) : CpuK κ i (w.setCell ⟨b, 4, none⟩ (.int .i64 v)) b { c with cur := v } := by
 obtain ⟨cb, h1, h2⟩ := h
 exact ⟨cb, h1.set 4 _, h2.upd (I := (· = i)) ((Upd.refl _ _ _).set ⟨b, 4, none⟩ (fun _ => h1.kol) _) (fun c hc => by omega)⟩
theorem CpuK.kol {κ : Kol} {i : Nat} {w : World} {b : Nat} {c : Cpu} (h : CpuK κ i w b c) : κ b = i := by obtain ⟨cb, h1, _⟩ := h; exact h1.kol
structure CanT (f : Nat) (mn : Int) (x : Bud) (o K y : Nat) (r : List Nat) : Prop where
 ok : BudOK f x.fr
 c : x.c < 1000000
 le : o ≤ K
 lt : K < 11
 hd : x.fr K = y :: r
 min : ∀ q, o ≤ q → q < K → x.fr q = []
 may : mayB mn x o = true
def acqS (s : St) (j : Nat) (c : Cpu) (k st ow : Nat) (cur' : Int) (x : Bud) (K y o : Nat) (po : Int) : St :=
 { s with bs := s.bs.set k ⟨x.c + 1, frAt x.fr K y o, putF x.tk y o⟩, ev := s.ev ++ [⟨k, st, ow, po == 2⟩], cn := addC s.cn ⟨k, st, ow, po == 2⟩, cpus := s.cpus.set j { c with cur := cur' } }
theorem acquire_gen [SortI] (κ : Kol) (m : Nat) (a : Ad) (s : St) (j p : Nat) (c : Cpu) (o : Nat) (ho : o < 11) (po : Int) (ps : Nat) (pn : Int) (hs8 : ps < 256) (hp : a.cps[j]? = some p) (hc : s.cpus[j]? = some c) (k st ow : Nat) (cur' er : Int)
 (hch : TZ.chV s.n s.f s.cs s.ds po ps pn j c.cur (s.bs.map fun x => mayB s.mn x o) = ((k : Int), (st : Int), cur', er)) (x : Bud) (K y : Nat) (r : List Nat) (hT : er = 0 → s.bs[k]? = some x ∧ CanT s.f s.mn x o K y r ∧ k < s.n)
 (hall : ∀ x ∈ s.bs, ∀ k, k < 11 → (x.fr k).length ≤ 1024) (hmn : -100000 ≤ s.mn) (hnode : c.node = (ow : Int)) (how : ow < s.n) (hst : er = 0 → st < s.n) (hn8 : s.n ≤ 8) (hev : s.ev.length ≤ 1000000) (w : World) (h : MachK κ w m a s) :
 Calls Tryz.prog 173 #[.pointer (some ⟨m, 0, none⟩), .int .i64 j, .pointer (some ⟨p, 0, none⟩), .agg #[.int .i64 po, .int .u8 ps, .int .i64 pn], .int .i64 o] w fun e w' => (er = 0 → e = .returned (.tuple #[.int .i64 ((k * s.f + y : Nat) : Int), .int .i64 k, .int .i64 0]) ∧ ∃ κ', MachK κ' w' m a (acqS s j c k st ow cur' x K y o po) ∧ Upd (fun z => 8 ≤ z ∧ z < 250) κ w κ' w') ∧ (er ≠ 0 → e = .returned (.tuple #[.int .i64 0, .int .i64 0, .int .i64 er]) ∧ ∃ κ', MachK κ' w' m a { s with cpus := s.cpus.set j { c with cur := cur' } } ∧ Upd (fun z => 8 ≤ z ∧ z < 250) κ w κ' w') := by
 obtain ⟨κ1, hκ1⟩ : ∃ κ1, κ.ext w.heap.size 0 = κ1 := ⟨_, rfl⟩
 obtain ⟨wb, hwb⟩ : ∃ wb, w.alloc (.cells #[.int .i64 po, .int .u8 ps, .int .i64 pn] 40) = wb := ⟨_, rfl⟩
 have hU0 : Upd (fun _ => False) κ w κ1 wb := by rw [← hwb, ← hκ1]; exact (Upd.of_below κ (below_alloc (RowKit.Below.refl _ _) _)).paint _ _ (Nat.le_refl _)
 have HKN := ak (show ∀ b, w.heap.size ≤ b → κ1 b = 0 from fun b hb => by rw [← hκ1]; exact Kol.ext_new κ hb)
 have HU := ak (show Upd (fun z => 8 ≤ z ∧ z < 250) κ w κ1 wb from hU0.mono (fun _ h => h.elim))
 have HM := ak (h.upd hU0 (fun _ _ h => h))
 have HP := ak (show Blk wb w.heap.size #[.int .i64 po, .int .u8 ps, .int .i64 pn] 40 from by rw [← hwb]; exact Blk.new _ _ _)
 have HPP := ak hp
 have HCC := ak hc
 have HC := ak (show ∀ W, MachK κ1 W m a s → CpuK κ1 (150 + 6 * j) W p c from fun W hW => hW.cpuK hp hc)
 have HTX := ak hT
 have hj16 : j < 16 := Nat.lt_of_lt_of_le (List.getElem?_eq_some_iff.1 hc).1 h.hcp
 have HBL := ak h.hbs
 have HJ0 := ak (And.intro how (And.intro hst (And.intro hn8 hev)))
 obtain ⟨may, hmay⟩ : ∃ may, (s.bs.map fun x => mayB s.mn x o) = may := ⟨_, rfl⟩
 have hml : may.length = s.bs.length := by rw [← hmay, List.length_map]
 have HAL := ak (show ∀ W, MachK κ1 W m a s → Calls Tryz.prog 48 #[.pointer (some ⟨a.hp, 0, none⟩), .int .i64 o] W (fun e w' => ∃ A c, e = .returned (.slice A may.length c) ∧ may.length ≤ c ∧ Kd.bool.C w' A may.length may ∧ RowKit.Below W.heap.size W w') from fun W hW => by
  have := heap_all κ1 16 a.hp s.f s.mn s.lo s.hi s.bs o ho (by have := hW.hbs; omega) hall hmn W hW.hp
  rw [hmay, ← hml] at this
  exact this)
 have HND := ak (show ∀ W, MachK κ1 W m a s → ∀ (M : Option Addr) (cm : Nat), Kd.bool.C W M may.length may → Calls Tryz.prog 52 #[.agg #[.int .i64 s.n, .int .i64 s.f, .slice a.A s.cs.length a.ca, .slice a.B s.ds.length a.cb], .agg #[.int .i64 po, .int .u8 ps, .int .i64 pn], .int .i64 j, .int .i64 c.cur, .slice M may.length cm] W (fun e w' => e = .returned (.tuple #[.agg #[.int .i64 k, .int .i64 st, .int .i64 cur'], .int .i64 er]) ∧ RowKit.Below W.heap.size W w') from fun W hW M cm hM => by
  obtain ⟨A1, c1, e1, l1, r1⟩ := hW.cs.reads
  injection e1 with e1 _ e2
  obtain ⟨A2, c2, e3, l2, r2⟩ := hW.ds.reads
  injection e3 with e3 _ e4
  subst e1; subst e2; subst e3; subst e4
  have := TZ.node_own s.n s.f a.A a.ca s.cs a.B a.cb s.ds po ps hs8 pn j c.cur M cm may W r1 l1 r2 l2 hM
  rw [hmay] at hch
  rw [hch] at this
  exact this)
 clear h hU0 hch hmay hc hp how hst hn8 hev hall hT
 go_enter Tryz.func173, Tryz.ntmps173
 go_upto_region 1 with fail
 clear hwb hκ1
 have c0 := HM.1.c0
 have c1 := HM.1.c1
 have c2 := HM.1.c2
 have c3 := HM.1.c3
 have c5 := HM.1.c5
 have k4 := (HC.1 _ HM.1).k4
 have q0 := HP.1.at 0 (.int .i64 po) rfl
 have q1 := HP.1.at 1 (.int .u8 ps) rfl
 have q2 := HP.1.at 2 (.int .i64 pn) rfl
 refine st_ 23 (fun w' => w'.cell? ⟨m, 0, none⟩ = some (.int .i64 s.n) ∧ w'.cell? ⟨m, 1, none⟩ = some (.int .i64 s.f) ∧ w'.cell? ⟨m, 2, none⟩ = some (.slice a.A s.cs.length a.ca) ∧ w'.cell? ⟨m, 3, none⟩ = some (.slice a.B s.ds.length a.cb) ∧ w'.cell? ⟨m, 5, none⟩ = some (.pointer (some ⟨a.hp, 0, none⟩)) ∧ w'.cell? ⟨p, 4, none⟩ = some (.int .i64 c.cur) ∧ w'.cell? ⟨w.heap.size, 0, none⟩ = some (.int .i64 po) ∧ w'.cell? ⟨w.heap.size, 1, none⟩ = some (.int .u8 ps) ∧ w'.cell? ⟨w.heap.size, 2, none⟩ = some (.int .i64 pn)) [21] ⟨c0, c1, c2, c3, c5, k4, q0, q1, q2⟩ (fun hHeld => ?_)
 have hd_ := below_drew (RowKit.Below.refl wb.heap.size wb)
 have HUd := ak (HU.1.below hd_)
 clear HU
 have n0_ := ak (HM.1.below hd_)
 have n1_ := ak (HP.1.below hd_)
 clear HM HP c0 c1 c2 c3 c5 k4 q0 q1 q2 hd_
 have HM := n0_
 have HP := n1_
 clear n0_ n1_
 have c0 := HM.1.c0
 have c1 := HM.1.c1
 have c2 := HM.1.c2
 have c3 := HM.1.c3
 have c5 := HM.1.c5
 have k4 := (HC.1 _ HM.1).k4
 have q0 := HP.1.at 0 (.int .i64 po) rfl
 have q1 := HP.1.at 1 (.int .u8 ps) rfl
 have q2 := HP.1.at 2 (.int .i64 pn) rfl
 generalize wb.drew = wd at *
 have HU := HUd
 clear HUd
 have HD := ak (RowKit.Below.refl wd.heap.size wd)
 have HP0 := ak HP.1
 refine pu_ 0 17 1 ?_
 refine pu_ 1 18 3 ?_
 refine pu_ 2 19 7 ?_
 refine pu_ 5 22 39 ?_
 refine pu_ 6 23 103 ?_
 refine pu_ 7 24 231 ?_
 refine pu_ 8 25 487 ?_
 refine pu_ 10 27 1511 ?_
 refine pu_ 11 28 3559 ?_
 refine pu_ 12 29 7655 ?_
 refine pu_ 14 31 24039 ?_
 refine ta_ 3 20 24047 hHeld ?_
 refine ta_ 4 21 24063 hHeld ?_
 refine ta_ 9 26 24575 hHeld ?_
 refine ta_ 13 30 32767 hHeld ?_
 refine join_ (σ := Nat × Option Addr × Nat) 2 (bz 23 2097151) (fun sg_ => [(32, .slice sg_.2.1 may.length sg_.2.2), (33, .tuple #[.agg #[.int .i64 k, .int .i64 st, .int .i64 cur'], .int .i64 er]), (13, .pointer (some ⟨sg_.1, 0, none⟩)), (16, .tuple #[.agg #[.int .i64 k, .int .i64 st, .int .i64 cur'], .int .i64 er]), (34, .agg #[.int .i64 k, .int .i64 st, .int .i64 cur']), (35, .int .i64 er)]) (fun sg_ w_ => Blk w_ sg_.1 #[.int .i64 0, .int .i64 0, .int .i64 0] 103 ∧ wd.heap.size ≤ sg_.1 ∧ RowKit.Below wd.heap.size wd w_) ?_ ?_
 rotate_left
 ·intro hCont
  refine two_ (i := 15) (j := 20) (Ni := some 32) (Nj := some 13) (bz 23 65535) (bz 23 1081343) rfl rfl rfl rfl (by kernel_rfl) (by decide) (by decide) (fun K hK => ?_) (fun K hK => ?_)
  ·skip
   refine goes_ Tryz.func48 (by kernel_rfl) rfl #[.pointer (some ⟨a.hp, 0, none⟩), .int .i64 o] (by rfl) rfl rfl (by simp only [List.map_toArray, List.map_cons, List.map_nil]; rfl) ?_
   with_reducible refine (HAL.1 _ HM.1).mono ?_
   rintro e_ wa ⟨A7, c7, rfl, hle, hC, hb⟩
   refine ⟨_, rfl, ?_⟩
   have HMY := ak hC
   clear hle hC
   have n0_ := ak (HM.1.below hb)
   have n1_ := ak (HP.1.below hb)
   have n2_ := ak (below_then HD.1 HD.1.size hb)
   clear HM HP HD c0 c1 c2 c3 c5 k4 q0 q1 q2 hb
   have HM := n0_
   have HP := n1_
   have HD := n2_
   clear n0_ n1_ n2_
   have c0 := HM.1.c0
   have c1 := HM.1.c1
   have c2 := HM.1.c2
   have c3 := HM.1.c3
   have c5 := HM.1.c5
   have k4 := (HC.1 _ HM.1).k4
   have q0 := HP.1.at 0 (.int .i64 po) rfl
   have q1 := HP.1.at 1 (.int .u8 ps) rfl
   have q2 := HP.1.at 2 (.int .i64 pn) rfl
   refine hK.out _ _ ⟨HM.1.c0, HM.1.c1, HM.1.c2, HM.1.c3, HM.1.c5, (HC.1 _ HM.1).k4, HP.1.at 0 (.int .i64 po) rfl, HP.1.at 1 (.int .u8 ps) rfl, HP.1.at 2 (.int .i64 pn) rfl⟩ (fun hHeld => ?_)
   clear hK K
   refine no_ 32 ?_
   refine two_ (i := 16) (j := 20) (Ni := some 33) (Nj := some 13) (bz 23 131071) (bz 23 1114111) rfl rfl rfl rfl (by kernel_rfl) (by decide) (by decide) (fun K hK => ?_) (fun K hK => ?_)
   ·skip
    refine goes_ Tryz.func52 (by kernel_rfl) rfl #[.agg #[.int .i64 s.n, .int .i64 s.f, .slice a.A s.cs.length a.ca, .slice a.B s.ds.length a.cb], .agg #[.int .i64 po, .int .u8 ps, .int .i64 pn], .int .i64 j, .int .i64 c.cur, .slice A7 may.length c7] (by rfl) rfl rfl (by simp only [List.map_toArray, List.map_cons, List.map_nil]; rfl) ?_
    with_reducible refine (HND.1 _ HM.1 A7 c7 HMY.1).mono ?_
    rintro e_ wc ⟨rfl, hb⟩
    refine ⟨_, rfl, ?_⟩
    have n0_ := ak (HM.1.below hb)
    have n1_ := ak (HP.1.below hb)
    have n2_ := ak (below_then HD.1 HD.1.size hb)
    have n3_ := ak (Kd.C_below HMY.1 hb)
    clear HM HP HD HMY c0 c1 c2 c3 c5 k4 q0 q1 q2 hb
    have HM := n0_
    have HP := n1_
    have HD := n2_
    have HMY := n3_
    clear n0_ n1_ n2_ n3_
    have c0 := HM.1.c0
    have c1 := HM.1.c1
    have c2 := HM.1.c2
    have c3 := HM.1.c3
    have c5 := HM.1.c5
    have k4 := (HC.1 _ HM.1).k4
    have q0 := HP.1.at 0 (.int .i64 po) rfl
    have q1 := HP.1.at 1 (.int .u8 ps) rfl
    have q2 := HP.1.at 2 (.int .i64 pn) rfl
    refine hK.out _ _ ⟨HM.1.c0, HM.1.c1, HM.1.c2, HM.1.c3, HM.1.c5, (HC.1 _ HM.1).k4, HP.1.at 0 (.int .i64 po) rfl, HP.1.at 1 (.int .u8 ps) rfl, HP.1.at 2 (.int .i64 pn) rfl⟩ (fun hHeld => ?_)
    clear hK K
    refine no_ 33 ?_
    refine pu_ 17 16 262143 ?_
    refine pu_ 18 34 524287 ?_
    refine pu_ 19 35 1048575 ?_
    refine one_ (i := 20) (N := some 13) (bz 23 2097151) rfl rfl (by kernel_rfl) (by decide) (fun K hK => ?_)
    refine va_ ?_
    have hb := below_alloc (RowKit.Below.refl wc.heap.size wc) (.cells #[.int .i64 0, .int .i64 0, .int .i64 0] 103)
    have HT := ak (Blk.new wc #[.int .i64 0, .int .i64 0, .int .i64 0] 103)
    have HSZ := ak HD.1.size
    have n0_ := ak (HM.1.below hb)
    have n1_ := ak (HP.1.below hb)
    have n2_ := ak (below_then HD.1 HD.1.size hb)
    have n3_ := ak (Kd.C_below HMY.1 hb)
    clear HM HP HD HMY c0 c1 c2 c3 c5 k4 q0 q1 q2 hb
    have HM := n0_
    have HP := n1_
    have HD := n2_
    have HMY := n3_
    clear n0_ n1_ n2_ n3_
    have c0 := HM.1.c0
    have c1 := HM.1.c1
    have c2 := HM.1.c2
    have c3 := HM.1.c3
    have c5 := HM.1.c5
    have k4 := (HC.1 _ HM.1).k4
    have q0 := HP.1.at 0 (.int .i64 po) rfl
    have q1 := HP.1.at 1 (.int .u8 ps) rfl
    have q2 := HP.1.at 2 (.int .i64 pn) rfl
    refine hK.out _ _ ⟨HM.1.c0, HM.1.c1, HM.1.c2, HM.1.c3, HM.1.c5, (HC.1 _ HM.1).k4, HP.1.at 0 (.int .i64 po) rfl, HP.1.at 1 (.int .u8 ps) rfl, HP.1.at 2 (.int .i64 pn) rfl⟩ (fun hHeld => ?_)
    clear hK K
    refine no_ 13 ?_
    exact norm_ (by simp only [putAll, Act.put, List.setIfInBounds_toArray, List.set_cons_zero, List.set_cons_succ]) (hCont (wc.heap.size, A7, c7) _ ⟨HT.1, HSZ.1, HD.1⟩)
   ·skip
    refine va_ ?_
    have hb := below_alloc (RowKit.Below.refl wa.heap.size wa) (.cells #[.int .i64 0, .int .i64 0, .int .i64 0] 103)
    have HT := ak (Blk.new wa #[.int .i64 0, .int .i64 0, .int .i64 0] 103)
    have HSZ := ak HD.1.size
    have n0_ := ak (HM.1.below hb)
    have n1_ := ak (HP.1.below hb)
    have n2_ := ak (below_then HD.1 HD.1.size hb)
    have n3_ := ak (Kd.C_below HMY.1 hb)
    clear HM HP HD HMY c0 c1 c2 c3 c5 k4 q0 q1 q2 hb
    have HM := n0_
    have HP := n1_
    have HD := n2_
    have HMY := n3_
    clear n0_ n1_ n2_ n3_
    have c0 := HM.1.c0
    have c1 := HM.1.c1
    have c2 := HM.1.c2
    have c3 := HM.1.c3
    have c5 := HM.1.c5
    have k4 := (HC.1 _ HM.1).k4
    have q0 := HP.1.at 0 (.int .i64 po) rfl
    have q1 := HP.1.at 1 (.int .u8 ps) rfl
    have q2 := HP.1.at 2 (.int .i64 pn) rfl
    refine hK.out _ _ ⟨HM.1.c0, HM.1.c1, HM.1.c2, HM.1.c3, HM.1.c5, (HC.1 _ HM.1).k4, HP.1.at 0 (.int .i64 po) rfl, HP.1.at 1 (.int .u8 ps) rfl, HP.1.at 2 (.int .i64 pn) rfl⟩ (fun hHeld => ?_)
    clear hK K
    refine no_ 13 ?_
    refine one_ (i := 16) (N := some 33) (bz 23 1179647) rfl rfl (by kernel_rfl) (by decide) (fun K hK => ?_)
    refine goes_ Tryz.func52 (by kernel_rfl) rfl #[.agg #[.int .i64 s.n, .int .i64 s.f, .slice a.A s.cs.length a.ca, .slice a.B s.ds.length a.cb], .agg #[.int .i64 po, .int .u8 ps, .int .i64 pn], .int .i64 j, .int .i64 c.cur, .slice A7 may.length c7] (by rfl) rfl rfl (by simp only [List.map_toArray, List.map_cons, List.map_nil]; rfl) ?_
    with_reducible refine (HND.1 _ HM.1 A7 c7 HMY.1).mono ?_
    rintro e_ wc ⟨rfl, hb⟩
    refine ⟨_, rfl, ?_⟩
    have n0_ := ak (HM.1.below hb)
    have n1_ := ak (HP.1.below hb)
    have n2_ := ak (below_then HD.1 HD.1.size hb)
    have n3_ := ak (HT.1.below hb)
    have n4_ := ak (Kd.C_below HMY.1 hb)
    clear HM HP HD HT HMY c0 c1 c2 c3 c5 k4 q0 q1 q2 hb
    have HM := n0_
    have HP := n1_
    have HD := n2_
    have HT := n3_
    have HMY := n4_
    clear n0_ n1_ n2_ n3_ n4_
    have c0 := HM.1.c0
    have c1 := HM.1.c1
    have c2 := HM.1.c2
    have c3 := HM.1.c3
    have c5 := HM.1.c5
    have k4 := (HC.1 _ HM.1).k4
    have q0 := HP.1.at 0 (.int .i64 po) rfl
    have q1 := HP.1.at 1 (.int .u8 ps) rfl
    have q2 := HP.1.at 2 (.int .i64 pn) rfl
    refine hK.out _ _ ⟨HM.1.c0, HM.1.c1, HM.1.c2, HM.1.c3, HM.1.c5, (HC.1 _ HM.1).k4, HP.1.at 0 (.int .i64 po) rfl, HP.1.at 1 (.int .u8 ps) rfl, HP.1.at 2 (.int .i64 pn) rfl⟩ (fun hHeld => ?_)
    clear hK K
    refine no_ 33 ?_
    refine pu_ 17 16 1310719 ?_
    refine pu_ 18 34 1572863 ?_
    refine pu_ 19 35 2097151 ?_
    exact norm_ (by simp only [putAll, Act.put, List.setIfInBounds_toArray, List.set_cons_zero, List.set_cons_succ]) (hCont (wa.heap.size, A7, c7) _ ⟨HT.1, HSZ.1, HD.1⟩)
  ·skip
   refine va_ ?_
   have hb := below_alloc (RowKit.Below.refl wd.heap.size wd) (.cells #[.int .i64 0, .int .i64 0, .int .i64 0] 103)
   have HT := ak (Blk.new wd #[.int .i64 0, .int .i64 0, .int .i64 0] 103)
   have HSZ := ak HD.1.size
   have n0_ := ak (HM.1.below hb)
   have n1_ := ak (HP.1.below hb)
   have n2_ := ak (below_then HD.1 HD.1.size hb)
   clear HM HP HD c0 c1 c2 c3 c5 k4 q0 q1 q2 hb
   have HM := n0_
   have HP := n1_
   have HD := n2_
   clear n0_ n1_ n2_
   have c0 := HM.1.c0
   have c1 := HM.1.c1
   have c2 := HM.1.c2
   have c3 := HM.1.c3
   have c5 := HM.1.c5
   have k4 := (HC.1 _ HM.1).k4
   have q0 := HP.1.at 0 (.int .i64 po) rfl
   have q1 := HP.1.at 1 (.int .u8 ps) rfl
   have q2 := HP.1.at 2 (.int .i64 pn) rfl
   refine hK.out _ _ ⟨HM.1.c0, HM.1.c1, HM.1.c2, HM.1.c3, HM.1.c5, (HC.1 _ HM.1).k4, HP.1.at 0 (.int .i64 po) rfl, HP.1.at 1 (.int .u8 ps) rfl, HP.1.at 2 (.int .i64 pn) rfl⟩ (fun hHeld => ?_)
   clear hK K
   refine no_ 13 ?_
   refine one_ (i := 15) (N := some 32) (bz 23 1114111) rfl rfl (by kernel_rfl) (by decide) (fun K hK => ?_)
   refine goes_ Tryz.func48 (by kernel_rfl) rfl #[.pointer (some ⟨a.hp, 0, none⟩), .int .i64 o] (by rfl) rfl rfl (by simp only [List.map_toArray, List.map_cons, List.map_nil]; rfl) ?_
   with_reducible refine (HAL.1 _ HM.1).mono ?_
   rintro e_ wa ⟨A7, c7, rfl, hle, hC, hb⟩
   refine ⟨_, rfl, ?_⟩
   have HMY := ak hC
   clear hle hC
   have n0_ := ak (HM.1.below hb)
   have n1_ := ak (HP.1.below hb)
   have n2_ := ak (below_then HD.1 HD.1.size hb)
   have n3_ := ak (HT.1.below hb)
   clear HM HP HD HT c0 c1 c2 c3 c5 k4 q0 q1 q2 hb
   have HM := n0_
   have HP := n1_
   have HD := n2_
   have HT := n3_
   clear n0_ n1_ n2_ n3_
   have c0 := HM.1.c0
   have c1 := HM.1.c1
   have c2 := HM.1.c2
   have c3 := HM.1.c3
   have c5 := HM.1.c5
   have k4 := (HC.1 _ HM.1).k4
   have q0 := HP.1.at 0 (.int .i64 po) rfl
   have q1 := HP.1.at 1 (.int .u8 ps) rfl
   have q2 := HP.1.at 2 (.int .i64 pn) rfl
   refine hK.out _ _ ⟨HM.1.c0, HM.1.c1, HM.1.c2, HM.1.c3, HM.1.c5, (HC.1 _ HM.1).k4, HP.1.at 0 (.int .i64 po) rfl, HP.1.at 1 (.int .u8 ps) rfl, HP.1.at 2 (.int .i64 pn) rfl⟩ (fun hHeld => ?_)
   clear hK K
   refine no_ 32 ?_
   refine one_ (i := 16) (N := some 33) (bz 23 1179647) rfl rfl (by kernel_rfl) (by decide) (fun K hK => ?_)
   refine goes_ Tryz.func52 (by kernel_rfl) rfl #[.agg #[.int .i64 s.n, .int .i64 s.f, .slice a.A s.cs.length a.ca, .slice a.B s.ds.length a.cb], .agg #[.int .i64 po, .int .u8 ps, .int .i64 pn], .int .i64 j, .int .i64 c.cur, .slice A7 may.length c7] (by rfl) rfl rfl (by simp only [List.map_toArray, List.map_cons, List.map_nil]; rfl) ?_
   with_reducible refine (HND.1 _ HM.1 A7 c7 HMY.1).mono ?_
   rintro e_ wc ⟨rfl, hb⟩
   refine ⟨_, rfl, ?_⟩
   have n0_ := ak (HM.1.below hb)
   have n1_ := ak (HP.1.below hb)
   have n2_ := ak (below_then HD.1 HD.1.size hb)
   have n3_ := ak (HT.1.below hb)
   have n4_ := ak (Kd.C_below HMY.1 hb)
   clear HM HP HD HT HMY c0 c1 c2 c3 c5 k4 q0 q1 q2 hb
   have HM := n0_
   have HP := n1_
   have HD := n2_
   have HT := n3_
   have HMY := n4_
   clear n0_ n1_ n2_ n3_ n4_
   have c0 := HM.1.c0
   have c1 := HM.1.c1
   have c2 := HM.1.c2
   have c3 := HM.1.c3
   have c5 := HM.1.c5
   have k4 := (HC.1 _ HM.1).k4
   have q0 := HP.1.at 0 (.int .i64 po) rfl
   have q1 := HP.1.at 1 (.int .u8 ps) rfl
   have q2 := HP.1.at 2 (.int .i64 pn) rfl
   refine hK.out _ _ ⟨HM.1.c0, HM.1.c1, HM.1.c2, HM.1.c3, HM.1.c5, (HC.1 _ HM.1).k4, HP.1.at 0 (.int .i64 po) rfl, HP.1.at 1 (.int .u8 ps) rfl, HP.1.at 2 (.int .i64 pn) rfl⟩ (fun hHeld => ?_)
   clear hK K
   refine no_ 33 ?_
   refine pu_ 17 16 1310719 ?_
   refine pu_ 18 34 1572863 ?_
   refine pu_ 19 35 2097151 ?_
   exact norm_ (by simp only [putAll, Act.put, List.setIfInBounds_toArray, List.set_cons_zero, List.set_cons_succ]) (hCont (wd.heap.size, A7, c7) _ ⟨HT.1, HSZ.1, HD.1⟩)
 rintro ⟨tb, A7, c7⟩ wj ⟨hT, hS, hD⟩
 have HT := ak hT
 have HSB := ak hS
 have hE := hD
 have n0_ := ak (HM.1.below hD)
 have n1_ := ak (HP.1.below hD)
 clear HM HP c0 c1 c2 c3 c5 k4 q0 q1 q2 hD
 have HM := n0_
 have HP := n1_
 clear n0_ n1_
 have c0 := HM.1.c0
 have c1 := HM.1.c1
 have c2 := HM.1.c2
 have c3 := HM.1.c3
 have c5 := HM.1.c5
 have k4 := (HC.1 _ HM.1).k4
 have q0 := HP.1.at 0 (.int .i64 po) rfl
 have q1 := HP.1.at 1 (.int .u8 ps) rfl
 have q2 := HP.1.at 2 (.int .i64 pn) rfl
 have t0 := HT.1.at 0 (.int .i64 0) rfl
 have t1 := HT.1.at 1 (.int .i64 0) rfl
 have t2 := HT.1.at 2 (.int .i64 0) rfl
 have g0 := HT.1.fz 0
 have g1 := HT.1.fz 1
 have g2 := HT.1.fz 2
 have hHeld : wj.cell? ⟨m, 0, none⟩ = some (.int .i64 s.n) ∧ wj.cell? ⟨m, 1, none⟩ = some (.int .i64 s.f) ∧ wj.cell? ⟨m, 2, none⟩ = some (.slice a.A s.cs.length a.ca) ∧ wj.cell? ⟨m, 3, none⟩ = some (.slice a.B s.ds.length a.cb) ∧ wj.cell? ⟨m, 5, none⟩ = some (.pointer (some ⟨a.hp, 0, none⟩)) ∧ wj.cell? ⟨p, 4, none⟩ = some (.int .i64 c.cur) ∧ wj.cell? ⟨w.heap.size, 0, none⟩ = some (.int .i64 po) ∧ wj.cell? ⟨w.heap.size, 1, none⟩ = some (.int .u8 ps) ∧ wj.cell? ⟨w.heap.size, 2, none⟩ = some (.int .i64 pn) := ⟨HM.1.c0, HM.1.c1, HM.1.c2, HM.1.c3, HM.1.c5, (HC.1 _ HM.1).k4, HP.1.at 0 (.int .i64 po) rfl, HP.1.at 1 (.int .u8 ps) rfl, HP.1.at 2 (.int .i64 pn) rfl⟩
 refine norm_ (a' := ?_) ?_ ?_
 rotate_left
 ·simp only [putAll, Act.put, List.setIfInBounds_toArray, List.set_cons_zero, List.set_cons_succ]
  rfl
 refine last_ (i := 21) (N := none) (bz 23 4194303) rfl rfl (by kernel_rfl) (by decide) (fun K hK => ?_)
 refine skip_ (w1 := ?_) (by rfl) rfl ?_ ?_
 rotate_left
 ·go_simp
  rfl
 refine hK.out _ _ ?_
 clear hK K
 refine pu_ 22 14 8388607 ?_
 refine done_ (by kernel_rfl) ?_
 have HTB := ak (show κ1 tb = 0 from HKN.1 tb (Nat.le_trans HU.1.chg.size hS))
 have hch3 : Chg (· = tb) wj (((wj.setCell ⟨tb, 0, none⟩ (.int .i64 (k : Int))).setCell ⟨tb, 1, none⟩ (.int .i64 (st : Int))).setCell ⟨tb, 2, none⟩ (.int .i64 cur')) := (((Chg.refl (· = tb) wj).set ⟨tb, 0, none⟩ (fun _ => rfl) _).set ⟨tb, 1, none⟩ (fun _ => rfl) _).set ⟨tb, 2, none⟩ (fun _ => rfl) _
 have HT3 := ak (show BlkK κ1 0 (((wj.setCell ⟨tb, 0, none⟩ (.int .i64 (k : Int))).setCell ⟨tb, 1, none⟩ (.int .i64 (st : Int))).setCell ⟨tb, 2, none⟩ (.int .i64 cur')) tb #[.int .i64 (k : Int), .int .i64 (st : Int), .int .i64 cur'] 103 from ⟨HTB.1, ((hT.set 0 _).set 1 _).set 2 _⟩)
 have hU3 : Upd (· = 0) κ1 wj κ1 (((wj.setCell ⟨tb, 0, none⟩ (.int .i64 (k : Int))).setCell ⟨tb, 1, none⟩ (.int .i64 (st : Int))).setCell ⟨tb, 2, none⟩ (.int .i64 cur')) := ⟨fun _ _ => rfl, hch3.then (Chg.refl (fun b => b = tb) _) (fun b _ e => e) |> fun c => ⟨c.os, c.tape, c.output, c.size, fun b hb hne => c.block b hb (fun e => hne (by rw [e]; exact HTB.1))⟩⟩
 have HP3 := ak (show BlkK κ1 0 (((wj.setCell ⟨tb, 0, none⟩ (.int .i64 (k : Int))).setCell ⟨tb, 1, none⟩ (.int .i64 (st : Int))).setCell ⟨tb, 2, none⟩ (.int .i64 cur')) w.heap.size #[.int .i64 po, .int .u8 ps, .int .i64 pn] 40 from ⟨HKN.1 _ (Nat.le_refl _), HP.1.chg hch3 (fun e => by have := HP0.1.lt; have : w.heap.size = tb := e; have : wd.heap.size ≤ tb := hS; omega)⟩)
 have HM3 := ak (HM.1.upd hU3 (fun c h1 e => by have e : c = 0 := e; omega))
 have htb : ¬ (tb < w.heap.size) := by have := HU.1.chg.size; have : wd.heap.size ≤ tb := hS; omega
 have HU3 := ak ((((HU.1.below hE).set ⟨tb, 0, none⟩ (fun hh => absurd hh htb) (.int .i64 (k : Int))).set ⟨tb, 1, none⟩ (fun hh => absurd hh htb) (.int .i64 (st : Int))).set ⟨tb, 2, none⟩ (fun hh => absurd hh htb) (.int .i64 cur'))
 clear HM HP HT HSB HU hU3 hch3 hT hS hE htb c0 c1 c2 c3 c5 k4 q0 q1 q2 t0 t1 t2 g0 g1 g2 hHeld
 generalize (((wj.setCell ⟨tb, 0, none⟩ (.int .i64 (k : Int))).setCell ⟨tb, 1, none⟩ (.int .i64 (st : Int))).setCell ⟨tb, 2, none⟩ (.int .i64 cur')) = wz at *
 have t2 := HT3.1.blk.at 2 (.int .i64 cur') rfl
 have k4 := (HC.1 _ HM3.1).k4
 have f4 := (HC.1 _ HM3.1).f4
 have hU4 : Upd (fun z => 150 + 6 * j ≤ z ∧ z < 156 + 6 * j) κ1 wz κ1 (wz.setCell ⟨p, 4, none⟩ (.int .i64 cur')) := (Upd.refl _ _ _).set ⟨p, 4, none⟩ (fun _ => by show 150 + 6 * j ≤ κ1 p ∧ κ1 p < 156 + 6 * j; rw [(HC.1 _ HM3.1).kol]; omega) _
 have HM4 := ak (HM3.1.putCpu HPP.1 HCC.1 ((HC.1 _ HM3.1).cursor cur') hU4)
 have HP4 := ak (HP3.1.upd hU4 (by omega))
 have HT4 := ak (HT3.1.upd hU4 (by omega))
 have HU4 := ak (HU3.1.then hU4 (fun c e => by omega))
 by_cases her : er = 0
 rotate_left
 ·go_wp2_with fail
  go_ret3
  exact ⟨fun h => absurd h her, fun _ => ⟨rfl, κ1, HM4.1, HU4.1⟩⟩
 subst her
 obtain ⟨hx, hT, hk⟩ := HTX.1 rfl
 have HT0 := ak hT
 have HX := ak hx
 have HJ := ak (And.intro (And.intro HJ0.1.1 (HJ0.1.2.1 rfl)) (And.intro hk HJ0.1.2.2))
 clear hx hT hk HJ0 HTX
 go_upto_region 5 with fail
 clear HM3 HP3 HT3 HU3 hU4 t2 k4 f4
 generalize wz.setCell ⟨p, 4, none⟩ (.int .i64 cur') = wy at *
 have c5 := HM4.1.c5
 have t0 := HT4.1.blk.at 0 (.int .i64 (k : Int)) rfl
 have HTK := ak (fun (W : World) (hW : HeapK κ1 16 W a.hp s.f s.mn s.lo s.hi s.bs) => heap_take κ1 16 a.hp s.f s.mn s.lo s.hi s.bs k o K y r x HX.1 HBL.1 hmn HT0.1.le HT0.1.lt HT0.1.hd HT0.1.min HT0.1.ok HT0.1.c HT0.1.may W hW)
 refine st_ 13 (fun w' => w'.cell? ⟨m, 5, none⟩ = some (.pointer (some ⟨a.hp, 0, none⟩)) ∧ w'.cell? ⟨tb, 0, none⟩ = some (.int .i64 (k : Int))) [7] ⟨c5, t0⟩ (fun hHeld => ?_)
 have hd_ := below_drew (RowKit.Below.refl wy.heap.size wy)
 have n0_ := ak (HM4.1.below hd_)
 have n1_ := ak (HP4.1.below hd_)
 have n2_ := ak (HT4.1.below hd_)
 have n3_ := ak (HU4.1.below hd_)
 clear HM4 HP4 HT4 HU4 c5 t0 hd_
 have HM4 := n0_
 have HP4 := n1_
 have HT4 := n2_
 have HU4 := n3_
 clear n0_ n1_ n2_ n3_
 have c5 := HM4.1.c5
 have t0 := HT4.1.blk.at 0 (.int .i64 (k : Int)) rfl
 generalize wy.drew = wd2 at *
 refine pu_ 0 45 1 ?_
 refine pu_ 1 46 3 ?_
 refine pu_ 2 47 7 ?_
 refine pu_ 4 49 23 ?_
 refine pu_ 6 51 87 ?_
 refine ta_ 3 48 95 hHeld ?_
 refine ta_ 5 50 127 hHeld ?_
 refine last_ (i := 7) (N := some 52) (bz 13 255) rfl rfl (by kernel_rfl) (by decide) (fun K hK => ?_)
 refine goes_ Tryz.func101 (by kernel_rfl) rfl #[.pointer (some ⟨a.hp, 0, none⟩), .int .i64 k, .int .i64 o] (by rfl) rfl rfl (by simp only [List.map_toArray, List.map_cons, List.map_nil]; rfl) ?_
 with_reducible refine (HTK.1 _ HM4.1.hp).mono ?_
 rintro e_ w5 ⟨rfl, q1_, q2_⟩
 refine ⟨_, rfl, ?_⟩
 have HQ := ak (And.intro q1_ q2_)
 clear q1_ q2_
 refine hK.out _ _ ?_
 clear hK K
 refine no_ 52 ?_
 refine pu_ 8 44 511 ?_
 refine pu_ 9 53 1023 ?_
 refine pu_ 10 54 2047 ?_
 refine pu_ 11 15 4095 ?_
 refine pu_ 12 14 8191 ?_
 refine done_ (by kernel_rfl) ?_
 have hkl := (List.getElem?_eq_some_iff.1 HX.1).1
 have hk8 : k < 8 := Nat.lt_of_lt_of_le hkl HBL.1
 have hU5 : Upd (fun z => 16 ≤ z ∧ z < 124) κ1 wd2 κ1 w5 := HQ.1.2.mono (fun c e => by omega)
 have HM5 := ak (HM4.1.putHeap _ (by rw [List.length_set]; exact HBL.1) HQ.1.1 hU5)
 have HP5 := ak (HP4.1.upd hU5 (by omega))
 have HT5 := ak (HT4.1.upd hU5 (by omega))
 have HU5 := ak (HU4.1.then hU5 (fun c e => by omega))
 have HC5 := ak (show ∀ W s', s'.cpus = s.cpus.set j { c with cur := cur' } → MachK κ1 W m a s' → W.cell? ⟨p, 0, none⟩ = some (.int .i64 (ow : Int)) from fun W s' he hW => by
  have hc' : s'.cpus[j]? = some { c with cur := cur' } := by rw [he, List.getElem?_set, if_pos rfl, if_pos (List.getElem?_eq_some_iff.1 HCC.1).1]
  have := (hW.cpuK HPP.1 hc').k0
  rw [show ({ c with cur := cur' } : Cpu).node = c.node from rfl, hnode] at this
  exact this)
 clear HM4 HP4 HT4 HU4 HQ hU5 hHeld c5 t0
 have HAD := ak (fun (W : World) (hW : LogK κ1 8 W a.lg s.n s.ev s.cn) => log_add κ1 8 a.lg s.n s.ev s.cn ⟨k, st, ow, po == 2⟩ HJ.1.2.2.1 HJ.1.2.1 HJ.1.1.2 HJ.1.1.1 HJ.1.2.2.2 W hW)
 go_upto_region 8 with fail
 have c8 := HM5.1.c8
 have t0 := HT5.1.blk.at 0 (.int .i64 (k : Int)) rfl
 have t1 := HT5.1.blk.at 1 (.int .i64 (st : Int)) rfl
 have k0 := HC5.1 _ _ rfl HM5.1
 have q0 := HP5.1.blk.at 0 (.int .i64 po) rfl
 refine st_ 17 (fun w' => w'.cell? ⟨m, 8, none⟩ = some (.pointer (some ⟨a.lg, 0, none⟩)) ∧ w'.cell? ⟨tb, 0, none⟩ = some (.int .i64 (k : Int)) ∧ w'.cell? ⟨tb, 1, none⟩ = some (.int .i64 (st : Int)) ∧ w'.cell? ⟨p, 0, none⟩ = some (.int .i64 (ow : Int)) ∧ w'.cell? ⟨w.heap.size, 0, none⟩ = some (.int .i64 po)) [16] ⟨c8, t0, t1, k0, q0⟩ (fun hHeld => ?_)
 have hd_ := below_drew (RowKit.Below.refl w5.heap.size w5)
 have n0_ := ak (HM5.1.below hd_)
 have n1_ := ak (HP5.1.below hd_)
 have n2_ := ak (HT5.1.below hd_)
 have n3_ := ak (HU5.1.below hd_)
 clear HM5 HP5 HT5 HU5 c8 t0 t1 k0 q0 hd_
 have HM5 := n0_
 have HP5 := n1_
 have HT5 := n2_
 have HU5 := n3_
 clear n0_ n1_ n2_ n3_
 have c8 := HM5.1.c8
 have t0 := HT5.1.blk.at 0 (.int .i64 (k : Int)) rfl
 have t1 := HT5.1.blk.at 1 (.int .i64 (st : Int)) rfl
 have k0 := HC5.1 _ _ rfl HM5.1
 have q0 := HP5.1.blk.at 0 (.int .i64 po) rfl
 generalize w5.drew = wd3 at *
 refine pu_ 0 58 1 ?_
 refine pu_ 1 59 3 ?_
 refine pu_ 2 60 7 ?_
 refine pu_ 4 62 23 ?_
 refine pu_ 6 64 87 ?_
 refine pu_ 8 66 343 ?_
 refine pu_ 9 67 855 ?_
 refine pu_ 10 68 1879 ?_
 refine pu_ 12 70 5975 ?_
 refine ta_ 3 61 5983 hHeld ?_
 refine ta_ 5 63 6015 hHeld ?_
 refine ta_ 7 65 6143 hHeld ?_
 refine ta_ 11 69 8191 hHeld ?_
 refine ta_ 13 71 16383 hHeld ?_
 refine pu_ 14 72 32767 ?_
 refine pu_ 15 73 65535 ?_
 refine last_ (i := 16) (N := some 74) (bz 17 131071) rfl rfl (by kernel_rfl) (by decide) (fun K hK => ?_)
 refine goes_ Tryz.func54 (by kernel_rfl) rfl #[.pointer (some ⟨a.lg, 0, none⟩), .agg #[.int .i64 k, .int .i64 st, .int .i64 ow, .bool (po == 2)]] (by rfl) rfl rfl (by simp only [List.map_toArray, List.map_cons, List.map_nil]; rfl) ?_
 with_reducible refine (HAD.1 _ HM5.1.lg).mono ?_
 rintro e_ w6 ⟨rfl, q1_⟩
 refine ⟨_, rfl, ?_⟩
 have HR := ak q1_
 clear q1_
 refine hK.out _ _ ?_
 clear hK K
 refine no_ 74 ?_
 refine done_ (by kernel_rfl) ?_
 obtain ⟨κ2, g1, g2⟩ := HR.1
 have HM6 := ak (HM5.1.putLog _ _ g1 g2)
 have HT6 := ak (HT5.1.upd g2 (by omega))
 have HU6 := ak (HU5.1.then g2 (fun c e => by omega))
 have t0 := HT6.1.blk.at 0 (.int .i64 (k : Int)) rfl
 clear HM5 HP5 HT5 HU5 HR g1 g2 hHeld
 go_upto_region 9 with fail
 have hd_ := below_drew (RowKit.Below.refl w6.heap.size w6)
 refine st_ 6 (fun w' => w'.cell? ⟨tb, 0, none⟩ = some (.int .i64 (k : Int))) [] (t0) (fun hHeld => ?_)
 refine pu_ 0 75 1 ?_
 refine pu_ 1 76 3 ?_
 refine pu_ 3 10 11 ?_
 refine ta_ 2 77 15 hHeld ?_
 refine pu_ 4 11 31 ?_
 refine pu_ 5 12 63 ?_
 refine done_ (by kernel_rfl) ?_
 go_wp2_with fail
 go_ret3
 exact ⟨rfl, κ2, HM6.1.below hd_, HU6.1.below hd_⟩
theorem acquire_own [SortI] (κ : Kol) (m : Nat) (a : Ad) (s : St) (j p : Nat) (c : Cpu) (o : Nat) (po : Int) (ps : Nat) (pn : Int) (hs8 : ps < 256) (hp : a.cps[j]? = some p) (hc : s.cpus[j]? = some c) (k st ow : Nat) (cur' : Int)
 (hch : TZ.chV s.n s.f s.cs s.ds po ps pn j c.cur (s.bs.map fun x => mayB s.mn x o) = ((k : Int), (st : Int), cur', 0)) (x : Bud) (K y : Nat) (r : List Nat) (hx : s.bs[k]? = some x) (hT : CanT s.f s.mn x o K y r)
 (hall : ∀ x ∈ s.bs, ∀ k, k < 11 → (x.fr k).length ≤ 1024) (hmn : -100000 ≤ s.mn) (hnode : c.node = (ow : Int)) (how : ow < s.n) (hst : st < s.n) (hk : k < s.n) (hn8 : s.n ≤ 8) (hev : s.ev.length ≤ 1000000) (w : World) (h : MachK κ w m a s) :
 Calls Tryz.prog 173 #[.pointer (some ⟨m, 0, none⟩), .int .i64 j, .pointer (some ⟨p, 0, none⟩), .agg #[.int .i64 po, .int .u8 ps, .int .i64 pn], .int .i64 o] w fun e w' => e = .returned (.tuple #[.int .i64 ((k * s.f + y : Nat) : Int), .int .i64 k, .int .i64 0]) ∧ ∃ κ', MachK κ' w' m a (acqS s j c k st ow cur' x K y o po) ∧ Upd (fun z => 8 ≤ z ∧ z < 250) κ w κ' w' := by
 refine (acquire_gen κ m a s j p c o (by have := hT.le; have := hT.lt; omega) po ps pn hs8 hp hc k st ow cur' 0 hch x K y r (fun _ => ⟨hx, hT, hk⟩) hall hmn hnode how (fun _ => hst) hn8 hev w h).mono ?_
 rintro e w' ⟨h1, _⟩
 exact h1 rfl
theorem ptr_shape {v : Value} {y : DataW Unit × List MemPlace} (h : ptrElem v = some y) : ∃ o : Option Nat, v = ptrV o := by
 unfold ptrElem at h
 split at h
 ·exact ⟨none, rfl⟩
 ·rename_i b; exact ⟨some b, rfl⟩
 ·simp at h
def RelNr (κ : Kol) (m : Nat) (a : Ad) (s : St) (w wr0 : World) (it : Nat) (n : Nat) (D : DataW Unit) (v10 : Value) (wr : World) : Prop :=
 ∃ left cnt, v10 = .pointer none ∧ wr.ranges Tryz.prog 3 ptrElem a.sb it n D left cnt ∧ (∀ kl, left kl = true → Maps.has D kl = true) ∧ RowKit.Below w.heap.size w wr
theorem nearest_none (κ : Kol) (m : Nat) (a : Ad) (s : St) (j p : Nat) (c : Cpu) (cls : Nat) (hp : a.cps[j]? = some p) (hc : s.cpus[j]? = some c) (h1 : 1 ≤ s.n) (h8 : s.n ≤ 8) (hpol : TZ.polR c.mode c.set c.nd s.n = 0) (her : TZ.erN s.n s.f s.cs s.ds c.node = 0) (hno : ∀ q, s.sp q = none) (w : World) (h : MachK κ w m a s) :
 Calls Tryz.prog 168 #[.pointer (some ⟨m, 0, none⟩), .pointer (some ⟨p, 0, none⟩), .int .i64 cls] w fun e w' => e = .returned (.pointer none) ∧ RowKit.Below w.heap.size w w' := by
 have HM := ak h
 have HC := ak (show ∀ W, MachK κ W m a s → CpuK κ (150 + 6 * j) W p c from fun W hW => hW.cpuK hp hc)
 obtain ⟨pm, hpm⟩ : ∃ pm, TZ.permR c.mode c.set s.n = pm := ⟨_, rfl⟩
 have HPE := ak (show ∀ W : World, Calls Tryz.prog 49 #[.agg #[.int .i64 c.mode, .int .u8 c.set, .int .i64 c.nd], .int .i64 s.n] W (fun e w' => e = .returned (.tuple #[.int .u8 pm, .int .i64 0]) ∧ RowKit.Below W.heap.size W w') from fun W => by
  rw [← hpm]
  exact PH.policy_Permitted.calls 20 c.mode c.set c.nd s.n _ 0 W (by rw [TZ.pperm_f c.mode c.set c.nd s.n h1 h8, hpol, if_pos rfl]))
 obtain ⟨q, hq⟩ : ∃ q, (TZ.inL pm (TZ.lstN s.n s.f s.cs s.ds c.node)).length = q := ⟨_, rfl⟩
 have HWI := ak (show ∀ W, MachK κ W m a s → Calls Tryz.prog 162 #[.agg #[.int .i64 s.n, .int .i64 s.f, .slice a.A s.cs.length a.ca, .slice a.B s.ds.length a.cb], .int .i64 c.node, .int .u8 pm] W (fun e w' => ∃ A1 c1, e = .returned (.tuple #[.slice A1 q c1, .int .i64 0]) ∧ RowKit.Below W.heap.size W w') from fun W hW => by
  obtain ⟨A1, c1, e1, l1, r1⟩ := hW.cs.reads
  injection e1 with e1 _ e2
  obtain ⟨A2, c2, e3, l2, r2⟩ := hW.ds.reads
  injection e3 with e3 _ e4
  subst e1; subst e2; subst e3; subst e4
  refine (TZ.within_own s.n s.f a.A a.ca s.cs a.B a.cb s.ds c.node pm W r1 l1 r2 l2).mono ?_
  rintro e w' ⟨v, rfl, ho, hb⟩
  obtain ⟨A3, c3, rfl⟩ := own_slice ho
  rw [hq, her]
  exact ⟨A3, c3, rfl, hb⟩)
 have HB0 := ak (RowKit.Below.refl w.heap.size w)
 have c0 := h.c0
 have k1 := (HC.1 _ h).k1
 have k2 := (HC.1 _ h).k2
 have k3 := (HC.1 _ h).k3
 have HNO := ak hno
 clear h hpm hq hpol her hno hp hc
 go_enter Tryz.func168, Tryz.ntmps168
 go_upto_region 1 with fail
 refine st_ 15 (fun w' => w'.cell? ⟨m, 0, none⟩ = some (.int .i64 s.n) ∧ w'.cell? ⟨p, 1, none⟩ = some (.int .i64 c.mode) ∧ w'.cell? ⟨p, 2, none⟩ = some (.int .u8 c.set) ∧ w'.cell? ⟨p, 3, none⟩ = some (.int .i64 c.nd)) [9] ⟨c0, k1, k2, k3⟩ (fun hHeld => ?_)
 have hd_ := below_drew (RowKit.Below.refl w.heap.size w)
 have n0_ := ak (HM.1.below hd_)
 have n1_ := ak (below_then HB0.1 HB0.1.size hd_)
 clear HM HB0 c0 k1 k2 k3 hd_
 have HM := n0_
 have HB0 := n1_
 clear n0_ n1_
 have c0 := HM.1.c0
 have k1 := (HC.1 _ HM.1).k1
 have k2 := (HC.1 _ HM.1).k2
 have k3 := (HC.1 _ HM.1).k3
 generalize w.drew = wd at *
 refine pu_ 0 16 1 ?_
 refine pu_ 1 17 3 ?_
 refine pu_ 2 18 7 ?_
 refine pu_ 4 20 23 ?_
 refine pu_ 5 21 55 ?_
 refine pu_ 6 22 119 ?_
 refine pu_ 7 23 247 ?_
 refine ta_ 3 19 255 hHeld ?_
 refine ta_ 8 24 511 hHeld ?_
 refine last_ (i := 9) (N := some 25) (bz 15 1023) rfl rfl (by kernel_rfl) (by decide) (fun K hK => ?_)
 refine goes_ Tryz.func49 (by kernel_rfl) rfl #[.agg #[.int .i64 c.mode, .int .u8 c.set, .int .i64 c.nd], .int .i64 s.n] (by rfl) rfl rfl (by simp only [List.map_toArray, List.map_cons, List.map_nil]; rfl) ?_
 with_reducible refine (HPE.1 _).mono ?_
 rintro e_ w1 ⟨rfl, hb⟩
 refine ⟨_, rfl, ?_⟩
 have n0_ := ak (HM.1.below hb)
 have n1_ := ak (below_then HB0.1 HB0.1.size hb)
 clear HM HB0 c0 k1 k2 k3 hb
 have HM := n0_
 have HB0 := n1_
 clear n0_ n1_
 have c0 := HM.1.c0
 have k1 := (HC.1 _ HM.1).k1
 have k2 := (HC.1 _ HM.1).k2
 have k3 := (HC.1 _ HM.1).k3
 clear hHeld
 clear c0 k1 k2 k3
 refine hK.out _ _ ?_
 clear hK K
 refine no_ 25 ?_
 refine pu_ 10 15 2047 ?_
 refine pu_ 11 26 4095 ?_
 refine pu_ 12 27 8191 ?_
 refine pu_ 13 7 16383 ?_
 refine pu_ 14 8 32767 ?_
 refine done_ (by kernel_rfl) ?_
 go_upto_region 4 with fail
 have c0 := HM.1.c0
 have c1 := HM.1.c1
 have c2 := HM.1.c2
 have c3 := HM.1.c3
 have k0 := (HC.1 _ HM.1).k0
 refine st_ 15 (fun w' => w'.cell? ⟨m, 0, none⟩ = some (.int .i64 s.n) ∧ w'.cell? ⟨m, 1, none⟩ = some (.int .i64 s.f) ∧ w'.cell? ⟨m, 2, none⟩ = some (.slice a.A s.cs.length a.ca) ∧ w'.cell? ⟨m, 3, none⟩ = some (.slice a.B s.ds.length a.cb) ∧ w'.cell? ⟨p, 0, none⟩ = some (.int .i64 c.node)) [9] ⟨c0, c1, c2, c3, k0⟩ (fun hHeld => ?_)
 have hd_ := below_drew (RowKit.Below.refl w1.heap.size w1)
 have n0_ := ak (HM.1.below hd_)
 have n1_ := ak (below_then HB0.1 HB0.1.size hd_)
 clear HM HB0 c0 c1 c2 c3 k0 hd_
 have HM := n0_
 have HB0 := n1_
 clear n0_ n1_
 have c0 := HM.1.c0
 have c1 := HM.1.c1
 have c2 := HM.1.c2
 have c3 := HM.1.c3
 have k0 := (HC.1 _ HM.1).k0
 generalize w1.drew = wd at *
 refine pu_ 0 31 1 ?_
 refine pu_ 1 32 3 ?_
 refine pu_ 2 33 7 ?_
 refine pu_ 4 35 23 ?_
 refine pu_ 5 36 55 ?_
 refine pu_ 6 37 119 ?_
 refine pu_ 8 39 375 ?_
 refine ta_ 3 34 383 hHeld ?_
 refine ta_ 7 38 511 hHeld ?_
 refine last_ (i := 9) (N := some 40) (bz 15 1023) rfl rfl (by kernel_rfl) (by decide) (fun K hK => ?_)
 refine goes_ Tryz.func162 (by kernel_rfl) rfl #[.agg #[.int .i64 s.n, .int .i64 s.f, .slice a.A s.cs.length a.ca, .slice a.B s.ds.length a.cb], .int .i64 c.node, .int .u8 pm] (by rfl) rfl rfl (by simp only [List.map_toArray, List.map_cons, List.map_nil]; rfl) ?_
 with_reducible refine (HWI.1 _ HM.1).mono ?_
 rintro e_ w2 ⟨A9, c9, rfl, hb⟩
 refine ⟨_, rfl, ?_⟩
 have n0_ := ak (HM.1.below hb)
 have n1_ := ak (below_then HB0.1 HB0.1.size hb)
 clear HM HB0 c0 c1 c2 c3 k0 hb
 have HM := n0_
 have HB0 := n1_
 clear n0_ n1_
 have c0 := HM.1.c0
 have c1 := HM.1.c1
 have c2 := HM.1.c2
 have c3 := HM.1.c3
 have k0 := (HC.1 _ HM.1).k0
 clear hHeld
 clear c0 c1 c2 c3 k0
 refine hK.out _ _ ?_
 clear hK K
 refine no_ 40 ?_
 refine pu_ 10 30 2047 ?_
 refine pu_ 11 41 4095 ?_
 refine pu_ 12 42 8191 ?_
 refine pu_ 13 9 16383 ?_
 refine pu_ 14 8 32767 ?_
 refine done_ (by kernel_rfl) ?_
 have c11 := HM.1.c11
 obtain ⟨f, ⟨hk, D, hown, hv⟩, hf2, hf3⟩ := HM.1.sp
 have HOW := ak hown
 have HNH := ak (show ∀ x : Int, I64 x → Maps.has D (.int .i64 x) = false from fun x hx => by
  rw [(hv x hx).1]
  cases hfx : f x with
  | none => rfl
  | some z =>
   have h0 := hf2 x (by rw [hfx]; rfl)
   have h3 := (hf3 x.toNat).1 (HNO.1 _)
   rw [Int.toNat_of_nonneg h0.1, hfx] at h3
   simp at h3)
 clear hk hown hv hf2 hf3
 go_wp2_with (at_range; refine wpList_range_own _ rfl _ 126 rfl 3 139 int_law Tryz.underlying126 _ a.sb s.sn D rfl HOW.1 ?_; intro w0 hrg0 hg0 hs0; have HRG := ak hrg0; have HG0 := ak hg0; clear hrg0 hg0 hs0)
 have HBW := ak (below_then HB0.1 HB0.1.size (show RowKit.Below w2.heap.size w2 w0 from ⟨HG0.1.os, HG0.1.tape, HG0.1.output, HG0.1.size, fun k hk => HG0.1.block k hk (by simp)⟩))
 have H0 := ak (show RelNr κ m a s w w0 w2.heap.size s.sn D (.pointer none) w0 from ⟨_, _, rfl, HRG.1, fun _ h => h, HBW.1⟩)
 go_frame
 go_loopw [10, 11, 13, 14] (fun v10 _ _ _ wr => RelNr κ m a s w w0 w2.heap.size s.sn D v10 wr) (fun _ _ _ _ wr => wr.rangeLeft a.sb w2.heap.size)
 case atStart => exact H0.1
 case round =>
  clear H0
  obtain ⟨left, cnt, rfl, hrg, hl, hb⟩ := hrel
  have HR := ak hrg
  have HL := ak hl
  have HB := ak hb
  clear hrg hl hb
  go_wp2_with (at_next; refine wpList_next_ranges _ rfl _ rfl 3 int_law ptrElem (Value.int .i64) ptrV (fun key kl hk => by obtain ⟨x, rfl, _⟩ := Maps.keyOf_int_inv Tryz.underlying3 hk; exact ⟨x, rfl⟩) (fun v y hv => ptr_shape hv) a.sb w2.heap.size s.sn D left cnt rfl HR.1 ?_ ?_; rotate_left; (intro x o kl y w5 cnt2 hk hlk; exfalso; obtain ⟨x', ex, rfl, hwx⟩ := Maps.keyOf_int_inv Tryz.underlying3 hk; have h3 := HL.1 _ hlk; rw [HNH.1 x' hwx] at h3; cases h3); intro (hc0 : cnt = 0) hl0; clear hc0 hl0)
  go_ret
  exact ⟨rfl, HB.1⟩
end Go.Proofs.YtenkdmloolbdaaaGreatDoor.T
end
