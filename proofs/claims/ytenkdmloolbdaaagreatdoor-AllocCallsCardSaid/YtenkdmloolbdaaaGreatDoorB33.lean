/- Frames acquired. -/
import Derived.Test.YtenkdmloolbdaaaGreatDoorB32
import Derived.Test.YtenkdmloolbdaaaGreatDoorB05
import Derived.Test.YtenkdmloolbdaaaGreatDoorB31
section
namespace Go.Proofs.YtenkdmloolbdaaaGreatDoor.T
open Go.RowKit Go.Maps Go.WideShapes Go.Proofs.YtenkdmloolbdaaaGreatDoorW.PrintWords Go.Proofs.YtenkdmloolbdaaaGreatDoorW.PrintLast Go.Proofs.YtenkdmloolbdaaaGreatDoorW.PrintMore
set_option linter.unusedVariables false
set_option linter.unusedSimpArgs false
theorem CpuK.cursor {κ : Kol} {i : Nat} {w : World} {b : Nat} {c : Cpu} (h : CpuK κ i w b c) (v : Int) : CpuK κ i (w.setCell ⟨b, 4, none⟩ (.int .i64 v)) b { c with cur := v } := by
  obtain ⟨cb, h1, h2⟩ := h
  exact ⟨cb, h1.set 4 _, h2.upd (I := (· = i)) ((Upd.refl _ _ _).set ⟨b, 4, none⟩ (fun _ => h1.kol) _) (fun c hc => by omega)⟩
theorem CpuK.kol {κ : Kol} {i : Nat} {w : World} {b : Nat} {c : Cpu} (h : CpuK κ i w b c) : κ b = i := by obtain ⟨cb, h1, _⟩ := h; exact h1.kol
/-- What must hold for a run of an order to be taken of a node. -/
structure CanT (f : Nat) (mn : Int) (x : Bud) (o K y : Nat) (r : List Nat) : Prop where
  ok : BudOK f x.fr
  c : x.c < 1000000
  le : o ≤ K
  lt : K < 11
  hd : x.fr K = y :: r
  min : ∀ q, o ≤ q → q < K → x.fr q = []
  may : mayB mn x o = true
/-- A machine behind an acquiring. -/
def acqS (s : St) (j : Nat) (c : Cpu) (k st ow : Nat) (cur' : Int) (x : Bud) (K y o : Nat) (po : Int) : St :=
  { s with bs := s.bs.set k ⟨x.c + 1, frAt x.fr K y o, putF x.tk y o⟩, ev := s.ev ++ [⟨k, st, ow, po == 2⟩], cn := addC s.cn ⟨k, st, ow, po == 2⟩, cpus := s.cpus.set j { c with cur := cur' } }
set_option maxHeartbeats 8000000 in
set_option maxRecDepth 100000 in
theorem acquire_own [SortI] (κ : Kol) (m : Nat) (a : Ad) (s : St) (j p : Nat) (c : Cpu) (o : Nat) (po : Int) (ps : Nat) (pn : Int) (hs8 : ps < 256) (hp : a.cps[j]? = some p) (hc : s.cpus[j]? = some c) (k st ow : Nat) (cur' : Int)
    (hch : TZ.chV s.n s.f s.cs s.ds po ps pn j c.cur (s.bs.map fun x => mayB s.mn x o) = ((k : Int), (st : Int), cur', 0)) (x : Bud) (K y : Nat) (r : List Nat) (hx : s.bs[k]? = some x) (hT : CanT s.f s.mn x o K y r)
    (hall : ∀ x ∈ s.bs, ∀ k, k < 11 → (x.fr k).length ≤ 1024) (hmn : -100000 ≤ s.mn) (hnode : c.node = (ow : Int)) (how : ow < s.n) (hst : st < s.n) (hk : k < s.n) (hn8 : s.n ≤ 8) (hev : s.ev.length ≤ 1000000) (w : World) (h : MachK κ w m a s) :
    Calls Tryz.prog 173 #[.pointer (some ⟨m, 0, none⟩), .int .i64 j, .pointer (some ⟨p, 0, none⟩), .agg #[.int .i64 po, .int .u8 ps, .int .i64 pn], .int .i64 o] w fun e w' => e = .returned (.tuple #[.int .i64 ((k * s.f + y : Nat) : Int), .int .i64 k, .int .i64 0]) ∧ ∃ κ', MachK κ' w' m a (acqS s j c k st ow cur' x K y o po) ∧ Upd (fun z => 8 ≤ z ∧ z < 250) κ w κ' w' := by
  have ho : o < 11 := by have := hT.le; have := hT.lt; omega
  obtain ⟨κ1, hκ1⟩ : ∃ κ1, κ.ext w.heap.size 0 = κ1 := ⟨_, rfl⟩
  obtain ⟨wb, hwb⟩ : ∃ wb, w.alloc (.cells #[.int .i64 po, .int .u8 ps, .int .i64 pn] 40) = wb := ⟨_, rfl⟩
  have hU0 : Upd (fun _ => False) κ w κ1 wb := by rw [← hwb, ← hκ1]; exact (Upd.of_below κ (below_alloc (RowKit.Below.refl _ _) _)).paint _ _ (Nat.le_refl _)
  have HKN := Aside0.mk (show ∀ b, w.heap.size ≤ b → κ1 b = 0 from fun b hb => by rw [← hκ1]; exact Kol.ext_new κ hb)
  have HU := Aside0.mk (show Upd (fun z => 8 ≤ z ∧ z < 250) κ w κ1 wb from hU0.mono (fun _ h => h.elim))
  have HM := Aside0.mk (h.upd hU0 (fun _ _ h => h))
  have HP := Aside0.mk (show Blk wb w.heap.size #[.int .i64 po, .int .u8 ps, .int .i64 pn] 40 from by rw [← hwb]; exact Blk.new _ _ _)
  have HPP := Aside0.mk hp
  have HCC := Aside0.mk hc
  have HC := Aside0.mk (show ∀ W, MachK κ1 W m a s → CpuK κ1 (150 + 6 * j) W p c from fun W hW => hW.cpuK hp hc)
  have HT0 := Aside0.mk hT
  have HX := Aside0.mk hx
  have hj16 : j < 16 := Nat.lt_of_lt_of_le (List.getElem?_eq_some_iff.1 hc).1 h.hcp
  have HBL := Aside0.mk h.hbs
  have HJ := Aside0.mk (And.intro (And.intro how hst) (And.intro hk (And.intro hn8 hev)))
  obtain ⟨may, hmay⟩ : ∃ may, (s.bs.map fun x => mayB s.mn x o) = may := ⟨_, rfl⟩
  have hml : may.length = s.bs.length := by rw [← hmay, List.length_map]
  have HAL := Aside0.mk (show ∀ W, MachK κ1 W m a s → Calls Tryz.prog 48 #[.pointer (some ⟨a.hp, 0, none⟩), .int .i64 o] W (fun e w' => ∃ A c, e = .returned (.slice A may.length c) ∧ may.length ≤ c ∧ Kd.bool.C w' A may.length may ∧ RowKit.Below W.heap.size W w') from fun W hW => by
    have := heap_all κ1 16 a.hp s.f s.mn s.lo s.hi s.bs o ho (by have := hW.hbs; omega) hall hmn W hW.hp
    rw [hmay, ← hml] at this
    exact this)
  have HND := Aside0.mk (show ∀ W, MachK κ1 W m a s → ∀ (M : Option Addr) (cm : Nat), Kd.bool.C W M may.length may → Calls Tryz.prog 52 #[.agg #[.int .i64 s.n, .int .i64 s.f, .slice a.A s.cs.length a.ca, .slice a.B s.ds.length a.cb], .agg #[.int .i64 po, .int .u8 ps, .int .i64 pn], .int .i64 j, .int .i64 c.cur, .slice M may.length cm] W (fun e w' => e = .returned (.tuple #[.agg #[.int .i64 k, .int .i64 st, .int .i64 cur'], .int .i64 0]) ∧ RowKit.Below W.heap.size W w') from fun W hW M cm hM => by
    obtain ⟨A1, c1, e1, l1, r1⟩ := hW.cs.reads
    injection e1 with e1 _ e2
    obtain ⟨A2, c2, e3, l2, r2⟩ := hW.ds.reads
    injection e3 with e3 _ e4
    subst e1; subst e2; subst e3; subst e4
    have := TZ.node_own s.n s.f a.A a.ca s.cs a.B a.cb s.ds po ps hs8 pn j c.cur M cm may W r1 l1 r2 l2 hM
    rw [hmay] at hch
    rw [hch] at this
    exact this)
  clear h hU0 hch hmay hx hc hp how hst hk hn8 hev hall hT
  go_enter Tryz.func173, Tryz.ntmps173
  go_upto_region 1 with fail
  clear hwb hκ1
  have c0 := HM.out.c0
  have c1 := HM.out.c1
  have c2 := HM.out.c2
  have c3 := HM.out.c3
  have c5 := HM.out.c5
  have k4 := (HC.out _ HM.out).k4
  have q0 := HP.out.at 0 (.int .i64 po) rfl
  have q1 := HP.out.at 1 (.int .u8 ps) rfl
  have q2 := HP.out.at 2 (.int .i64 pn) rfl
  refine st_ 23 (fun w' => w'.cell? ⟨m, 0, none⟩ = some (.int .i64 s.n) ∧ w'.cell? ⟨m, 1, none⟩ = some (.int .i64 s.f) ∧ w'.cell? ⟨m, 2, none⟩ = some (.slice a.A s.cs.length a.ca) ∧ w'.cell? ⟨m, 3, none⟩ = some (.slice a.B s.ds.length a.cb) ∧ w'.cell? ⟨m, 5, none⟩ = some (.pointer (some ⟨a.hp, 0, none⟩)) ∧ w'.cell? ⟨p, 4, none⟩ = some (.int .i64 c.cur) ∧ w'.cell? ⟨w.heap.size, 0, none⟩ = some (.int .i64 po) ∧ w'.cell? ⟨w.heap.size, 1, none⟩ = some (.int .u8 ps) ∧ w'.cell? ⟨w.heap.size, 2, none⟩ = some (.int .i64 pn)) [21] ⟨c0, c1, c2, c3, c5, k4, q0, q1, q2⟩ (fun hHeld => ?_)
  have hd_ := below_drew (RowKit.Below.refl wb.heap.size wb)
  have HUd := Aside0.mk (HU.out.below hd_)
  clear HU
  have n0_ := Aside0.mk (HM.out.below hd_)
  have n1_ := Aside0.mk (HP.out.below hd_)
  clear HM HP c0 c1 c2 c3 c5 k4 q0 q1 q2 hd_
  have HM := n0_
  have HP := n1_
  clear n0_ n1_
  have c0 := HM.out.c0
  have c1 := HM.out.c1
  have c2 := HM.out.c2
  have c3 := HM.out.c3
  have c5 := HM.out.c5
  have k4 := (HC.out _ HM.out).k4
  have q0 := HP.out.at 0 (.int .i64 po) rfl
  have q1 := HP.out.at 1 (.int .u8 ps) rfl
  have q2 := HP.out.at 2 (.int .i64 pn) rfl
  generalize wb.drew = wd at *
  have HU := HUd
  clear HUd
  have HD := Aside0.mk (RowKit.Below.refl wd.heap.size wd)
  have HP0 := Aside0.mk HP.out
  refine pu_ 0 17 1 ?_
  refine pu_ 1 18 3 ?_
  refine pu_ 2 19 7 ?_
  refine pu_ 5 22 39 ?_
  refine pu_ 6 23 103 ?_
  refine pu_ 7 24 231 ?_
  refine pu_ 8 25 487 ?_
  refine pu_ 10 27 1511 ?_
  refine pu_ 11 28 3559 ?_
  refine pu_ 12 29 7655 ?_
  refine pu_ 14 31 24039 ?_
  refine ta_ 3 20 24047 hHeld ?_
  refine ta_ 4 21 24063 hHeld ?_
  refine ta_ 9 26 24575 hHeld ?_
  refine ta_ 13 30 32767 hHeld ?_
  refine join_ (σ := Nat × Option Addr × Nat) 2 (bz 23 2097151) (fun sg_ => [(32, .slice sg_.2.1 may.length sg_.2.2), (33, .tuple #[.agg #[.int .i64 k, .int .i64 st, .int .i64 cur'], .int .i64 0]), (13, .pointer (some ⟨sg_.1, 0, none⟩)), (16, .tuple #[.agg #[.int .i64 k, .int .i64 st, .int .i64 cur'], .int .i64 0]), (34, .agg #[.int .i64 k, .int .i64 st, .int .i64 cur']), (35, .int .i64 0)]) (fun sg_ w_ => Blk w_ sg_.1 #[.int .i64 0, .int .i64 0, .int .i64 0] 103 ∧ wd.heap.size ≤ sg_.1 ∧ RowKit.Below wd.heap.size wd w_) ?_ ?_
  rotate_left
  · intro hCont
    refine two_ (i := 15) (j := 20) (Ni := some 32) (Nj := some 13) (bz 23 65535) (bz 23 1081343) rfl rfl rfl rfl (by kernel_rfl) (by decide) (by decide) (fun K hK => ?_) (fun K hK => ?_)
    · skip
      refine goes_ Tryz.func48 (by kernel_rfl) rfl #[.pointer (some ⟨a.hp, 0, none⟩), .int .i64 o] (by rfl) rfl rfl (by simp only [List.map_toArray, List.map_cons, List.map_nil]; rfl) ?_
      with_reducible refine (HAL.out _ HM.out).mono ?_
      rintro e_ wa ⟨A7, c7, rfl, hle, hC, hb⟩
      refine ⟨_, rfl, ?_⟩
      have HMY := Aside0.mk hC
      clear hle hC
      have n0_ := Aside0.mk (HM.out.below hb)
      have n1_ := Aside0.mk (HP.out.below hb)
      have n2_ := Aside0.mk (below_then HD.out HD.out.size hb)
      clear HM HP HD c0 c1 c2 c3 c5 k4 q0 q1 q2 hb
      have HM := n0_
      have HP := n1_
      have HD := n2_
      clear n0_ n1_ n2_
      have c0 := HM.out.c0
      have c1 := HM.out.c1
      have c2 := HM.out.c2
      have c3 := HM.out.c3
      have c5 := HM.out.c5
      have k4 := (HC.out _ HM.out).k4
      have q0 := HP.out.at 0 (.int .i64 po) rfl
      have q1 := HP.out.at 1 (.int .u8 ps) rfl
      have q2 := HP.out.at 2 (.int .i64 pn) rfl
      refine hK.out _ _ ⟨HM.out.c0, HM.out.c1, HM.out.c2, HM.out.c3, HM.out.c5, (HC.out _ HM.out).k4, HP.out.at 0 (.int .i64 po) rfl, HP.out.at 1 (.int .u8 ps) rfl, HP.out.at 2 (.int .i64 pn) rfl⟩ (fun hHeld => ?_)
      clear hK K
      refine no_ 32 ?_
      refine two_ (i := 16) (j := 20) (Ni := some 33) (Nj := some 13) (bz 23 131071) (bz 23 1114111) rfl rfl rfl rfl (by kernel_rfl) (by decide) (by decide) (fun K hK => ?_) (fun K hK => ?_)
      · skip
        refine goes_ Tryz.func52 (by kernel_rfl) rfl #[.agg #[.int .i64 s.n, .int .i64 s.f, .slice a.A s.cs.length a.ca, .slice a.B s.ds.length a.cb], .agg #[.int .i64 po, .int .u8 ps, .int .i64 pn], .int .i64 j, .int .i64 c.cur, .slice A7 may.length c7] (by rfl) rfl rfl (by simp only [List.map_toArray, List.map_cons, List.map_nil]; rfl) ?_
        with_reducible refine (HND.out _ HM.out A7 c7 HMY.out).mono ?_
        rintro e_ wc ⟨rfl, hb⟩
        refine ⟨_, rfl, ?_⟩
        have n0_ := Aside0.mk (HM.out.below hb)
        have n1_ := Aside0.mk (HP.out.below hb)
        have n2_ := Aside0.mk (below_then HD.out HD.out.size hb)
        have n3_ := Aside0.mk (Kd.C_below HMY.out hb)
        clear HM HP HD HMY c0 c1 c2 c3 c5 k4 q0 q1 q2 hb
        have HM := n0_
        have HP := n1_
        have HD := n2_
        have HMY := n3_
        clear n0_ n1_ n2_ n3_
        have c0 := HM.out.c0
        have c1 := HM.out.c1
        have c2 := HM.out.c2
        have c3 := HM.out.c3
        have c5 := HM.out.c5
        have k4 := (HC.out _ HM.out).k4
        have q0 := HP.out.at 0 (.int .i64 po) rfl
        have q1 := HP.out.at 1 (.int .u8 ps) rfl
        have q2 := HP.out.at 2 (.int .i64 pn) rfl
        refine hK.out _ _ ⟨HM.out.c0, HM.out.c1, HM.out.c2, HM.out.c3, HM.out.c5, (HC.out _ HM.out).k4, HP.out.at 0 (.int .i64 po) rfl, HP.out.at 1 (.int .u8 ps) rfl, HP.out.at 2 (.int .i64 pn) rfl⟩ (fun hHeld => ?_)
        clear hK K
        refine no_ 33 ?_
        refine pu_ 17 16 262143 ?_
        refine pu_ 18 34 524287 ?_
        refine pu_ 19 35 1048575 ?_
        refine one_ (i := 20) (N := some 13) (bz 23 2097151) rfl rfl (by kernel_rfl) (by decide) (fun K hK => ?_)
        refine va_ ?_
        have hb := below_alloc (RowKit.Below.refl wc.heap.size wc) (.cells #[.int .i64 0, .int .i64 0, .int .i64 0] 103)
        have HT := Aside0.mk (Blk.new wc #[.int .i64 0, .int .i64 0, .int .i64 0] 103)
        have HSZ := Aside0.mk HD.out.size
        have n0_ := Aside0.mk (HM.out.below hb)
        have n1_ := Aside0.mk (HP.out.below hb)
        have n2_ := Aside0.mk (below_then HD.out HD.out.size hb)
        have n3_ := Aside0.mk (Kd.C_below HMY.out hb)
        clear HM HP HD HMY c0 c1 c2 c3 c5 k4 q0 q1 q2 hb
        have HM := n0_
        have HP := n1_
        have HD := n2_
        have HMY := n3_
        clear n0_ n1_ n2_ n3_
        have c0 := HM.out.c0
        have c1 := HM.out.c1
        have c2 := HM.out.c2
        have c3 := HM.out.c3
        have c5 := HM.out.c5
        have k4 := (HC.out _ HM.out).k4
        have q0 := HP.out.at 0 (.int .i64 po) rfl
        have q1 := HP.out.at 1 (.int .u8 ps) rfl
        have q2 := HP.out.at 2 (.int .i64 pn) rfl
        refine hK.out _ _ ⟨HM.out.c0, HM.out.c1, HM.out.c2, HM.out.c3, HM.out.c5, (HC.out _ HM.out).k4, HP.out.at 0 (.int .i64 po) rfl, HP.out.at 1 (.int .u8 ps) rfl, HP.out.at 2 (.int .i64 pn) rfl⟩ (fun hHeld => ?_)
        clear hK K
        refine no_ 13 ?_
        exact norm_ (by simp only [putAll, Act.put, List.setIfInBounds_toArray, List.set_cons_zero, List.set_cons_succ]) (hCont (wc.heap.size, A7, c7) _ ⟨HT.out, HSZ.out, HD.out⟩)
      · skip
        refine va_ ?_
        have hb := below_alloc (RowKit.Below.refl wa.heap.size wa) (.cells #[.int .i64 0, .int .i64 0, .int .i64 0] 103)
        have HT := Aside0.mk (Blk.new wa #[.int .i64 0, .int .i64 0, .int .i64 0] 103)
        have HSZ := Aside0.mk HD.out.size
        have n0_ := Aside0.mk (HM.out.below hb)
        have n1_ := Aside0.mk (HP.out.below hb)
        have n2_ := Aside0.mk (below_then HD.out HD.out.size hb)
        have n3_ := Aside0.mk (Kd.C_below HMY.out hb)
        clear HM HP HD HMY c0 c1 c2 c3 c5 k4 q0 q1 q2 hb
        have HM := n0_
        have HP := n1_
        have HD := n2_
        have HMY := n3_
        clear n0_ n1_ n2_ n3_
        have c0 := HM.out.c0
        have c1 := HM.out.c1
        have c2 := HM.out.c2
        have c3 := HM.out.c3
        have c5 := HM.out.c5
        have k4 := (HC.out _ HM.out).k4
        have q0 := HP.out.at 0 (.int .i64 po) rfl
        have q1 := HP.out.at 1 (.int .u8 ps) rfl
        have q2 := HP.out.at 2 (.int .i64 pn) rfl
        refine hK.out _ _ ⟨HM.out.c0, HM.out.c1, HM.out.c2, HM.out.c3, HM.out.c5, (HC.out _ HM.out).k4, HP.out.at 0 (.int .i64 po) rfl, HP.out.at 1 (.int .u8 ps) rfl, HP.out.at 2 (.int .i64 pn) rfl⟩ (fun hHeld => ?_)
        clear hK K
        refine no_ 13 ?_
        refine one_ (i := 16) (N := some 33) (bz 23 1179647) rfl rfl (by kernel_rfl) (by decide) (fun K hK => ?_)
        refine goes_ Tryz.func52 (by kernel_rfl) rfl #[.agg #[.int .i64 s.n, .int .i64 s.f, .slice a.A s.cs.length a.ca, .slice a.B s.ds.length a.cb], .agg #[.int .i64 po, .int .u8 ps, .int .i64 pn], .int .i64 j, .int .i64 c.cur, .slice A7 may.length c7] (by rfl) rfl rfl (by simp only [List.map_toArray, List.map_cons, List.map_nil]; rfl) ?_
        with_reducible refine (HND.out _ HM.out A7 c7 HMY.out).mono ?_
        rintro e_ wc ⟨rfl, hb⟩
        refine ⟨_, rfl, ?_⟩
        have n0_ := Aside0.mk (HM.out.below hb)
        have n1_ := Aside0.mk (HP.out.below hb)
        have n2_ := Aside0.mk (below_then HD.out HD.out.size hb)
        have n3_ := Aside0.mk (HT.out.below hb)
        have n4_ := Aside0.mk (Kd.C_below HMY.out hb)
        clear HM HP HD HT HMY c0 c1 c2 c3 c5 k4 q0 q1 q2 hb
        have HM := n0_
        have HP := n1_
        have HD := n2_
        have HT := n3_
        have HMY := n4_
        clear n0_ n1_ n2_ n3_ n4_
        have c0 := HM.out.c0
        have c1 := HM.out.c1
        have c2 := HM.out.c2
        have c3 := HM.out.c3
        have c5 := HM.out.c5
        have k4 := (HC.out _ HM.out).k4
        have q0 := HP.out.at 0 (.int .i64 po) rfl
        have q1 := HP.out.at 1 (.int .u8 ps) rfl
        have q2 := HP.out.at 2 (.int .i64 pn) rfl
        refine hK.out _ _ ⟨HM.out.c0, HM.out.c1, HM.out.c2, HM.out.c3, HM.out.c5, (HC.out _ HM.out).k4, HP.out.at 0 (.int .i64 po) rfl, HP.out.at 1 (.int .u8 ps) rfl, HP.out.at 2 (.int .i64 pn) rfl⟩ (fun hHeld => ?_)
        clear hK K
        refine no_ 33 ?_
        refine pu_ 17 16 1310719 ?_
        refine pu_ 18 34 1572863 ?_
        refine pu_ 19 35 2097151 ?_
        exact norm_ (by simp only [putAll, Act.put, List.setIfInBounds_toArray, List.set_cons_zero, List.set_cons_succ]) (hCont (wa.heap.size, A7, c7) _ ⟨HT.out, HSZ.out, HD.out⟩)
    · skip
      refine va_ ?_
      have hb := below_alloc (RowKit.Below.refl wd.heap.size wd) (.cells #[.int .i64 0, .int .i64 0, .int .i64 0] 103)
      have HT := Aside0.mk (Blk.new wd #[.int .i64 0, .int .i64 0, .int .i64 0] 103)
      have HSZ := Aside0.mk HD.out.size
      have n0_ := Aside0.mk (HM.out.below hb)
      have n1_ := Aside0.mk (HP.out.below hb)
      have n2_ := Aside0.mk (below_then HD.out HD.out.size hb)
      clear HM HP HD c0 c1 c2 c3 c5 k4 q0 q1 q2 hb
      have HM := n0_
      have HP := n1_
      have HD := n2_
      clear n0_ n1_ n2_
      have c0 := HM.out.c0
      have c1 := HM.out.c1
      have c2 := HM.out.c2
      have c3 := HM.out.c3
      have c5 := HM.out.c5
      have k4 := (HC.out _ HM.out).k4
      have q0 := HP.out.at 0 (.int .i64 po) rfl
      have q1 := HP.out.at 1 (.int .u8 ps) rfl
      have q2 := HP.out.at 2 (.int .i64 pn) rfl
      refine hK.out _ _ ⟨HM.out.c0, HM.out.c1, HM.out.c2, HM.out.c3, HM.out.c5, (HC.out _ HM.out).k4, HP.out.at 0 (.int .i64 po) rfl, HP.out.at 1 (.int .u8 ps) rfl, HP.out.at 2 (.int .i64 pn) rfl⟩ (fun hHeld => ?_)
      clear hK K
      refine no_ 13 ?_
      refine one_ (i := 15) (N := some 32) (bz 23 1114111) rfl rfl (by kernel_rfl) (by decide) (fun K hK => ?_)
      refine goes_ Tryz.func48 (by kernel_rfl) rfl #[.pointer (some ⟨a.hp, 0, none⟩), .int .i64 o] (by rfl) rfl rfl (by simp only [List.map_toArray, List.map_cons, List.map_nil]; rfl) ?_
      with_reducible refine (HAL.out _ HM.out).mono ?_
      rintro e_ wa ⟨A7, c7, rfl, hle, hC, hb⟩
      refine ⟨_, rfl, ?_⟩
      have HMY := Aside0.mk hC
      clear hle hC
      have n0_ := Aside0.mk (HM.out.below hb)
      have n1_ := Aside0.mk (HP.out.below hb)
      have n2_ := Aside0.mk (below_then HD.out HD.out.size hb)
      have n3_ := Aside0.mk (HT.out.below hb)
      clear HM HP HD HT c0 c1 c2 c3 c5 k4 q0 q1 q2 hb
      have HM := n0_
      have HP := n1_
      have HD := n2_
      have HT := n3_
      clear n0_ n1_ n2_ n3_
      have c0 := HM.out.c0
      have c1 := HM.out.c1
      have c2 := HM.out.c2
      have c3 := HM.out.c3
      have c5 := HM.out.c5
      have k4 := (HC.out _ HM.out).k4
      have q0 := HP.out.at 0 (.int .i64 po) rfl
      have q1 := HP.out.at 1 (.int .u8 ps) rfl
      have q2 := HP.out.at 2 (.int .i64 pn) rfl
      refine hK.out _ _ ⟨HM.out.c0, HM.out.c1, HM.out.c2, HM.out.c3, HM.out.c5, (HC.out _ HM.out).k4, HP.out.at 0 (.int .i64 po) rfl, HP.out.at 1 (.int .u8 ps) rfl, HP.out.at 2 (.int .i64 pn) rfl⟩ (fun hHeld => ?_)
      clear hK K
      refine no_ 32 ?_
      refine one_ (i := 16) (N := some 33) (bz 23 1179647) rfl rfl (by kernel_rfl) (by decide) (fun K hK => ?_)
      refine goes_ Tryz.func52 (by kernel_rfl) rfl #[.agg #[.int .i64 s.n, .int .i64 s.f, .slice a.A s.cs.length a.ca, .slice a.B s.ds.length a.cb], .agg #[.int .i64 po, .int .u8 ps, .int .i64 pn], .int .i64 j, .int .i64 c.cur, .slice A7 may.length c7] (by rfl) rfl rfl (by simp only [List.map_toArray, List.map_cons, List.map_nil]; rfl) ?_
      with_reducible refine (HND.out _ HM.out A7 c7 HMY.out).mono ?_
      rintro e_ wc ⟨rfl, hb⟩
      refine ⟨_, rfl, ?_⟩
      have n0_ := Aside0.mk (HM.out.below hb)
      have n1_ := Aside0.mk (HP.out.below hb)
      have n2_ := Aside0.mk (below_then HD.out HD.out.size hb)
      have n3_ := Aside0.mk (HT.out.below hb)
      have n4_ := Aside0.mk (Kd.C_below HMY.out hb)
      clear HM HP HD HT HMY c0 c1 c2 c3 c5 k4 q0 q1 q2 hb
      have HM := n0_
      have HP := n1_
      have HD := n2_
      have HT := n3_
      have HMY := n4_
      clear n0_ n1_ n2_ n3_ n4_
      have c0 := HM.out.c0
      have c1 := HM.out.c1
      have c2 := HM.out.c2
      have c3 := HM.out.c3
      have c5 := HM.out.c5
      have k4 := (HC.out _ HM.out).k4
      have q0 := HP.out.at 0 (.int .i64 po) rfl
      have q1 := HP.out.at 1 (.int .u8 ps) rfl
      have q2 := HP.out.at 2 (.int .i64 pn) rfl
      refine hK.out _ _ ⟨HM.out.c0, HM.out.c1, HM.out.c2, HM.out.c3, HM.out.c5, (HC.out _ HM.out).k4, HP.out.at 0 (.int .i64 po) rfl, HP.out.at 1 (.int .u8 ps) rfl, HP.out.at 2 (.int .i64 pn) rfl⟩ (fun hHeld => ?_)
      clear hK K
      refine no_ 33 ?_
      refine pu_ 17 16 1310719 ?_
      refine pu_ 18 34 1572863 ?_
      refine pu_ 19 35 2097151 ?_
      exact norm_ (by simp only [putAll, Act.put, List.setIfInBounds_toArray, List.set_cons_zero, List.set_cons_succ]) (hCont (wd.heap.size, A7, c7) _ ⟨HT.out, HSZ.out, HD.out⟩)
  rintro ⟨tb, A7, c7⟩ wj ⟨hT, hS, hD⟩
  have HT := Aside0.mk hT
  have HSB := Aside0.mk hS
  have hE := hD
  have n0_ := Aside0.mk (HM.out.below hD)
  have n1_ := Aside0.mk (HP.out.below hD)
  clear HM HP c0 c1 c2 c3 c5 k4 q0 q1 q2 hD
  have HM := n0_
  have HP := n1_
  clear n0_ n1_
  have c0 := HM.out.c0
  have c1 := HM.out.c1
  have c2 := HM.out.c2
  have c3 := HM.out.c3
  have c5 := HM.out.c5
  have k4 := (HC.out _ HM.out).k4
  have q0 := HP.out.at 0 (.int .i64 po) rfl
  have q1 := HP.out.at 1 (.int .u8 ps) rfl
  have q2 := HP.out.at 2 (.int .i64 pn) rfl
  have t0 := HT.out.at 0 (.int .i64 0) rfl
  have t1 := HT.out.at 1 (.int .i64 0) rfl
  have t2 := HT.out.at 2 (.int .i64 0) rfl
  have g0 := HT.out.fz 0
  have g1 := HT.out.fz 1
  have g2 := HT.out.fz 2
  have hHeld : wj.cell? ⟨m, 0, none⟩ = some (.int .i64 s.n) ∧ wj.cell? ⟨m, 1, none⟩ = some (.int .i64 s.f) ∧ wj.cell? ⟨m, 2, none⟩ = some (.slice a.A s.cs.length a.ca) ∧ wj.cell? ⟨m, 3, none⟩ = some (.slice a.B s.ds.length a.cb) ∧ wj.cell? ⟨m, 5, none⟩ = some (.pointer (some ⟨a.hp, 0, none⟩)) ∧ wj.cell? ⟨p, 4, none⟩ = some (.int .i64 c.cur) ∧ wj.cell? ⟨w.heap.size, 0, none⟩ = some (.int .i64 po) ∧ wj.cell? ⟨w.heap.size, 1, none⟩ = some (.int .u8 ps) ∧ wj.cell? ⟨w.heap.size, 2, none⟩ = some (.int .i64 pn) := ⟨HM.out.c0, HM.out.c1, HM.out.c2, HM.out.c3, HM.out.c5, (HC.out _ HM.out).k4, HP.out.at 0 (.int .i64 po) rfl, HP.out.at 1 (.int .u8 ps) rfl, HP.out.at 2 (.int .i64 pn) rfl⟩
  refine norm_ (a' := ?_) ?_ ?_
  rotate_left
  · simp only [putAll, Act.put, List.setIfInBounds_toArray, List.set_cons_zero, List.set_cons_succ]
    rfl
  refine last_ (i := 21) (N := none) (bz 23 4194303) rfl rfl (by kernel_rfl) (by decide) (fun K hK => ?_)
  refine skip_ (w1 := ?_) (by rfl) rfl ?_ ?_
  rotate_left
  · go_simp
    rfl
  refine hK.out _ _ ?_
  clear hK K
  refine pu_ 22 14 8388607 ?_
  refine done_ (by kernel_rfl) ?_
  have HTB := Aside0.mk (show κ1 tb = 0 from HKN.out tb (Nat.le_trans HU.out.chg.size hS))
  have hch3 : Chg (· = tb) wj (((wj.setCell ⟨tb, 0, none⟩ (.int .i64 (k : Int))).setCell ⟨tb, 1, none⟩ (.int .i64 (st : Int))).setCell ⟨tb, 2, none⟩ (.int .i64 cur')) := (((Chg.refl (· = tb) wj).set ⟨tb, 0, none⟩ (fun _ => rfl) _).set ⟨tb, 1, none⟩ (fun _ => rfl) _).set ⟨tb, 2, none⟩ (fun _ => rfl) _
  have HT3 := Aside0.mk (show BlkK κ1 0 (((wj.setCell ⟨tb, 0, none⟩ (.int .i64 (k : Int))).setCell ⟨tb, 1, none⟩ (.int .i64 (st : Int))).setCell ⟨tb, 2, none⟩ (.int .i64 cur')) tb #[.int .i64 (k : Int), .int .i64 (st : Int), .int .i64 cur'] 103 from ⟨HTB.out, ((hT.set 0 _).set 1 _).set 2 _⟩)
  have hU3 : Upd (· = 0) κ1 wj κ1 (((wj.setCell ⟨tb, 0, none⟩ (.int .i64 (k : Int))).setCell ⟨tb, 1, none⟩ (.int .i64 (st : Int))).setCell ⟨tb, 2, none⟩ (.int .i64 cur')) := ⟨fun _ _ => rfl, hch3.then (Chg.refl (fun b => b = tb) _) (fun b _ e => e) |> fun c => ⟨c.os, c.tape, c.output, c.size, fun b hb hne => c.block b hb (fun e => hne (by rw [e]; exact HTB.out))⟩⟩
  have HP3 := Aside0.mk (show BlkK κ1 0 (((wj.setCell ⟨tb, 0, none⟩ (.int .i64 (k : Int))).setCell ⟨tb, 1, none⟩ (.int .i64 (st : Int))).setCell ⟨tb, 2, none⟩ (.int .i64 cur')) w.heap.size #[.int .i64 po, .int .u8 ps, .int .i64 pn] 40 from ⟨HKN.out _ (Nat.le_refl _), HP.out.chg hch3 (fun e => by have := HP0.out.lt; have : w.heap.size = tb := e; have : wd.heap.size ≤ tb := hS; omega)⟩)
  have HM3 := Aside0.mk (HM.out.upd hU3 (fun c h1 e => by have e : c = 0 := e; omega))
  have htb : ¬ (tb < w.heap.size) := by have := HU.out.chg.size; have : wd.heap.size ≤ tb := hS; omega
  have HU3 := Aside0.mk ((((HU.out.below hE).set ⟨tb, 0, none⟩ (fun hh => absurd hh htb) (.int .i64 (k : Int))).set ⟨tb, 1, none⟩ (fun hh => absurd hh htb) (.int .i64 (st : Int))).set ⟨tb, 2, none⟩ (fun hh => absurd hh htb) (.int .i64 cur'))
  clear HM HP HT HSB HU hU3 hch3 hT hS hE htb c0 c1 c2 c3 c5 k4 q0 q1 q2 t0 t1 t2 g0 g1 g2 hHeld
  generalize (((wj.setCell ⟨tb, 0, none⟩ (.int .i64 (k : Int))).setCell ⟨tb, 1, none⟩ (.int .i64 (st : Int))).setCell ⟨tb, 2, none⟩ (.int .i64 cur')) = wz at *
  have t2 := HT3.out.blk.at 2 (.int .i64 cur') rfl
  have k4 := (HC.out _ HM3.out).k4
  have f4 := (HC.out _ HM3.out).f4
  have hU4 : Upd (fun z => 150 + 6 * j ≤ z ∧ z < 156 + 6 * j) κ1 wz κ1 (wz.setCell ⟨p, 4, none⟩ (.int .i64 cur')) := (Upd.refl _ _ _).set ⟨p, 4, none⟩ (fun _ => by show 150 + 6 * j ≤ κ1 p ∧ κ1 p < 156 + 6 * j; rw [(HC.out _ HM3.out).kol]; omega) _
  have HM4 := Aside0.mk (HM3.out.putCpu HPP.out HCC.out ((HC.out _ HM3.out).cursor cur') hU4)
  have HP4 := Aside0.mk (HP3.out.upd hU4 (by omega))
  have HT4 := Aside0.mk (HT3.out.upd hU4 (by omega))
  have HU4 := Aside0.mk (HU3.out.then hU4 (fun c e => by omega))
  go_upto_region 5 with fail
  clear HM3 HP3 HT3 HU3 hU4 t2 k4 f4
  generalize wz.setCell ⟨p, 4, none⟩ (.int .i64 cur') = wy at *
  have c5 := HM4.out.c5
  have t0 := HT4.out.blk.at 0 (.int .i64 (k : Int)) rfl
  have HTK := Aside0.mk (fun (W : World) (hW : HeapK κ1 16 W a.hp s.f s.mn s.lo s.hi s.bs) => heap_take κ1 16 a.hp s.f s.mn s.lo s.hi s.bs k o K y r x HX.out HBL.out hmn HT0.out.le HT0.out.lt HT0.out.hd HT0.out.min HT0.out.ok HT0.out.c HT0.out.may W hW)
  refine st_ 13 (fun w' => w'.cell? ⟨m, 5, none⟩ = some (.pointer (some ⟨a.hp, 0, none⟩)) ∧ w'.cell? ⟨tb, 0, none⟩ = some (.int .i64 (k : Int))) [7] ⟨c5, t0⟩ (fun hHeld => ?_)
  have hd_ := below_drew (RowKit.Below.refl wy.heap.size wy)
  have n0_ := Aside0.mk (HM4.out.below hd_)
  have n1_ := Aside0.mk (HP4.out.below hd_)
  have n2_ := Aside0.mk (HT4.out.below hd_)
  have n3_ := Aside0.mk (HU4.out.below hd_)
  clear HM4 HP4 HT4 HU4 c5 t0 hd_
  have HM4 := n0_
  have HP4 := n1_
  have HT4 := n2_
  have HU4 := n3_
  clear n0_ n1_ n2_ n3_
  have c5 := HM4.out.c5
  have t0 := HT4.out.blk.at 0 (.int .i64 (k : Int)) rfl
  generalize wy.drew = wd2 at *
  refine pu_ 0 45 1 ?_
  refine pu_ 1 46 3 ?_
  refine pu_ 2 47 7 ?_
  refine pu_ 4 49 23 ?_
  refine pu_ 6 51 87 ?_
  refine ta_ 3 48 95 hHeld ?_
  refine ta_ 5 50 127 hHeld ?_
  refine last_ (i := 7) (N := some 52) (bz 13 255) rfl rfl (by kernel_rfl) (by decide) (fun K hK => ?_)
  refine goes_ Tryz.func101 (by kernel_rfl) rfl #[.pointer (some ⟨a.hp, 0, none⟩), .int .i64 k, .int .i64 o] (by rfl) rfl rfl (by simp only [List.map_toArray, List.map_cons, List.map_nil]; rfl) ?_
  with_reducible refine (HTK.out _ HM4.out.hp).mono ?_
  rintro e_ w5 ⟨rfl, q1_, q2_⟩
  refine ⟨_, rfl, ?_⟩
  have HQ := Aside0.mk (And.intro q1_ q2_)
  clear q1_ q2_
  refine hK.out _ _ ?_
  clear hK K
  refine no_ 52 ?_
  refine pu_ 8 44 511 ?_
  refine pu_ 9 53 1023 ?_
  refine pu_ 10 54 2047 ?_
  refine pu_ 11 15 4095 ?_
  refine pu_ 12 14 8191 ?_
  refine done_ (by kernel_rfl) ?_
  have hkl := (List.getElem?_eq_some_iff.1 HX.out).1
  have hk8 : k < 8 := Nat.lt_of_lt_of_le hkl HBL.out
  have hU5 : Upd (fun z => 16 ≤ z ∧ z < 124) κ1 wd2 κ1 w5 := HQ.out.2.mono (fun c e => by omega)
  have HM5 := Aside0.mk (HM4.out.putHeap _ (by rw [List.length_set]; exact HBL.out) HQ.out.1 hU5)
  have HP5 := Aside0.mk (HP4.out.upd hU5 (by omega))
  have HT5 := Aside0.mk (HT4.out.upd hU5 (by omega))
  have HU5 := Aside0.mk (HU4.out.then hU5 (fun c e => by omega))
  have HC5 := Aside0.mk (show ∀ W s', s'.cpus = s.cpus.set j { c with cur := cur' } → MachK κ1 W m a s' → W.cell? ⟨p, 0, none⟩ = some (.int .i64 (ow : Int)) from fun W s' he hW => by
    have hc' : s'.cpus[j]? = some { c with cur := cur' } := by rw [he, List.getElem?_set, if_pos rfl, if_pos (List.getElem?_eq_some_iff.1 HCC.out).1]
    have := (hW.cpuK HPP.out hc').k0
    rw [show ({ c with cur := cur' } : Cpu).node = c.node from rfl, hnode] at this
    exact this)
  clear HM4 HP4 HT4 HU4 HQ hU5 hHeld c5 t0
  have HAD := Aside0.mk (fun (W : World) (hW : LogK κ1 8 W a.lg s.n s.ev s.cn) => log_add κ1 8 a.lg s.n s.ev s.cn ⟨k, st, ow, po == 2⟩ HJ.out.2.2.1 HJ.out.2.1 HJ.out.1.2 HJ.out.1.1 HJ.out.2.2.2 W hW)
  go_upto_region 8 with fail
  have c8 := HM5.out.c8
  have t0 := HT5.out.blk.at 0 (.int .i64 (k : Int)) rfl
  have t1 := HT5.out.blk.at 1 (.int .i64 (st : Int)) rfl
  have k0 := HC5.out _ _ rfl HM5.out
  have q0 := HP5.out.blk.at 0 (.int .i64 po) rfl
  refine st_ 17 (fun w' => w'.cell? ⟨m, 8, none⟩ = some (.pointer (some ⟨a.lg, 0, none⟩)) ∧ w'.cell? ⟨tb, 0, none⟩ = some (.int .i64 (k : Int)) ∧ w'.cell? ⟨tb, 1, none⟩ = some (.int .i64 (st : Int)) ∧ w'.cell? ⟨p, 0, none⟩ = some (.int .i64 (ow : Int)) ∧ w'.cell? ⟨w.heap.size, 0, none⟩ = some (.int .i64 po)) [16] ⟨c8, t0, t1, k0, q0⟩ (fun hHeld => ?_)
  have hd_ := below_drew (RowKit.Below.refl w5.heap.size w5)
  have n0_ := Aside0.mk (HM5.out.below hd_)
  have n1_ := Aside0.mk (HP5.out.below hd_)
  have n2_ := Aside0.mk (HT5.out.below hd_)
  have n3_ := Aside0.mk (HU5.out.below hd_)
  clear HM5 HP5 HT5 HU5 c8 t0 t1 k0 q0 hd_
  have HM5 := n0_
  have HP5 := n1_
  have HT5 := n2_
  have HU5 := n3_
  clear n0_ n1_ n2_ n3_
  have c8 := HM5.out.c8
  have t0 := HT5.out.blk.at 0 (.int .i64 (k : Int)) rfl
  have t1 := HT5.out.blk.at 1 (.int .i64 (st : Int)) rfl
  have k0 := HC5.out _ _ rfl HM5.out
  have q0 := HP5.out.blk.at 0 (.int .i64 po) rfl
  generalize w5.drew = wd3 at *
  refine pu_ 0 58 1 ?_
  refine pu_ 1 59 3 ?_
  refine pu_ 2 60 7 ?_
  refine pu_ 4 62 23 ?_
  refine pu_ 6 64 87 ?_
  refine pu_ 8 66 343 ?_
  refine pu_ 9 67 855 ?_
  refine pu_ 10 68 1879 ?_
  refine pu_ 12 70 5975 ?_
  refine ta_ 3 61 5983 hHeld ?_
  refine ta_ 5 63 6015 hHeld ?_
  refine ta_ 7 65 6143 hHeld ?_
  refine ta_ 11 69 8191 hHeld ?_
  refine ta_ 13 71 16383 hHeld ?_
  refine pu_ 14 72 32767 ?_
  refine pu_ 15 73 65535 ?_
  refine last_ (i := 16) (N := some 74) (bz 17 131071) rfl rfl (by kernel_rfl) (by decide) (fun K hK => ?_)
  refine goes_ Tryz.func54 (by kernel_rfl) rfl #[.pointer (some ⟨a.lg, 0, none⟩), .agg #[.int .i64 k, .int .i64 st, .int .i64 ow, .bool (po == 2)]] (by rfl) rfl rfl (by simp only [List.map_toArray, List.map_cons, List.map_nil]; rfl) ?_
  with_reducible refine (HAD.out _ HM5.out.lg).mono ?_
  rintro e_ w6 ⟨rfl, q1_⟩
  refine ⟨_, rfl, ?_⟩
  have HR := Aside0.mk q1_
  clear q1_
  refine hK.out _ _ ?_
  clear hK K
  refine no_ 74 ?_
  refine done_ (by kernel_rfl) ?_
  obtain ⟨κ2, g1, g2⟩ := HR.out
  have HM6 := Aside0.mk (HM5.out.putLog _ _ g1 g2)
  have HT6 := Aside0.mk (HT5.out.upd g2 (by omega))
  have HU6 := Aside0.mk (HU5.out.then g2 (fun c e => by omega))
  have t0 := HT6.out.blk.at 0 (.int .i64 (k : Int)) rfl
  clear HM5 HP5 HT5 HU5 HR g1 g2 hHeld
  go_upto_region 9 with fail
  have hd_ := below_drew (RowKit.Below.refl w6.heap.size w6)
  refine st_ 6 (fun w' => w'.cell? ⟨tb, 0, none⟩ = some (.int .i64 (k : Int))) [] (t0) (fun hHeld => ?_)
  refine pu_ 0 75 1 ?_
  refine pu_ 1 76 3 ?_
  refine pu_ 3 10 11 ?_
  refine ta_ 2 77 15 hHeld ?_
  refine pu_ 4 11 31 ?_
  refine pu_ 5 12 63 ?_
  refine done_ (by kernel_rfl) ?_
  go_wp2_with fail
  go_ret3
  exact ⟨rfl, κ2, HM6.out.below hd_, HU6.out.below hd_⟩
end Go.Proofs.YtenkdmloolbdaaaGreatDoor.T
end
