import Derived.Test.YtenkdmloolbdaaaGreatDoorE26
import Derived.Test.YtenkdmloolbdaaaGreatDoorE04
import Derived.Test.YtenkdmloolbdaaaGreatDoorE16
import Derived.Test.YtenkdmloolbdaaaGreatDoorE23
set_option linter.unusedVariables false
set_option linter.unusedSimpArgs false
set_option maxHeartbeats 8000000
set_option maxRecDepth 100000
section
namespace Go.Proofs.YtenkdmloolbdaaaGreatDoor.T
open Go.RowKit Go.Maps Go.WideShapes Go.Proofs.YtenkdmloolbdaaaGreatDoorW.PrintWords Go.Proofs.YtenkdmloolbdaaaGreatDoorW.PrintLast Go.Proofs.YtenkdmloolbdaaaGreatDoorW.PrintMore
abbrev mC (n f : Nat) (v2 v3 v4 v5 v6 v7 v8 v9 v10 v11 v12 : Value) : Array Value := #[.int .i64 n, .int .i64 f, v2, v3, v4, v5, v6, v7, v8, v9, v10, v11, v12]
theorem Upd.fresh {κ κ' : Kol} {w w' : World} (h1 : ∀ x, x < w.heap.size → κ' x = κ x) (h2 : RowKit.Below w.heap.size w w') : Upd (fun _ => False) κ w κ' w' := ⟨h1, Chg.of_below h2⟩
theorem parts_own (κ : Kol) (m n f : Nat) (v2 v3 v5 v6 v9 v10 v11 v12 : Value) (h1 : 1 ≤ n) (h8 : n ≤ 8) (f1 : 1 ≤ f) (f2 : f ≤ 1024) (w : World) (h : BlkK κ 1 w m (mC n f v2 v3 (.pointer none) v5 v6 (.pointer none) (.pointer none) v9 v10 v11 v12) 129) :
 Calls Tryz.prog 85 #[.pointer (some ⟨m, 0, none⟩)] w fun e w' => e = .returned (.int .i64 0) ∧ ∃ κ' mem bk lg, BlkK κ' 1 w' m (mC n f v2 v3 (.pointer (some ⟨mem, 0, none⟩)) v5 v6 (.pointer (some ⟨bk, 0, none⟩)) (.pointer (some ⟨lg, 0, none⟩)) v9 v10 v11 v12) 129 ∧ MemK κ' 3 w' mem f (n * f) (List.replicate (n * f * 64) 0) 0 (fun _ => none) (fun _ => none) ∧ BookK κ' w' bk n (fun _ => none) ∧ LogK κ' 8 w' lg n [] (List.replicate (n * 6) 0) ∧ Upd (· = 1) κ w κ' w' := by
 have HB := ak h
 have c0 := h.blk.at 0 (.int .i64 (n : Int)) rfl
 have c1 := h.blk.at 1 (.int .i64 (f : Int)) rfl
 have HU := ak (Upd.refl (· = 1) κ w)
 clear h
 go_enter Tryz.func85, Tryz.ntmps85
 go_upto_region 1 with fail
 refine st_ 16 (fun w' => w'.cell? ⟨m, 0, none⟩ = some (.int .i64 (n : Int)) ∧ w'.cell? ⟨m, 1, none⟩ = some (.int .i64 (f : Int))) [10] ⟨c0, c1⟩ (fun hHeld => ?_)
 have hd_ := below_drew (RowKit.Below.refl w.heap.size w)
 have n0_ := ak (HB.1.below hd_)
 have n1_ := ak (HU.1.below hd_)
 clear HB HU c0 c1 hd_
 have HB := n0_
 have HU := n1_
 clear n0_ n1_
 have c0 := HB.1.blk.at 0 (.int .i64 (n : Int)) rfl
 have c1 := HB.1.blk.at 1 (.int .i64 (f : Int)) rfl
 generalize w.drew = wd at *
 refine pu_ 0 6 1 ?_
 refine pu_ 1 7 3 ?_
 refine pu_ 2 8 7 ?_
 refine pu_ 3 9 15 ?_
 refine pu_ 5 11 47 ?_
 refine pu_ 6 12 111 ?_
 refine pu_ 7 13 239 ?_
 refine pu_ 8 14 495 ?_
 refine ta_ 4 10 511 hHeld ?_
 refine ta_ 9 15 1023 hHeld ?_
 refine last_ (i := 10) (N := some 16) (bz 16 2047) rfl rfl (by kernel_rfl) (by decide) (fun K hK => ?_)
 refine goes_ Tryz.func139 (by kernel_rfl) rfl #[.int .i64 n, .int .i64 f] (by rfl) rfl rfl (by simp only [List.map_toArray, List.map_cons, List.map_nil]; rfl) ?_
 with_reducible refine (frames_new κ 4 n f h1 h8 f1 f2 _).mono ?_
 rintro e_ w1 ⟨κ1, fb, rfl, q1_⟩
 refine ⟨_, rfl, ?_⟩
 have HR := ak q1_
 clear q1_
 refine hK.out _ _ ?_
 clear hK K
 refine no_ 16 ?_
 refine pu_ 11 5 4095 ?_
 refine pu_ 12 17 8191 ?_
 refine pu_ 13 18 16383 ?_
 refine pu_ 14 3 32767 ?_
 refine pu_ 15 4 65535 ?_
 refine done_ (by kernel_rfl) ?_
 obtain ⟨q1, q2, q3, q4⟩ := HR.1
 have hU1 := Upd.fresh q3 q4
 have HB1 := ak (HB.1.upd hU1 (fun h => h))
 have HU1 := ak (HU.1.then hU1 (fun c h => h.elim))
 have HMN := ak (mem_new κ1 3 fb f (n * f) (List.replicate (n * f * 64) 0) w1 q1)
 have c4 := HB1.1.blk.at 4 (.pointer none) rfl
 have f4 := HB1.1.blk.fz 4
 clear HR hHeld q1 q2 q3 q4 hU1 HB HU c0 c1
 go_upto_region 5 with (go_at_call 140; (with_reducible refine HMN.1.mono ?_); rintro e_ w2 ⟨κ2, mb, rfl, q1, q2, q3, q4⟩; have hU2 := Upd.fresh q3 q4; have HB2 := ak (HB1.1.upd hU2 (fun h => h)); have HU2 := ak (HU1.1.then hU2 (fun c h => h.elim)); have HM2 := ak q1; clear hU2 q1 q2 q3 q4 c4 f4; have c4 := HB2.1.blk.at 4 (.pointer none) rfl; have f4 := HB2.1.blk.fz 4)
 have hS1 := (HB2.1.set 4 (.pointer (some ⟨mb, 0, none⟩)))
 have hV1 : Upd (· = 1) κ2 w2 κ2 (w2.setCell ⟨m, 4, none⟩ (.pointer (some ⟨mb, 0, none⟩))) := (Upd.refl _ _ _).set ⟨m, 4, none⟩ (fun _ => HB2.1.kol) _
 have HB3 := ak hS1
 have HM3 := ak (HM2.1.upd hV1 (by omega))
 have HU3 := ak (HU2.1.then hV1 (fun _ h => h))
 clear hS1 hV1 HB2 HM2 HU2 c4 f4 HB1 HU1
 generalize w2.setCell ⟨m, 4, none⟩ (.pointer (some ⟨mb, 0, none⟩)) = w3 at *
 have c0 := HB3.1.blk.at 0 (.int .i64 (n : Int)) rfl
 have hbn := book_new n h1 h8
 have HBN := ak hbn
 clear hbn
 go_upto_region 8 with (go_at_call 141; (with_reducible refine (HBN.1 _).mono ?_); rintro e_ w4 ⟨rfl, h4⟩; have hU4 : Upd (fun _ => False) κ2 w3 (fun x => if x < w3.heap.size then κ2 x else if x = w3.heap.size then 12 else 11) w4 := ⟨fun b hb => if_pos hb, Chg.of_below (by rw [h4]; exact below_alloc (below_alloc (RowKit.Below.refl _ _) _) _)⟩; have HB4 := ak (HB3.1.upd hU4 (fun h => h)); have HM4 := ak (HM3.1.upd hU4 (fun _ _ h => h)); have HU4 := ak (HU3.1.then hU4 (fun c h => h.elim)); have H4 := ak (show BookK (fun x => if x < w3.heap.size then κ2 x else if x = w3.heap.size then 12 else 11) w4 (w3.heap.size + 1) n (fun _ => none) from by rw [h4]; exact ⟨w3.heap.size, ⟨by show (if w3.heap.size + 1 < w3.heap.size then _ else _) = _; rw [if_neg (by omega), if_neg (by omega)], Blk.new1 w3 _ _ _⟩, (MapB.made (by show (if w3.heap.size < w3.heap.size then _ else _) = _; rw [if_neg (by omega), if_pos rfl])).below (below_alloc (RowKit.Below.refl _ _) _)⟩); have c7 := HB4.1.blk.at 7 (.pointer none) rfl; have f7 := HB4.1.blk.fz 7; clear h4 hU4 c0)
 obtain ⟨κ4, hκ4⟩ : ∃ κ4, (fun x => if x < w3.heap.size then κ2 x else if x = w3.heap.size then 12 else 11 : Kol) = κ4 := ⟨_, rfl⟩
 rw [hκ4] at HB4 HM4 HU4 H4
 clear hκ4
 obtain ⟨bk, hbk⟩ : ∃ bk, w3.heap.size + 1 = bk := ⟨_, rfl⟩
 rw [hbk] at H4 ⊢
 clear hbk
 have hV4 : Upd (· = 1) κ4 w4 κ4 (w4.setCell ⟨m, 7, none⟩ (.pointer (some ⟨bk, 0, none⟩))) := (Upd.refl _ _ _).set ⟨m, 7, none⟩ (fun _ => HB4.1.kol) _
 have HB5 := ak (HB4.1.set 7 (.pointer (some ⟨bk, 0, none⟩)))
 have HM5 := ak (HM4.1.upd hV4 (by omega))
 have HK5 := ak (H4.1.upd hV4 (by omega) (by omega))
 have HU5 := ak (HU4.1.then hV4 (fun _ h => h))
 clear hV4 HB4 HM4 H4 HU4 c7 f7 HB3 HM3 HU3
 generalize w4.setCell ⟨m, 7, none⟩ (.pointer (some ⟨bk, 0, none⟩)) = w5 at *
 have c0 := HB5.1.blk.at 0 (.int .i64 (n : Int)) rfl
 have HLN := ak (log_new κ4 8 n h1 h8 w5)
 go_upto_region 11 with (go_at_call 142; (with_reducible refine HLN.1.mono ?_); rintro e_ w6 ⟨κ6, lg, rfl, q1, q2, q3, q4⟩; have hU6 := Upd.fresh q3 q4; have HB6 := ak (HB5.1.upd hU6 (fun h => h)); have HM6 := ak (HM5.1.upd hU6 (fun _ _ h => h)); have HK6 := ak (HK5.1.upd hU6 (fun h => h) (fun h => h)); have HU6 := ak (HU5.1.then hU6 (fun c h => h.elim)); have HL6 := ak q1; have c8 := HB6.1.blk.at 8 (.pointer none) rfl; have f8 := HB6.1.blk.fz 8; clear q1 q2 q3 q4 hU6 c0)
 have hV6 : Upd (· = 1) κ6 w6 κ6 (w6.setCell ⟨m, 8, none⟩ (.pointer (some ⟨lg, 0, none⟩))) := (Upd.refl _ _ _).set ⟨m, 8, none⟩ (fun _ => HB6.1.kol) _
 go_wp2_with fail
 go_ret
 exact ⟨rfl, κ6, mb, bk, lg, HB6.1.set 8 _, HM6.1.upd hV6 (by omega), HK6.1.upd hV6 (by omega) (by omega), HL6.1.upd hV6 (by omega), HU6.1.then hV6 (fun _ h => h)⟩
theorem cache_new (w : World) : Calls Tryz.prog 86 #[] w fun e w' => e = .returned (.pointer (some ⟨w.heap.size, 0, none⟩)) ∧ w' = w.alloc (.cells #[.slice none 0 0, .slice none 0 0, .slice none 0 0, .slice none 0 0] 224) := by
 go_enter Tryz.func86, Tryz.ntmps86
 go_wp2_with fail
 go_ret
 exact ⟨rfl, rfl⟩
def newCpu (x : Int) : Cpu := ⟨x, 0, 0, 0, 0, fun _ => []⟩
def newS (n f : Nat) (cs : List Int) (ds : List (List Int)) (mn lo hi : Int) : St :=
 { n := n, f := f, cs := cs, ds := ds, mn := mn, lo := lo, hi := hi, bs := List.replicate n (newBud f), l := List.replicate (n * f * 64) 0, pn := 0, pf := fun _ => none, pg := fun _ => none, ev := [], cn := List.replicate (n * 6) 0, rs := [], cpus := cs.map newCpu, qs := List.replicate n [], sn := 0, sp := fun _ => none, ln := 0, live := fun _ => none, bm := fun _ => none }
def midS (s : St) (j q : Nat) : St := { s with cpus := s.cpus.take j, qs := List.replicate q [] }
structure Mid (w : World) (s : St) (A0 B0 : Option Addr) (ca cb : Nat) (κ : Kol) (wr : World) (m : Nat) (a : Ad) (j q : Nat) : Prop where
 mach : MachK κ wr m a (midS s j q)
 cvb : ∀ g, a.cv.ownBlock = some g → w.heap.size ≤ g
 qvb : ∀ g, a.qv.ownBlock = some g → w.heap.size ≤ g
 old : ∀ b, b < w.heap.size → κ b = 0
 top : BlkK κ 0 wr w.heap.size #[.int .i64 s.n, .int .i64 s.f, .slice A0 s.cs.length ca, .slice B0 s.ds.length cb] 37
 bel : RowKit.Below w.heap.size w wr
 mb : w.heap.size ≤ m
section
variable {w : World} {s : St} {A0 B0 : Option Addr} {ca cb : Nat} {κ κ' : Kol} {W w1 : World} {m : Nat} {a : Ad} {j q : Nat}
theorem Mid.fresh (h : Mid w s A0 B0 ca cb κ W m a j q) (hU : Upd (fun _ => False) κ W κ' w1) (hB : RowKit.Below W.heap.size W w1) : Mid w s A0 B0 ca cb κ' w1 m a j q :=
 ⟨h.mach.upd hU (fun _ _ h => h), h.cvb, h.qvb, fun b hb => (hU.kol b (Nat.lt_of_lt_of_le hb h.bel.size)).trans (h.old b hb), h.top.upd hU (fun h => h), below_then h.bel h.bel.size hB, h.mb⟩
theorem Mid.addCpu (h : Mid w s A0 B0 ca cb κ W m a j 0) (hs : s.cpus = s.cs.map newCpu) (h16 : s.cs.length ≤ 16) (x : Int) (hx : s.cs[j]? = some x) (pn : Nat) (hc : CpuK κ (150 + 6 * j) W pn (newCpu x)) (A7 : Option Addr) (c7 : Nat)
 (hR : pk.R 117 w1 0 (fun k => κ.ext W.heap.size 124 k = 124) (.slice A7 (a.cps.length + 1) c7) (a.cps ++ [pn])) (hg : W.grownBy w1 a.cv.ownBlock) (hat : (Value.slice A7 (a.cps.length + 1) c7).ownBlock = a.cv.ownBlock ∨ ∃ b, (Value.slice A7 (a.cps.length + 1) c7).ownBlock = some b ∧ W.heap.size ≤ b) :
 Mid w s A0 B0 ca cb (κ.ext W.heap.size 124) (w1.setCell ⟨m, 9, none⟩ (.slice A7 (a.cps.length + 1) c7)) m { a with cv := .slice A7 (a.cps.length + 1) c7, cps := a.cps ++ [pn] } (j + 1) 0 := by
 obtain ⟨hm, h2, h3, h4, h5, h6, h7⟩ := h
 obtain ⟨k1, k2, k3⟩ := hm.cpus
 have hU : Upd (· = 124) κ W (κ.ext W.heap.size 124) w1 := k1.upd_grown hg
 have hb := hm.box.upd hU (by omega)
 have hV : Upd (· = 1) (κ.ext W.heap.size 124) w1 (κ.ext W.heap.size 124) (w1.setCell ⟨m, 9, none⟩ (.slice A7 (a.cps.length + 1) c7)) := (Upd.refl _ _ _).set ⟨m, 9, none⟩ (fun _ => hb.kol) _
 have hT : Upd (fun z => z = 124 ∨ z = 1) κ W (κ.ext W.heap.size 124) (w1.setCell ⟨m, 9, none⟩ (.slice A7 (a.cps.length + 1) c7)) := (hU.mono (fun c e => Or.inl e)).then hV (fun c e => Or.inr e)
 have hjl : j < s.cs.length := (List.getElem?_eq_some_iff.1 hx).1
 have htk : s.cpus.take (j + 1) = s.cpus.take j ++ [newCpu x] := by rw [List.take_add_one, hs, List.getElem?_map, hx]; rfl
 have hjn : (s.cpus.take j).length = j := by rw [List.length_take, hs, List.length_map]; omega
 have hk2 : a.cps.length = j := by rw [k2]; exact hjn
 have hbox : BlkK (κ.ext W.heap.size 124) 1 (w1.setCell ⟨m, 9, none⟩ (.slice A7 (a.cps.length + 1) c7)) m (boxC { a with cv := .slice A7 (a.cps.length + 1) c7, cps := a.cps ++ [pn] } (midS s (j + 1) 0)) 129 := hb.set 9 _
 have hcpu : CpusK (κ.ext W.heap.size 124) (w1.setCell ⟨m, 9, none⟩ (.slice A7 (a.cps.length + 1) c7)) (.slice A7 (a.cps.length + 1) c7) (a.cps ++ [pn]) (s.cpus.take (j + 1)) := by
  refine ⟨KR.upd (κ := κ.ext W.heap.size 124) hR hV (by omega), by rw [htk]; simp [k2, midS], fun q c hq => ?_⟩
  rw [htk] at hq
  rcases Nat.lt_or_ge q j with h1 | h1
  ·rw [List.getElem?_append_left (by omega)] at hq
   obtain ⟨p, e1, e2⟩ := k3 q c hq
   exact ⟨p, by rw [List.getElem?_append_left (by omega)]; exact e1, e2.upd hT (fun c hc => by omega)⟩
  ·have hql := (List.getElem?_eq_some_iff.1 hq).1
   rw [List.length_append, List.length_singleton] at hql
   obtain rfl : q = j := by omega
   rw [List.getElem?_append_right (by omega), hjn, Nat.sub_self] at hq
   obtain rfl := Option.some.inj hq
   exact ⟨pn, by rw [List.getElem?_append_right (by omega), hk2, Nat.sub_self]; rfl, hc.upd hT (fun c hc => by omega)⟩
 refine ⟨⟨hbox, hm.cs.upd hT (by omega), hm.ds.upd hT (by omega), hm.mem.upd hT (fun c hc => by omega), hm.lg.upd hT (fun c hc => by omega), hm.bk.upd hT (by omega) (by omega), hm.spc.upd hT (fun c hc => by omega), hm.hp.upd hT (fun c hc => by have := hm.hbs; omega), hcpu, hm.qs.upd hT (fun c h1 h2 => by have h3 : (midS s j 0).qs.length = 0 := rfl; omega), hm.sp.upd hT (by omega) (fun c hc => by omega), hm.live.upd hT (by omega), hm.hbs, by show (s.cpus.take (j + 1)).length ≤ 16; rw [List.length_take, hs, List.length_map]; omega, hm.hqs⟩, fun g hg2 => ?_, h3, fun b hb2 => (Kol.ext_old κ (Nat.lt_of_lt_of_le hb2 h6.size)).trans (h4 b hb2), h5.upd hT (by omega), RowKit.Below.setCell (p := ⟨m, 9, none⟩) (h6.grown hg h6.size (fun k e => h2 k e)) h7 _, h7⟩
 rcases hat with e | ⟨b, e, hb9⟩
 ·exact h2 g (by rw [← e]; exact hg2)
 ·have hg2 : (Value.slice A7 (a.cps.length + 1) c7).ownBlock = some g := hg2
  rw [e] at hg2
  obtain rfl := Option.some.inj hg2
  exact Nat.le_trans h6.size hb9
theorem Mid.addQue (h : Mid w s A0 B0 ca cb κ W m a j q) (h8 : q < 8) (pn : Nat) (hc : QueK κ (126 + 2 * q) W pn []) (A7 : Option Addr) (c7 : Nat)
 (hR : pk.R 133 w1 0 (fun k => κ.ext W.heap.size 125 k = 125) (.slice A7 (a.qps.length + 1) c7) (a.qps ++ [pn])) (hg : W.grownBy w1 a.qv.ownBlock) (hat : (Value.slice A7 (a.qps.length + 1) c7).ownBlock = a.qv.ownBlock ∨ ∃ b, (Value.slice A7 (a.qps.length + 1) c7).ownBlock = some b ∧ W.heap.size ≤ b) :
 Mid w s A0 B0 ca cb (κ.ext W.heap.size 125) (w1.setCell ⟨m, 10, none⟩ (.slice A7 (a.qps.length + 1) c7)) m { a with qv := .slice A7 (a.qps.length + 1) c7, qps := a.qps ++ [pn] } j (q + 1) := by
 obtain ⟨hm, h2, h3, h4, h5, h6, h7⟩ := h
 obtain ⟨k1, k2, k3⟩ := hm.qs
 have hU : Upd (· = 125) κ W (κ.ext W.heap.size 125) w1 := k1.upd_grown hg
 have hb := hm.box.upd hU (by omega)
 have hV : Upd (· = 1) (κ.ext W.heap.size 125) w1 (κ.ext W.heap.size 125) (w1.setCell ⟨m, 10, none⟩ (.slice A7 (a.qps.length + 1) c7)) := (Upd.refl _ _ _).set ⟨m, 10, none⟩ (fun _ => hb.kol) _
 have hT : Upd (fun z => z = 125 ∨ z = 1) κ W (κ.ext W.heap.size 125) (w1.setCell ⟨m, 10, none⟩ (.slice A7 (a.qps.length + 1) c7)) := (hU.mono (fun c e => Or.inl e)).then hV (fun c e => Or.inr e)
 have hk2 : a.qps.length = q := by rw [k2]; exact List.length_replicate
 have hbox : BlkK (κ.ext W.heap.size 125) 1 (w1.setCell ⟨m, 10, none⟩ (.slice A7 (a.qps.length + 1) c7)) m (boxC { a with qv := .slice A7 (a.qps.length + 1) c7, qps := a.qps ++ [pn] } (midS s j (q + 1))) 129 := hb.set 10 _
 have hque : QuesK (κ.ext W.heap.size 125) (w1.setCell ⟨m, 10, none⟩ (.slice A7 (a.qps.length + 1) c7)) (.slice A7 (a.qps.length + 1) c7) (a.qps ++ [pn]) (List.replicate (q + 1) []) := by
  refine ⟨KR.upd (κ := κ.ext W.heap.size 125) hR hV (by omega), by simp [hk2], fun i c hi => ?_⟩
  rw [List.getElem?_replicate] at hi
  split at hi
  ·rename_i hlt
   obtain rfl := Option.some.inj hi
   rcases Nat.lt_or_ge i q with h1 | h1
   ·obtain ⟨p, e1, e2⟩ := k3 i [] (by show (List.replicate q ([] : List Int))[i]? = _; rw [List.getElem?_replicate, if_pos h1])
    exact ⟨p, by rw [List.getElem?_append_left (by omega)]; exact e1, e2.upd hT (fun c hc => by omega)⟩
   ·obtain rfl : i = q := by omega
    exact ⟨pn, by rw [List.getElem?_append_right (by omega), hk2, Nat.sub_self]; rfl, hc.upd hT (fun c hc => by omega)⟩
  ·simp at hi
 refine ⟨⟨hbox, hm.cs.upd hT (by omega), hm.ds.upd hT (by omega), hm.mem.upd hT (fun c hc => by omega), hm.lg.upd hT (fun c hc => by omega), hm.bk.upd hT (by omega) (by omega), hm.spc.upd hT (fun c hc => by omega), hm.hp.upd hT (fun c hc => by have := hm.hbs; omega), hm.cpus.upd hT (by omega) (fun c h1 h2 => by omega), hque, hm.sp.upd hT (by omega) (fun c hc => by omega), hm.live.upd hT (by omega), hm.hbs, hm.hcp, by show (List.replicate (q + 1) ([] : List Int)).length ≤ 8; rw [List.length_replicate]; omega⟩, h2, fun g hg2 => ?_, fun b hb2 => (Kol.ext_old κ (Nat.lt_of_lt_of_le hb2 h6.size)).trans (h4 b hb2), h5.upd hT (by omega), RowKit.Below.setCell (p := ⟨m, 10, none⟩) (h6.grown hg h6.size (fun k e => h3 k e)) h7 _, h7⟩
 rcases hat with e | ⟨b, e, hb9⟩
 ·exact h3 g (by rw [← e]; exact hg2)
 ·have hg2 : (Value.slice A7 (a.qps.length + 1) c7).ownBlock = some g := hg2
  rw [e] at hg2
  obtain rfl := Option.some.inj hg2
  exact Nat.le_trans h6.size hb9
end
theorem que_new (κ : Kol) (w : World) (q : Nat) : QueK (fun x => if x < w.heap.size then κ x else if x = w.heap.size then 126 + 2 * q + 1 else 126 + 2 * q) (126 + 2 * q) ((w.alloc (.chan 16 #[] false 0 0 false)).alloc (.cells #[.chan (some w.heap.size)] 227)) (w.heap.size + 1) [] := by
 refine ⟨w.heap.size, 0, 0, ⟨?_, Blk.new1 w _ _ _⟩, ?_, ((below_alloc (RowKit.Below.refl _ _) _).block w.heap.size ?_).trans (heap_alloc_new _ _)⟩
 ·show (if w.heap.size + 1 < w.heap.size then _ else _) = _
  rw [if_neg (by omega), if_neg (by omega)]
 ·show (if w.heap.size < w.heap.size then _ else _) = _
  rw [if_neg (by omega), if_pos rfl]
 ·rw [World.size_alloc]
  exact Nat.lt_succ_self _
def RelA (w : World) (s : St) (A0 B0 : Option Addr) (ca cb m : Nat) (v48 : Value) (wr : World) : Prop := ∃ (j : Nat) (κ : Kol) (a : Ad), v48 = .int .i64 j ∧ j ≤ s.cs.length ∧ Mid w s A0 B0 ca cb κ wr m a j 0
def RelQ (w : World) (s : St) (A0 B0 : Option Addr) (ca cb m : Nat) (v68 : Value) (wr : World) : Prop := ∃ (q : Nat) (κ : Kol) (a : Ad), v68 = .int .i64 q ∧ q ≤ s.n ∧ Mid w s A0 B0 ca cb κ wr m a s.cs.length q
theorem mach_new (n f : Nat) (A : Option Addr) (ca : Nat) (cs : List Int) (B : Option Addr) (cb : Nat) (ds : List (List Int)) (mn lo hi : Int) (hchk : TZ.chk n f cs ds = 0) (h1 : 1 ≤ n) (h8 : n ≤ 8) (hf : f ∈ p2s) (hc1 : 1 ≤ cs.length) (hc16 : cs.length ≤ 16) (hdl : ds.length = n) (hdr : ∀ r ∈ ds, r.length = n) (m0 : 0 ≤ mn) (m1 : mn ≤ lo) (m2 : lo ≤ hi) (m3 : hi ≤ f) (w : World) (hA : (Kd.int .i64).C w A cs.length cs) (hca : cs.length ≤ ca) (hB : (Kd.slice 3 (Kd.int .i64)).C w B ds.length ds) (hcb : ds.length ≤ cb) :
 Calls Tryz.prog 35 #[.agg #[.int .i64 n, .int .i64 f, .slice A cs.length ca, .slice B ds.length cb], .agg #[.int .i64 mn, .int .i64 lo, .int .i64 hi]] w fun e w' => ∃ κ' m a, e = .returned (.tuple #[.pointer (some ⟨m, 0, none⟩), .int .i64 0]) ∧ MachK κ' w' m a (newS n f cs ds mn lo hi) ∧ (∀ b, b < w.heap.size → κ' b = 0) ∧ RowKit.Below w.heap.size w w' := by
 have HA := ak hA
 have HB := ak hB
 have hfl := p2_le f hf
 have HCK := ak (fun (W : World) (hW : RowKit.Below w.heap.size w W) => show Calls Tryz.prog 81 #[.agg #[.int .i64 n, .int .i64 f, .slice A cs.length ca, .slice B ds.length cb]] W (fun e w' => e = .returned (.int .i64 0) ∧ RowKit.Below W.heap.size W w') from by
  have := TZ.check_own n f A ca cs B cb ds W (Kd.C_below hA hW) hca (Kd.C_below hB hW) hcb
  rw [hchk] at this
  exact this)
 obtain ⟨κ0, hκ0⟩ : ∃ κ0 : Kol, (fun _ => 0) = κ0 := ⟨_, rfl⟩
 have HK0 := ak (show ∀ b, κ0 b = 0 from fun b => by rw [← hκ0])
 have HHN := ak (fun (W : World) => heap_new κ0 16 n f mn lo hi h1 h8 hf m0 m1 m2 m3 W)
 have HCP := ak (fun (W : World) (hW : RowKit.Below w.heap.size w W) => copied_own n f A ca cs B cb ds W (Kd.C_below hA hW) (Kd.C_below hB hW) hc1 (by omega) (by omega) (fun r hr => by have := hdr r hr; omega))
 have HL := ak (And.intro hdl hfl)
 clear hA hB hchk hf hdr hdl m0 m1 m2 m3 hκ0 hfl
 go_enter Tryz.func35, Tryz.ntmps35
 go_upto_region 4 with (go_at_call 81; (with_reducible refine (HCK.1 _ (below_alloc (below_alloc (RowKit.Below.refl w.heap.size w) _) _)).mono ?_); rintro e_ w1 ⟨rfl, hb⟩; have HT := ak (((Blk.new w #[.int .i64 n, .int .i64 f, .slice A cs.length ca, .slice B ds.length cb] 37).alloc (.cells #[.int .i64 mn, .int .i64 lo, .int .i64 hi] 77)).below hb); have HMK := ak ((Blk.new1 w (.cells #[.int .i64 n, .int .i64 f, .slice A cs.length ca, .slice B ds.length cb] 37) #[.int .i64 mn, .int .i64 lo, .int .i64 hi] 77).below hb); have HD := ak (below_then (below_alloc (below_alloc (RowKit.Below.refl w.heap.size w) _) _) (by simp only [World.size_alloc]; omega) hb); clear hb)
 have x0 := HT.1.at 0 (.int .i64 (n : Int)) rfl
 have x1 := HT.1.at 1 (.int .i64 (f : Int)) rfl
 have y0 := HMK.1.at 0 (.int .i64 mn) rfl
 have y1 := HMK.1.at 1 (.int .i64 lo) rfl
 have y2 := HMK.1.at 2 (.int .i64 hi) rfl
 go_upto_region 7 with (go_at_call 82; (with_reducible refine (HHN.1 _).mono ?_); rintro e_ w2 ⟨κ1, hp, rfl, q1, q2, q3, q4⟩; have HHP := ak q1; have HK1 := ak q3; have HT2 := ak (HT.1.below q4); have HD2 := ak (below_then HD.1 HD.1.size q4); clear q1 q2 q3 q4)
 have HN1 := ak HT.1.lt
 clear x0 x1 y0 y1 y2 HT HMK HCK HHN
 have x0 := HT2.1.at 0 (.int .i64 (n : Int)) rfl
 have x1 := HT2.1.at 1 (.int .i64 (f : Int)) rfl
 have x2 := HT2.1.at 2 (.slice A cs.length ca) rfl
 have x3 := HT2.1.at 3 (.slice B ds.length cb) rfl
 have hmm := @run_makeMap Tryz.prog
 go_upto_region 8 with (first | (go_at_call 83; (with_reducible refine (HCP.1 _ HD2.1).mono ?_); rintro e_ w3 ⟨v1, v2, rfl, q1, q2, q3⟩; obtain ⟨A1, c1, rfl⟩ := Kd.R_slice q1; obtain ⟨B1, c2, rfl⟩ := Kd.R_slice q2; have HR := ak (And.intro q1 (And.intro q2 q3)); clear q1 q2 q3) | (go_at_call 84; (with_reducible refine (TS.new_own _).mono ?_); rintro e_ w4 ⟨rfl, rfl⟩))
 obtain ⟨s0, hs0⟩ : ∃ s0, w3.heap.size = s0 := ⟨_, rfl⟩
 obtain ⟨κ8, hκ8⟩ : ∃ κ8 : Kol, (fun x => if x < w2.heap.size then κ1 x else if x < s0 then 2 else if x = s0 then 13 else if x = s0 + 1 then 143 else if x = s0 + 1 + 1 then 144 else 1) = κ8 := ⟨_, rfl⟩
 have hle3 := HR.1.2.2.size
 have hk2 : ∀ b, b < w2.heap.size → κ8 b = κ1 b := fun b hb => by rw [← hκ8]; exact if_pos hb
 have hkt : ∀ b, w2.heap.size ≤ b → b < s0 → κ8 b = 2 := fun b h1 h2 => by rw [← hκ8]; show (if b < w2.heap.size then _ else _) = _; rw [if_neg (by omega), if_pos h2]
 have hk13 : κ8 s0 = 13 := by rw [← hκ8]; show (if s0 < w2.heap.size then _ else _) = _; rw [if_neg (by omega), if_neg (by omega), if_pos rfl]
 have hk143 : κ8 (s0 + 1) = 143 := by rw [← hκ8]; show (if s0 + 1 < w2.heap.size then _ else _) = _; rw [if_neg (by omega), if_neg (by omega), if_neg (by omega), if_pos rfl]
 have hk144 : κ8 (s0 + 1 + 1) = 144 := by rw [← hκ8]; show (if s0 + 1 + 1 < w2.heap.size then _ else _) = _; rw [if_neg (by omega), if_neg (by omega), if_neg (by omega), if_neg (by omega), if_pos rfl]
 have hk1 : κ8 (s0 + 1 + 1 + 1) = 1 := by rw [← hκ8]; show (if s0 + 1 + 1 + 1 < w2.heap.size then _ else _) = _; rw [if_neg (by omega), if_neg (by omega), if_neg (by omega), if_neg (by omega), if_neg (by omega)]
 obtain ⟨wb, hwb⟩ : ∃ wb, (((w3.alloc (.cells #[.slice none 0 0] 213)).alloc (.map #[] 0)).alloc (.map #[] 0)) = wb := ⟨_, rfl⟩
 have hsb : wb.heap.size = s0 + 1 + 1 + 1 := by rw [← hwb]; simp only [World.size_alloc]; rw [hs0]
 have hb3 : RowKit.Below w3.heap.size w3 wb := by rw [← hwb]; exact below_alloc (below_alloc (below_alloc (RowKit.Below.refl _ _) _) _) _
 have hsp : TS.Sp wb 0 s0 none 0 [] := by
  have h := TS.Sp.new w3 0 (Nat.zero_le _)
  rw [hs0] at h
  rw [← hwb]
  exact (h.below (below_alloc (RowKit.Below.refl _ _) _)).below (below_alloc (RowKit.Below.refl _ _) _)
 have hm1 : wb.ownsMap Tryz.prog 3 ptrElem (s0 + 1) 0 (.map []) := by
  have h := (World.ownsMap_made (H := Unit) (w3.alloc (.cells #[.slice none 0 0] 213)) Tryz.prog 3 ptrElem).alloc (.map #[] 0)
  rw [World.size_alloc, hs0] at h
  rw [← hwb]
  exact h
 have hm2 : wb.ownsMap Tryz.prog 3 (plainElem (H := Unit) Tryz.prog 3) (s0 + 1 + 1) 0 (.map []) := by
  have h := World.ownsMap_made (H := Unit) ((w3.alloc (.cells #[.slice none 0 0] 213)).alloc (.map #[] 0)) Tryz.prog 3 (plainElem Tryz.prog 3)
  rw [World.size_alloc, World.size_alloc, hs0] at h
  rw [← hwb]
  exact h
 have HW := ak (And.intro hs0 (And.intro hsb (And.intro hb3 (And.intro hsp (And.intro hm1 hm2)))))
 have HKK := ak (And.intro hk2 (And.intro hkt (And.intro hk13 (And.intro hk143 (And.intro hk144 hk1)))))
 have hn2 : w.heap.size ≤ w2.heap.size := HD2.1.size
 obtain ⟨w8, hw8⟩ : ∃ w8, wb.alloc (.cells (mC n f (.slice A1 cs.length c1) (.slice B1 ds.length c2) (.pointer none) (.pointer (some ⟨hp, 0, none⟩)) (.pointer (some ⟨s0, 0, none⟩)) (.pointer none) (.pointer none) (.slice none 0 0) (.slice none 0 0) (.map (some (s0 + 1))) (.map (some (s0 + 1 + 1)))) 129) = w8 := ⟨_, rfl⟩
 have hbb : RowKit.Below wb.heap.size wb w8 := by rw [← hw8]; exact below_alloc (RowKit.Below.refl _ _) _
 have hb38 : RowKit.Below w3.heap.size w3 w8 := below_then hb3 hb3.size hbb
 have hb28 : RowKit.Below w2.heap.size w2 w8 := below_then HR.1.2.2 hle3 hb38
 have hU8 : Upd (fun _ => False) κ1 w2 κ8 w8 := ⟨hk2, Chg.of_below hb28⟩
 have hbox : BlkK κ8 1 w8 (s0 + 1 + 1 + 1) (mC n f (.slice A1 cs.length c1) (.slice B1 ds.length c2) (.pointer none) (.pointer (some ⟨hp, 0, none⟩)) (.pointer (some ⟨s0, 0, none⟩)) (.pointer none) (.pointer none) (.slice none 0 0) (.slice none 0 0) (.map (some (s0 + 1))) (.map (some (s0 + 1 + 1)))) 129 := by
  have h := Blk.new wb (mC n f (.slice A1 cs.length c1) (.slice B1 ds.length c2) (.pointer none) (.pointer (some ⟨hp, 0, none⟩)) (.pointer (some ⟨s0, 0, none⟩)) (.pointer none) (.pointer none) (.slice none 0 0) (.slice none 0 0) (.map (some (s0 + 1))) (.map (some (s0 + 1 + 1)))) 129
  rw [hsb, hw8] at h
  exact ⟨hk1, h⟩
 have hPA := parts_own κ8 (s0 + 1 + 1 + 1) n f _ _ _ _ _ _ _ _ h1 h8 HL.1.2.1 HL.1.2.2 w8 hbox
 have hcsK : KR (Kd.int .i64) 3 κ8 2 w8 (.slice A1 cs.length c1) cs := KR.below (KR.made HR.1.1 (fun b h1 h2 => hkt b h1 (by rw [← hs0]; exact h2))) hb38
 have hdsK : KR (Kd.slice 3 (Kd.int .i64)) 34 κ8 2 w8 (.slice B1 ds.length c2) ds := KR.below (KR.made HR.1.2.1 (fun b h1 h2 => hkt b h1 (by rw [← hs0]; exact h2))) hb38
 have hspK : SpK κ8 13 w8 s0 [] := ⟨none, 0, hsp.below hbb, hk13, fun k hk => by simp [TS.Row0] at hk⟩
 have hheK := HHP.1.upd hU8 (fun _ _ h => h)
 have hmpK : MapP κ8 143 w8 (s0 + 1) 0 (fun _ => none) := ⟨hk143, .map [], owns_chg (F := fun _ => False) hm1 (Chg.of_below hbb) (fun e => e), fun k _ => ⟨rfl, rfl⟩⟩
 have hlvK : MapI κ8 144 w8 (s0 + 1 + 1) 0 (fun _ => none) := ⟨hk144, .map [], owns_chg (F := fun _ => False) hm2 (Chg.of_below hbb) (fun e => e), fun k _ => ⟨rfl, rfl⟩⟩
 have HPA := ak hPA
 have HKS := ak (And.intro hcsK (And.intro hdsK (And.intro hspK (And.intro hheK (And.intro hmpK hlvK)))))
 have HTO := ak (show BlkK κ8 0 w8 w.heap.size #[.int .i64 n, .int .i64 f, .slice A cs.length ca, .slice B ds.length cb] 37 from ⟨by rw [hk2 _ HT2.1.lt, HK1.1 _ HN1.1]; exact HK0.1 _, HT2.1.below hb28⟩)
 have HDD := ak (below_then HD2.1 hn2 hb28)
 have HOL := ak (show ∀ b, b < w.heap.size → κ8 b = 0 from fun b hb => by rw [hk2 b (by omega), HK1.1 b (Nat.lt_trans hb HN1.1)]; exact HK0.1 b)
 have HMB := ak (show w.heap.size ≤ s0 + 1 + 1 + 1 by omega)
 rw [hs0, hwb]
 rw [show wb.alloc (.cells (mC n f (.slice A1 cs.length c1) (.slice B1 ds.length c2) (.pointer none) (.pointer (some ⟨hp, 0, none⟩)) (.pointer (some ⟨s0, 0, none⟩)) (.pointer none) (.pointer none) (.slice none 0 0) (.slice none 0 0) (.map (some (s0 + 1))) (.map (some (s0 + 1 + 1)))) 129) = w8 from hw8]
 clear hs0 hκ8 hle3 hk2 hkt hk13 hk143 hk144 hk1 hwb hsb hb3 hsp hm1 hm2 HW HKK hn2 hw8 hbb hb38 hb28 hU8 hbox hPA hcsK hdsK hspK hheK hmpK hlvK HD2 HR x0 x1 x2 x3 hmm
 go_upto_region 11 with (go_at_call 85; (with_reducible refine HPA.1.mono ?_); rintro e_ w9 ⟨rfl, κ9, mem, bk, lg, g1, g2, g3, g4, g5⟩; have HG := ak (And.intro g1 (And.intro g2 (And.intro g3 (And.intro g4 g5)))); clear g1 g2 g3 g4 g5)
 obtain ⟨s, hs⟩ : ∃ s, newS n f cs ds mn lo hi = s := ⟨_, rfl⟩
 have HSE := ak hs
 have HSF := ak (show s.n = n ∧ s.f = f ∧ s.cs = cs ∧ s.ds = ds ∧ s.cpus = cs.map newCpu ∧ s.qs = List.replicate n [] from by rw [← hs]; exact ⟨rfl, rfl, rfl, rfl, rfl, rfl⟩)
 have H0 := ak (show Mid w s A B ca cb κ9 w9 (s0 + 1 + 1 + 1) ⟨A1, c1, B1, c2, mem, hp, s0, bk, lg, .slice none 0 0, [], .slice none 0 0, [], s0 + 1, s0 + 1 + 1⟩ 0 0 from by
  obtain ⟨g1, g2, g3, g4, g5⟩ := HG.1
  obtain ⟨p1, p2, p3, p4, p5, p6⟩ := HKS.1
  rw [← hs]
  exact ⟨⟨g1, p1.upd g5 (by omega), p2.upd g5 (by omega), g2, g4, g3, p3.upd g5 (by omega), p4.upd g5 (by omega), ⟨KR.nil _ _ _ _ _, rfl, fun j c hj => by simp [midS] at hj⟩, ⟨KR.nil _ _ _ _ _, rfl, fun j c hj => by simp [midS] at hj⟩,
   ⟨fun _ => none, p5.upd g5 (by omega), fun x hx => by simp at hx, fun p => ⟨fun _ => rfl, fun x hx => by simp [midS, newS] at hx⟩⟩, p6.upd g5 (by omega), by show (List.replicate n (newBud f)).length ≤ 8; rw [List.length_replicate]; exact h8, by simp [midS], by simp [midS]⟩,
   fun g hg => by simp [Value.ownBlock] at hg, fun g hg => by simp [Value.ownBlock] at hg, fun b hb => by rw [g5.kol b (Nat.lt_of_lt_of_le hb HDD.1.size)]; exact HOL.1 b hb, HTO.1.upd g5 (by omega), HDD.1.trans (g5.chg.to_below _ HDD.1.size (fun b e => Classical.byContradiction fun hlt => by have h9 := HOL.1 b (by omega); have e : κ8 b = 1 := e; omega)), HMB.1⟩)
 clear HG HKS HDD HOL HTO HPA hs
 have info3 : (Tryz.prog.info? 117).map (fun i => (i.zero, i.size, i.bytes)) = some (some (.pointer none), 1, 8) := by kernel_rfl
 have info4 : (Tryz.prog.info? 133).map (fun i => (i.zero, i.size, i.bytes)) = some (some (.pointer none), 1, 8) := by kernel_rfl
 have x2 := H0.1.top.blk.at 2 (.slice A s.cs.length ca) rfl
 go_wp2_with fail
 obtain ⟨m, hm⟩ : ∃ m, s0 + 1 + 1 + 1 = m := ⟨_, rfl⟩
 rw [hm] at H0
 have HA0 := ak (show RelA w s A B ca cb m (.int .i64 0) w9 from ⟨0, κ9, _, rfl, Nat.zero_le _, H0.1⟩)
 rw [hm]
 clear H0 hm x2
 go_loopw [12, 48] (fun _ v48 wr => RelA w s A B ca cb m v48 wr) (fun _ v48 _ => s.cs.length - (RowKit.intOf v48).toNat)
 case atStart => exact HA0.1
 case round =>
  clear HA0
  obtain ⟨j, κ, a, rfl, hj, hmid⟩ := hrel
  have HMI := ak hmid
  by_cases hlt : j < s.cs.length
  ·have jI : (j : Int) < (s.cs.length : Int) := by omega
   have j0 : (0 : Int) ≤ (j : Int) := by omega
   have hj17 : (j : Int) < 16 := by have h9 := HSF.1.2.2.1; rw [h9] at hlt; omega
   have hC := Kd.C_below HA.1 hmid.bel
   rw [← HSF.1.2.2.1] at hC
   obtain ⟨ad, rfl, s0_⟩ := Kd.at_int hC (j : Int) j0 jI
   rw [Int.toNat_natCast] at s0_
   obtain ⟨x, hx⟩ : ∃ x, rd s.cs (j : Int) = x := ⟨_, rfl⟩
   rw [hx] at s0_
   have HX := ak (show s.cs[j]? = some x from by
    rw [← hx]
    unfold rd
    rw [Int.toNat_natCast, List.getD_eq_getElem?_getD, List.getElem?_eq_getElem hlt]
    rfl)
   clear hC hx hmid
   go_upto_region 14 with fail
   have c9 := HMI.1.mach.c9
   refine st_ 14 (fun w' => w'.cell? ⟨m, 9, none⟩ = some a.cv) [10, 13] (c9) (fun hHeld => ?_)
   have hd_ := below_drew (RowKit.Below.refl wr.heap.size wr)
   have n0_ := ak (HMI.1.fresh (Upd.of_below κ hd_) hd_)
   clear HMI c9 hd_
   have HMI := n0_
   clear n0_
   have c9 := HMI.1.mach.c9
   generalize wr.drew = wd at *
   clear c9
   have c9 := HMI.1.mach.c9
   refine pu_ 0 52 1 ?_
   refine pu_ 1 53 3 ?_
   refine pu_ 2 54 7 ?_
   refine pu_ 3 55 15 ?_
   refine pu_ 5 57 47 ?_
   refine ta_ 4 56 63 hHeld ?_
   refine one_ (i := 6) (N := some 58) (bz 14 127) rfl rfl (by kernel_rfl) (by decide) (fun K hK => ?_)
   refine goes_ Tryz.func86 (by kernel_rfl) rfl #[] (by rfl) rfl rfl (by simp only [List.map_toArray, List.map_nil]) ?_
   with_reducible refine (cache_new _).mono ?_
   rintro e_ wc ⟨rfl, hc⟩
   refine ⟨_, rfl, ?_⟩
   have hb6 : RowKit.Below wd.heap.size wd wc := by rw [hc]; exact below_alloc (RowKit.Below.refl _ _) _
   have hU6 : Upd (fun _ => False) κ wd (κ.ext wd.heap.size (150 + 6 * j + 1)) wc := (Upd.of_below κ hb6).paint _ _ (Nat.le_refl _)
   have HM6 := ak (HMI.1.fresh hU6 hb6)
   have HC6 := ak (show CacheK (κ.ext wd.heap.size (150 + 6 * j + 1)) (150 + 6 * j + 1) wc wd.heap.size (fun _ => []) from ⟨fun _ => .slice none 0 0, by rw [hc]; exact BlkK.new κ wd (150 + 6 * j + 1) _ _, fun k hk => .inl ⟨rfl, rfl⟩⟩)
   clear hb6 hU6 hc
   refine hK.out _ _ (HM6.1.mach.c9) (fun hHeld => ?_)
   clear hK K
   refine no_ 58 ?_
   refine pu_ 7 59 255 ?_
   refine one_ (i := 8) (N := some 60) (bz 14 511) rfl rfl (by kernel_rfl) (by decide) (fun K hK => ?_)
   refine va_ ?_
   have hb8 := below_alloc (RowKit.Below.refl wc.heap.size wc) (.cells #[.int .i64 x, .int .i64 0, .int .u8 0, .int .i64 0, .int .i64 0, .pointer (some ⟨wd.heap.size, 0, none⟩)] 166)
   have hU8 : Upd (fun _ => False) (κ.ext wd.heap.size (150 + 6 * j + 1)) wc ((κ.ext wd.heap.size (150 + 6 * j + 1)).ext wc.heap.size (150 + 6 * j)) (wc.alloc (.cells #[.int .i64 x, .int .i64 0, .int .u8 0, .int .i64 0, .int .i64 0, .pointer (some ⟨wd.heap.size, 0, none⟩)] 166)) := (Upd.of_below (κ.ext wd.heap.size (150 + 6 * j + 1)) hb8).paint _ _ (Nat.le_refl _)
   have HM8 := ak (HM6.1.fresh hU8 hb8)
   have HK8 := ak (show CpuK ((κ.ext wd.heap.size (150 + 6 * j + 1)).ext wc.heap.size (150 + 6 * j)) (150 + 6 * j) (wc.alloc (.cells #[.int .i64 x, .int .i64 0, .int .u8 0, .int .i64 0, .int .i64 0, .pointer (some ⟨wd.heap.size, 0, none⟩)] 166)) wc.heap.size (newCpu x) from ⟨wd.heap.size, BlkK.new (κ.ext wd.heap.size (150 + 6 * j + 1)) wc (150 + 6 * j) _ _, HC6.1.upd hU8 (fun _ _ h => h)⟩)
   clear hb8 hU8
   refine hK.out _ _ (HM8.1.mach.c9) (fun hHeld => ?_)
   clear hK K
   refine no_ 60 ?_
   refine one_ (i := 9) (N := some 61) (bz 14 1023) rfl rfl (by kernel_rfl) (by decide) (fun K hK => ?_)
   refine va_ ?_
   refine hK.out _ _ ((HM8.1.mach.box.blk.alloc _).at 9 a.cv rfl) (fun hHeld => ?_)
   clear hK K
   refine no_ 61 ?_
   refine last_ (i := 10) (N := some 62) (bz 14 2047) rfl rfl (by kernel_rfl) (by decide) (fun K hK => ?_)
   refine Kd.R_append_step pk (w0 := (wc.alloc (.cells #[.int .i64 x, .int .i64 0, .int .u8 0, .int .i64 0, .int .i64 0, .pointer (some ⟨wd.heap.size, 0, none⟩)] 166))) 0 rfl (.tmp 56) (.tmp 61) 124 117 (.pointer none) 8 rfl Tryz.underlying124 info3 rfl (by decide) (by decide) a.cv a.cps wc.heap.size [.pointer (some ⟨wc.heap.size, 0, none⟩)] (fun k => ((κ.ext wd.heap.size (150 + 6 * j + 1)).ext wc.heap.size (150 + 6 * j)).ext (wc.alloc (.cells #[.int .i64 x, .int .i64 0, .int .u8 0, .int .i64 0, .int .i64 0, .pointer (some ⟨wd.heap.size, 0, none⟩)] 166)).heap.size 124 k = 124) (fun _ => False) rfl (by rw [World.size_alloc]; rfl) ?aP (fun _ hk => hk.elim) ?aF HM8.1.mach.cpus.1.ext (RowKit.Below.refl _ _) (Nat.zero_le _) ?aL ?_
   (case aP => exact rfl)
   (case aF => exact (fun k hk => Kol.ext_new _ hk))
   (case aL => (have h9 := HM8.1.mach.cpus.2.1; have h10 := HM8.1.mach.hcp; omega))
   intro v7 w7 ho7 hb7 hg7 hat7
   obtain ⟨A7, c7, rfl⟩ := Kd.R_slice ho7
   have HR7 := ak (And.intro ho7 (And.intro hg7 hat7))
   have hbx := HM8.1.mach.box.upd (HM8.1.mach.cpus.1.upd_grown hg7) (by omega)
   have q9 := hbx.blk.at 9 a.cv rfl
   have f9 := hbx.blk.fz 9
   clear ho7 hb7 hg7 hat7 hbx
   refine hK.out _ _ ?_
   clear hK K
   refine no_ 62 ?_
   refine pu_ 11 63 4095 ?_
   refine pu_ 12 64 8191 ?_
   refine last_ (i := 13) (N := none) (bz 14 16383) rfl rfl (by kernel_rfl) (by decide) (fun K hK => ?_)
   refine skip_ (w1 := ?_) (by rfl) rfl ?_ ?_
   rotate_left
   ·go_simp
    rfl
   refine hK.out _ _ ?_
   clear hK K
   refine done_ (by kernel_rfl) ?_
   go_wp2_with fail
   have hr7 := HR7.1.1
   rw [List.length_append, List.length_singleton] at hr7
   have hat7 := HR7.1.2.2
   rw [List.length_append, List.length_singleton] at hat7
   have hfin := Mid.addCpu HM8.1 (by rw [HSF.1.2.2.2.2.1, HSF.1.2.2.1]) (by rw [HSF.1.2.2.1]; exact hc16) x HX.1 wc.heap.size HK8.1 A7 c7 hr7 HR7.1.2.1 hat7
   exact ⟨⟨j + 1, _, _, by simp, hlt, hfin⟩, by simp only [RowKit.intOf]; omega⟩
  ·obtain rfl : j = s.cs.length := by omega
   have x0 := hmid.top.blk.at 0 (.int .i64 (s.n : Int)) rfl
   have HQ0 := ak (show RelQ w s A B ca cb m (.int .i64 0) wr from ⟨0, κ, a, rfl, Nat.zero_le _, hmid⟩)
   clear hmid HMI
   go_wp2_with fail
   clear x0
   go_loopw [13, 14, 68] (fun _ _ v68 wr => RelQ w s A B ca cb m v68 wr) (fun _ _ v68 _ => s.n - (RowKit.intOf v68).toNat)
   case atStart => exact HQ0.1
   case round =>
    clear HQ0
    obtain ⟨q, κq, aq, rfl, hq, hmid⟩ := hrel
    have HMI := ak hmid
    by_cases hlt : q < s.n
    ·have qI : (q : Int) < (s.n : Int) := by omega
     have q0 : (0 : Int) ≤ (q : Int) := by omega
     have q8 : (q : Int) < 8 := by have h9 := HSF.1.1; omega
     clear hmid
     go_upto_region 21 with (go_at_call 87; (with_reducible refine (ring_new _).mono ?_); rintro e_ wr2 ⟨rfl, h4⟩; have hb4 : RowKit.Below wr.heap.size wr wr2 := (by rw [h4]; exact below_alloc (below_alloc (RowKit.Below.refl _ _) _) _); have hU4 : Upd (fun _ => False) κq wr (fun x => if x < wr.heap.size then κq x else if x = wr.heap.size then 126 + 2 * q + 1 else 126 + 2 * q) wr2 := ⟨fun b hb => if_pos hb, Chg.of_below hb4⟩; have HM4 := ak (HMI.1.fresh hU4 hb4); have HQ4 := ak (show QueK (fun x => if x < wr.heap.size then κq x else if x = wr.heap.size then 126 + 2 * q + 1 else 126 + 2 * q) (126 + 2 * q) wr2 (wr.heap.size + 1) [] from (by rw [h4]; exact que_new κq wr q)); clear h4 hb4 hU4)
     obtain ⟨κ4, hκ4⟩ : ∃ κ4 : Kol, (fun x => if x < wr.heap.size then κq x else if x = wr.heap.size then 126 + 2 * q + 1 else 126 + 2 * q) = κ4 := ⟨_, rfl⟩
     rw [hκ4] at HM4 HQ4
     obtain ⟨pn, hpn⟩ : ∃ pn, wr.heap.size + 1 = pn := ⟨_, rfl⟩
     rw [hpn] at HQ4 ⊢
     clear hκ4 hpn
     have c10 := HM4.1.mach.c10
     go_wp2_with ((with_reducible refine gate_builtin (b := .append) (xs := #[.tmp 81, .tmp 83]) rfl ?_); at_builtin; refine Kd.R_append pk (w0 := wr2) 0 rfl (.tmp 81) (.tmp 83) 125 133 (.pointer none) 8 rfl Tryz.underlying125 info4 rfl (by decide) (by omega) aq.qv aq.qps pn [.pointer (some ⟨pn, 0, none⟩)] (fun k => κ4.ext wr2.heap.size 125 k = 125) (fun _ => False) rfl rfl ?aP (fun _ hk => hk.elim) ?aF ?aO ?aB ?aS ?aL ?_; (case aP => exact rfl); (case aB => exact RowKit.Below.refl _ _); (case aF => exact (fun k hk => Kol.ext_new _ hk)); (case aO => exact HM4.1.mach.qs.1.ext); (case aS => exact Nat.zero_le _); (case aL => (have h9 := HM4.1.mach.qs.2.1; have h10 := HM4.1.mach.hqs; omega)); intro v7 w7 ho7 hb7 hg7 hat7; obtain ⟨A7, c7, rfl⟩ := Kd.R_slice ho7; have H7 := ak (And.intro ho7 (And.intro hg7 hat7)); have hbx := HM4.1.mach.box.upd (HM4.1.mach.qs.1.upd_grown hg7) (by omega); have t10 := hbx.blk.at 10 aq.qv rfl; have g10 := hbx.blk.fz 10; clear ho7 hb7 hg7 hat7 hbx c10)
     have hr7 := H7.1.1
     have hat7 := H7.1.2.2
     rw [List.length_append, List.length_singleton] at hr7 hat7
     have hfin := Mid.addQue HM4.1 (by omega) pn HQ4.1 A7 c7 hr7 H7.1.2.1 hat7
     exact ⟨⟨q + 1, _, _, by simp, hlt, hfin⟩, by simp only [RowKit.intOf]; omega⟩
    ·obtain rfl : q = s.n := by omega
     clear hmid
     go_wp2_with fail
     go_ret2
     have hfin := HMI.1.mach
     rw [show midS s s.cs.length s.n = s from by
      rw [← HSE.1]
      unfold midS newS
      simp [List.take_of_length_le]] at hfin
     rw [HSE.1]
     exact ⟨κq, m, aq, rfl, hfin, HMI.1.old, HMI.1.bel⟩
end Go.Proofs.YtenkdmloolbdaaaGreatDoor.T
end
