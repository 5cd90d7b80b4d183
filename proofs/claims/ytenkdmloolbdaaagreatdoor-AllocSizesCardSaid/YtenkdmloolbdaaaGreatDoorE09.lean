import Derived.Test.YtenkdmloolbdaaaGreatDoorE08
import Derived.Test.YtenkdmloolbdaaaGreatDoorE04
import Derived.LaidEqlPtr
import Derived.Test.YtenkdmloolbdaaaGreatDoorE03
import Derived.Laws.CopyRow
import Derived.Laws.Tables
import Derived.Lib.SliceRun
import Derived.Test.YtenkdmloolbdaaaGreatDoorE05
set_option linter.unusedVariables false
set_option linter.unusedSimpArgs false
set_option maxHeartbeats 8000000
set_option maxRecDepth 100000
section
namespace Go.Proofs.YtenkdmloolbdaaaGreatDoor.T
open Go.RowKit Go.Proofs.YtenkdmloolbdaaaGreatDoorW.PrintWords Go.Proofs.YtenkdmloolbdaaaGreatDoorW.PrintLast Go.Proofs.YtenkdmloolbdaaaGreatDoorW.PrintMore
def bump (cn : List Int) (j : Nat) : List Int := cn.set j (wrap64 (cn.getD j 0 + 1))
def addC (cn : List Int) (x : Ev) : List Int :=
 let c1 := if x.node = x.start then (if x.il = true then bump (bump cn (x.node * 6)) (x.node * 6 + 5) else bump cn (x.node * 6)) else bump (bump cn (x.node * 6 + 1)) (x.start * 6 + 2)
 if x.node = x.own then bump c1 (x.node * 6 + 3) else bump c1 (x.node * 6 + 4)
theorem bump_len (cn : List Int) (j : Nat) : (bump cn j).length = cn.length := by unfold bump; rw [List.length_set]
theorem addC_len (cn : List Int) (x : Ev) : (addC cn x).length = cn.length := by
 unfold addC
 simp only []
 split <;> split <;> simp [bump_len] <;> split <;> simp [bump_len]
def CntB (κ : Kol) (i : Nat) (w : World) (g : Nat) (cn : List Int) : Prop := BlkK κ i w g (cn.map (Value.int .i64)).toArray 67
theorem CntB.at {κ : Kol} {i g : Nat} {w : World} {cn : List Int} (h : CntB κ i w g cn) (j : Nat) (hj : j < cn.length) : w.cell? ⟨g, j, none⟩ = some (.int .i64 (cn.getD j 0)) := by
 refine h.blk.at j _ ?_
 rw [List.getElem?_toArray, List.getElem?_map, List.getD_eq_getElem?_getD, List.getElem?_eq_getElem hj]
 rfl
theorem CntB.bump {κ : Kol} {i g : Nat} {w : World} {cn : List Int} (h : CntB κ i w g cn) (j : Nat) : CntB κ i (w.setCell ⟨g, j, none⟩ (.int .i64 (wrap64 (cn.getD j 0 + 1)))) g (bump cn j) := by
 have := h.set j (.int .i64 (wrap64 (cn.getD j 0 + 1)))
 unfold CntB T.bump
 rw [List.map_set]
 simpa using this
structure LS (κ0 : Kol) (w0 : World) (κ : Kol) (i : Nat) (W : World) (b g bx nodes : Nat) (v : Value) (nev : Nat) (ec : List Value) (eb : Array Value) (cn : List Int) : Prop where
 e : BlkK κ (i + 999) W bx eb 99
 b : BlkK κ i W b #[v, .slice (some ⟨g, 0, none⟩) nodes nodes] 156
 c : CntB κ (i + 1) W g cn
 r : RowG κ (i + 2) W 99 4 v nev ec
 u : Upd (fun z => i ≤ z ∧ z < i + 3) κ0 w0 κ W
section
variable {κ0 κ : Kol} {w0 W W' : World} {i b g bx nodes nev : Nat} {v : Value} {ec : List Value} {eb : Array Value} {cn : List Int}
theorem LS.below (h : LS κ0 w0 κ i W b g bx nodes v nev ec eb cn) (k : RowKit.Below W.heap.size W W') : LS κ0 w0 κ i W' b g bx nodes v nev ec eb cn :=
 ⟨h.e.below k, h.b.below k, BlkK.below h.c k, h.r.below k, h.u.below k⟩
theorem LS.bump (h : LS κ0 w0 κ i W b g bx nodes v nev ec eb cn) (j : Nat) : LS κ0 w0 κ i (W.setCell ⟨g, j, none⟩ (.int .i64 (wrap64 (cn.getD j 0 + 1)))) b g bx nodes v nev ec eb (bump cn j) := by
 have hU : Upd (· = i + 1) κ W κ (W.setCell ⟨g, j, none⟩ (.int .i64 (wrap64 (cn.getD j 0 + 1)))) := (Upd.refl _ _ _).set ⟨g, j, none⟩ (fun _ => h.c.kol) _
 exact ⟨h.e.upd hU (by omega), h.b.upd hU (by omega), CntB.bump h.c j, h.r.upd hU (by omega), h.u.then hU (fun c e => by omega)⟩
end
theorem log_add (κ : Kol) (i b nodes : Nat) (ev : List Ev) (cn : List Int) (x : Ev) (hN : nodes ≤ 8) (h1 : x.node < nodes) (h2 : x.start < nodes) (h3 : x.own < nodes) (hev : ev.length ≤ 1000000) (w : World) (h : LogK κ i w b nodes ev cn) :
 Calls Tryz.prog 54 #[.pointer (some ⟨b, 0, none⟩), .agg #[.int .i64 x.node, .int .i64 x.start, .int .i64 x.own, .bool x.il]] w fun e w' => e = .returned (.int .i64 0) ∧ ∃ κ', LogK κ' i w' b nodes (ev ++ [x]) (addC cn x) ∧ Upd (fun z => i ≤ z ∧ z < i + 3) κ w κ' w' := by
 obtain ⟨nd, st, ow, il⟩ := x
 simp only at h1 h2 h3 ⊢
 obtain ⟨hlen, v, g, k1, k2, k3⟩ := h
 have HL := ak hlen
 obtain ⟨wb, hwb⟩ : ∃ wb, w.alloc (.cells #[.int .i64 nd, .int .i64 st, .int .i64 ow, .bool il] 99) = wb := ⟨_, rfl⟩
 have hU0 : Upd (fun _ => False) κ w (κ.ext w.heap.size (i + 999)) wb := by rw [← hwb]; exact (Upd.of_below κ (below_alloc (RowKit.Below.refl _ _) _)).paint _ _ (Nat.le_refl _)
 have HKB := ak k1.kol
 have HS := ak (show LS κ w (κ.ext w.heap.size (i + 999)) i wb b g w.heap.size nodes v ev.length (evCells ev) #[.int .i64 nd, .int .i64 st, .int .i64 ow, .bool il] cn from
  ⟨by rw [← hwb]; exact BlkK.new κ w (i + 999) _ _, k1.upd hU0 (fun h => h), BlkK.upd k2 hU0 (fun h => h), k3.upd hU0 (fun h => h), hU0.mono (fun _ h => h.elim)⟩)
 obtain ⟨ec, hec⟩ : ∃ ec, evCells ev = ec := ⟨_, rfl⟩
 have HEC := ak hec
 rw [hec] at HS
 have e0 := HS.1.e.blk.at 0 (.int .i64 nd) rfl
 have e1 := HS.1.e.blk.at 1 (.int .i64 st) rfl
 have hlen2 := hlen
 clear k1 k2 k3 hU0 hec
 go_enter Tryz.func54, Tryz.ntmps54
 go_upto_region 3 with fail
 clear hwb
 refine st_ 10 (fun w' => w'.cell? ⟨w.heap.size, 0, none⟩ = some (.int .i64 nd) ∧ w'.cell? ⟨w.heap.size, 1, none⟩ = some (.int .i64 st)) [] ⟨e0, e1⟩ (fun hHeld => ?_)
 have n0_ := ak (HS.1.below (below_drew (RowKit.Below.refl _ _)))
 clear HS
 generalize wb.drew = wd at *
 have HS := n0_
 clear n0_
 refine pu_ 0 9 1 ?_
 refine pu_ 1 10 3 ?_
 refine pu_ 4 13 19 ?_
 refine pu_ 5 14 51 ?_
 refine ta_ 2 11 55 hHeld ?_
 refine ta_ 6 15 119 hHeld ?_
 refine one_ (i := 3) (N := some 12) (bz 10 127) rfl rfl (by kernel_rfl) (by decide) (fun K hK => ?_)
 refine goes_ Tryz.func80 (by kernel_rfl) rfl #[.pointer (some ⟨b, 0, none⟩), .int .i64 nd] (by rfl) rfl rfl (by simp only [List.map_toArray, List.map_cons, List.map_nil]; rfl) ?_
 with_reducible refine (log_node b g nodes nd v h1 (by omega) _ HS.1.b.blk).mono ?_
 rintro e_ w3 ⟨rfl, rfl⟩
 refine ⟨_, rfl, ?_⟩
 refine hK.out _ _ ⟨hHeld.1, hHeld.2⟩ (fun hHeld => ?_)
 clear hK K
 refine no_ 12 ?_
 refine one_ (i := 7) (N := some 16) (bz 10 255) rfl rfl (by kernel_rfl) (by decide) (fun K hK => ?_)
 refine goes_ Tryz.func80 (by kernel_rfl) rfl #[.pointer (some ⟨b, 0, none⟩), .int .i64 st] (by rfl) rfl rfl (by simp only [List.map_toArray, List.map_cons, List.map_nil]; rfl) ?_
 with_reducible refine (log_node b g nodes st v h2 (by omega) _ HS.1.b.blk).mono ?_
 rintro e_ w3 ⟨rfl, rfl⟩
 refine ⟨_, rfl, ?_⟩
 refine hK.out _ _ ⟨hHeld.1, hHeld.2⟩ (fun hHeld => ?_)
 clear hK K
 refine no_ 16 ?_
 refine pu_ 8 5 511 ?_
 refine pu_ 9 6 1023 ?_
 refine done_ (by kernel_rfl) ?_
 have hnd : nd * 6 + 5 < cn.length := by omega
 have hst : st * 6 + 5 < cn.length := by omega
 clear e0 e1 hlen
 have e2 := HS.1.e.blk.at 2 (.int .i64 ow) rfl
 go_upto_region 6 with (go_at_call 80; (with_reducible refine (log_node b g nodes ow v h3 (by omega) _ HS.1.b.blk).mono ?_); rintro e_ w3 ⟨rfl, rfl⟩)
 clear e2
 obtain ⟨ji, hji, hjs⟩ : ∃ j, Tryz.prog.info? 67 = some j ∧ j.size = 6 := by
  have h : (Tryz.prog.info? 67).map (fun i => i.size) = some 6 := by kernel_rfl
  exact Option.map_eq_some_iff.1 h
 have info4 : (Tryz.prog.info? 99).map (fun i => (i.zero, i.size, i.bytes)) = some (some (.agg #[.int .i64 0, .int .i64 0, .int .i64 0, .bool false]), 4, 32) := by kernel_rfl
 have HLEN := ak hlen2
 have HX := ak (show ∀ c, c = nd ∨ c = st ∨ c = ow → c * 6 + 5 < nodes * 6 by rintro c (rfl | rfl | rfl) <;> omega)
 have hev2 : (ev.length + 1) * 32 ≤ 140737488355328 := by omega
 have HEV := ak hev2
 clear hlen2 hnd hst h1 h2 h3 hev2
 by_cases hs : nd = st
 ·subst hs
  have hpe := run_eql_ptr_same (P := Tryz.prog) w3 ⟨g, nd * 6, none⟩ Tryz.underlying152 hji
  cases il
  ·have cc := HS.1.c.at (nd * 6) (by rw [HLEN.1]; have := HX.1 nd (by simp); omega)
   have ff := HS.1.c.blk.fz (nd * 6)
   obtain ⟨cx0, hcx0⟩ : ∃ cx, cn.getD (nd * 6) 0 = cx := ⟨_, rfl⟩
   rw [hcx0] at cc
   have n0_ := ak (HS.1.bump (nd * 6))
   rw [hcx0] at n0_
   have HC0 := ak hcx0
   clear hcx0
   go_upto_region 8 with fail
   obtain ⟨W0, hW⟩ : ∃ W', (w3.setCell ⟨g, nd * 6, none⟩ (.int .i64 (wrap64 (cx0 + 1)))) = W' := ⟨_, rfl⟩
   rw [hW] at n0_ ⊢
   clear HS cc ff hW
   have HS := n0_
   clear n0_
   obtain ⟨c0, hc0⟩ : ∃ c, bump cn (nd * 6) = c := ⟨_, rfl⟩
   rw [hc0] at HS
   have HL0 := ak (show c0.length = nodes * 6 by rw [← hc0, bump_len]; exact HLEN.1)
   have HB0 := ak hc0
   clear hc0
   have e3 := HS.1.e.blk.at 3 (.bool false) rfl
   go_upto_region 12 with fail
   clear e3
   have e0 := HS.1.e.blk.at 0 (.int .i64 nd) rfl
   have e2 := HS.1.e.blk.at 2 (.int .i64 ow) rfl
   by_cases ho : nd = ow
   ·skip
    subst ho
    go_upto_region 13 with fail
    clear e0 e2
    have cc := HS.1.c.at (nd * 6 + 3) (by rw [HL0.1]; have := HX.1 nd (by simp); omega)
    have ff := HS.1.c.blk.fz (nd * 6 + 3)
    obtain ⟨cx1, hcx1⟩ : ∃ cx, c0.getD (nd * 6 + 3) 0 = cx := ⟨_, rfl⟩
    rw [hcx1] at cc
    have n0_ := ak (HS.1.bump (nd * 6 + 3))
    rw [hcx1] at n0_
    have HC1 := ak hcx1
    clear hcx1
    go_upto_region 15 with fail
    obtain ⟨W1, hW⟩ : ∃ W', (W0.setCell ⟨g, nd * 6 + 3, none⟩ (.int .i64 (wrap64 (cx1 + 1)))) = W' := ⟨_, rfl⟩
    rw [hW] at n0_ ⊢
    clear HS cc ff hW
    have HS := n0_
    clear n0_
    obtain ⟨c1, hc1⟩ : ∃ c, bump c0 (nd * 6 + 3) = c := ⟨_, rfl⟩
    rw [hc1] at HS
    have HL1 := ak (show c1.length = nodes * 6 by rw [← hc1, bump_len]; exact HL0.1)
    have HB1 := ak hc1
    clear hc1
    have q0 := HS.1.b.blk.at 0 v rfl
    have q1 := HS.1.e.blk.at 0 (.int .i64 nd) rfl
    have q2 := HS.1.e.blk.at 1 (.int .i64 nd) rfl
    have q3 := HS.1.e.blk.at 2 (.int .i64 nd) rfl
    have q4 := HS.1.e.blk.at 3 (.bool false) rfl
    refine st_ 11 (fun w' => w'.cell? ⟨b, 0, none⟩ = some v ∧ w'.cell? ⟨w.heap.size, 0, none⟩ = some (.int .i64 nd) ∧ w'.cell? ⟨w.heap.size, 1, none⟩ = some (.int .i64 nd) ∧ w'.cell? ⟨w.heap.size, 2, none⟩ = some (.int .i64 nd) ∧ w'.cell? ⟨w.heap.size, 3, none⟩ = some (.bool false)) [7, 10] ⟨q0, q1, q2, q3, q4⟩ (fun hHeld => ?_)
    have n0_ := ak (HS.1.below (below_drew (RowKit.Below.refl _ _)))
    clear HS q0 q1 q2 q3 q4
    generalize W1.drew = wd at *
    have HS := n0_
    clear n0_
    refine pu_ 0 82 1 ?_
    refine pu_ 1 83 3 ?_
    refine pu_ 2 84 7 ?_
    refine pu_ 3 85 15 ?_
    refine ta_ 4 86 31 hHeld ?_
    refine ta_ 5 87 63 hHeld ?_
    refine one_ (i := 6) (N := some 88) (bz 11 127) rfl rfl (by kernel_rfl) (by decide) (fun K hK => ?_)
    refine va_ ?_
    refine hK.out _ _ ⟨(HS.1.b.blk.alloc _).at 0 v rfl, (HS.1.e.blk.alloc _).at 0 (.int .i64 nd) rfl, (HS.1.e.blk.alloc _).at 1 (.int .i64 nd) rfl, (HS.1.e.blk.alloc _).at 2 (.int .i64 nd) rfl, (HS.1.e.blk.alloc _).at 3 (.bool false) rfl⟩ (fun hHeld => ?_)
    clear hK K
    refine no_ 88 ?_
    refine last_ (i := 7) (N := some 89) (bz 11 255) rfl rfl (by kernel_rfl) (by decide) (fun K hK => ?_)
    refine step_append_cells (w0 := wd) 0 rfl (.tmp 86) (.tmp 88) 82 99 (.agg #[.int .i64 0, .int .i64 0, .int .i64 0, .bool false]) 4 32 rfl Tryz.underlying82 info4 rfl (by decide) (by decide) v ev.length ec [.int .i64 nd, .int .i64 nd, .int .i64 nd, .bool false] rfl rfl rfl (by intro u hu; simp at hu; rcases hu with rfl | rfl | rfl | rfl <;> rfl) HS.1.r.1 (RowKit.Below.refl _ _) (Nat.zero_le _) HEV.1 ?_
    intro v7 w7 ho7 hb7 hg7 hat7
    have hG := RowG.grown HS.1.r ho7 hg7 hat7
    obtain ⟨A7, c7, rfl⟩ := hG.1.sl
    have HG := ak hG
    have q7 := (HS.1.b.upd hG.2 (by omega)).blk.at 0 v rfl
    have f7 := (HS.1.b.upd hG.2 (by omega)).blk.fz 0
    clear ho7 hb7 hg7 hat7 hG
    refine hK.out _ _ ?_
    clear hK K
    refine no_ 89 ?_
    refine pu_ 8 90 511 ?_
    refine pu_ 9 91 1023 ?_
    refine last_ (i := 10) (N := none) (bz 11 2047) rfl rfl (by kernel_rfl) (by decide) (fun K hK => ?_)
    refine skip_ (w1 := ?_) (by rfl) rfl ?_ ?_
    rotate_left
    ·go_simp
     rfl
    refine hK.out _ _ ?_
    clear hK K
    refine done_ (by kernel_rfl) ?_
    go_wp2_with fail
    go_ret
    have hb7 := HS.1.b.upd HG.1.2 (by omega)
    have hu7 := (Upd.refl (· = i) ((κ.ext w.heap.size (i + 999)).ext wd.heap.size (i + 2)) w7).set ⟨b, 0, none⟩ (fun _ => hb7.kol) (.slice A7 (ev.length + 1) c7)
    refine ⟨rfl, _, ⟨by rw [addC_len]; exact HLEN.1, .slice A7 (ev.length + 1) c7, g, hb7.set 0 _, ?_, ?_⟩, (HS.1.u.then HG.1.2 (fun c e => by omega)).set ⟨b, 0, none⟩ (fun hh => by show i ≤ κ b ∧ κ b < i + 3; rw [HKB.1]; omega) _⟩
    ·have hc7 := (BlkK.upd HS.1.c HG.1.2 (by omega)).upd hu7 (by omega)
     have he : addC cn ⟨nd, nd, nd, false⟩ = c1 := by simp [addC, HB0.1, HC0.1, HB1.1, HC1.1]
     rw [he]
     exact hc7
    ·have hr7 := HG.1.1.upd hu7 (by omega)
     rw [List.length_append, List.length_singleton]
     have he : evCells (ev ++ [⟨nd, nd, nd, false⟩]) = ec ++ [.int .i64 nd, .int .i64 nd, .int .i64 nd, .bool false] := by
      rw [← HEC.1]
      unfold evCells
      rw [List.flatMap_append]
      rfl
     rw [he]
     exact hr7
   ·skip
    have hoI : ¬ ((nd : Int) = (ow : Int)) := by omega
    go_upto_region 14 with fail
    clear e0 e2
    have cc := HS.1.c.at (nd * 6 + 4) (by rw [HL0.1]; have := HX.1 nd (by simp); omega)
    have ff := HS.1.c.blk.fz (nd * 6 + 4)
    obtain ⟨cx1, hcx1⟩ : ∃ cx, c0.getD (nd * 6 + 4) 0 = cx := ⟨_, rfl⟩
    rw [hcx1] at cc
    have n0_ := ak (HS.1.bump (nd * 6 + 4))
    rw [hcx1] at n0_
    have HC1 := ak hcx1
    clear hcx1
    go_upto_region 15 with fail
    obtain ⟨W1, hW⟩ : ∃ W', (W0.setCell ⟨g, nd * 6 + 4, none⟩ (.int .i64 (wrap64 (cx1 + 1)))) = W' := ⟨_, rfl⟩
    rw [hW] at n0_ ⊢
    clear HS cc ff hW
    have HS := n0_
    clear n0_
    obtain ⟨c1, hc1⟩ : ∃ c, bump c0 (nd * 6 + 4) = c := ⟨_, rfl⟩
    rw [hc1] at HS
    have HL1 := ak (show c1.length = nodes * 6 by rw [← hc1, bump_len]; exact HL0.1)
    have HB1 := ak hc1
    clear hc1
    have q0 := HS.1.b.blk.at 0 v rfl
    have q1 := HS.1.e.blk.at 0 (.int .i64 nd) rfl
    have q2 := HS.1.e.blk.at 1 (.int .i64 nd) rfl
    have q3 := HS.1.e.blk.at 2 (.int .i64 ow) rfl
    have q4 := HS.1.e.blk.at 3 (.bool false) rfl
    refine st_ 11 (fun w' => w'.cell? ⟨b, 0, none⟩ = some v ∧ w'.cell? ⟨w.heap.size, 0, none⟩ = some (.int .i64 nd) ∧ w'.cell? ⟨w.heap.size, 1, none⟩ = some (.int .i64 nd) ∧ w'.cell? ⟨w.heap.size, 2, none⟩ = some (.int .i64 ow) ∧ w'.cell? ⟨w.heap.size, 3, none⟩ = some (.bool false)) [7, 10] ⟨q0, q1, q2, q3, q4⟩ (fun hHeld => ?_)
    have n0_ := ak (HS.1.below (below_drew (RowKit.Below.refl _ _)))
    clear HS q0 q1 q2 q3 q4
    generalize W1.drew = wd at *
    have HS := n0_
    clear n0_
    refine pu_ 0 82 1 ?_
    refine pu_ 1 83 3 ?_
    refine pu_ 2 84 7 ?_
    refine pu_ 3 85 15 ?_
    refine ta_ 4 86 31 hHeld ?_
    refine ta_ 5 87 63 hHeld ?_
    refine one_ (i := 6) (N := some 88) (bz 11 127) rfl rfl (by kernel_rfl) (by decide) (fun K hK => ?_)
    refine va_ ?_
    refine hK.out _ _ ⟨(HS.1.b.blk.alloc _).at 0 v rfl, (HS.1.e.blk.alloc _).at 0 (.int .i64 nd) rfl, (HS.1.e.blk.alloc _).at 1 (.int .i64 nd) rfl, (HS.1.e.blk.alloc _).at 2 (.int .i64 ow) rfl, (HS.1.e.blk.alloc _).at 3 (.bool false) rfl⟩ (fun hHeld => ?_)
    clear hK K
    refine no_ 88 ?_
    refine last_ (i := 7) (N := some 89) (bz 11 255) rfl rfl (by kernel_rfl) (by decide) (fun K hK => ?_)
    refine step_append_cells (w0 := wd) 0 rfl (.tmp 86) (.tmp 88) 82 99 (.agg #[.int .i64 0, .int .i64 0, .int .i64 0, .bool false]) 4 32 rfl Tryz.underlying82 info4 rfl (by decide) (by decide) v ev.length ec [.int .i64 nd, .int .i64 nd, .int .i64 ow, .bool false] rfl rfl rfl (by intro u hu; simp at hu; rcases hu with rfl | rfl | rfl | rfl <;> rfl) HS.1.r.1 (RowKit.Below.refl _ _) (Nat.zero_le _) HEV.1 ?_
    intro v7 w7 ho7 hb7 hg7 hat7
    have hG := RowG.grown HS.1.r ho7 hg7 hat7
    obtain ⟨A7, c7, rfl⟩ := hG.1.sl
    have HG := ak hG
    have q7 := (HS.1.b.upd hG.2 (by omega)).blk.at 0 v rfl
    have f7 := (HS.1.b.upd hG.2 (by omega)).blk.fz 0
    clear ho7 hb7 hg7 hat7 hG
    refine hK.out _ _ ?_
    clear hK K
    refine no_ 89 ?_
    refine pu_ 8 90 511 ?_
    refine pu_ 9 91 1023 ?_
    refine last_ (i := 10) (N := none) (bz 11 2047) rfl rfl (by kernel_rfl) (by decide) (fun K hK => ?_)
    refine skip_ (w1 := ?_) (by rfl) rfl ?_ ?_
    rotate_left
    ·go_simp
     rfl
    refine hK.out _ _ ?_
    clear hK K
    refine done_ (by kernel_rfl) ?_
    go_wp2_with fail
    go_ret
    have hb7 := HS.1.b.upd HG.1.2 (by omega)
    have hu7 := (Upd.refl (· = i) ((κ.ext w.heap.size (i + 999)).ext wd.heap.size (i + 2)) w7).set ⟨b, 0, none⟩ (fun _ => hb7.kol) (.slice A7 (ev.length + 1) c7)
    refine ⟨rfl, _, ⟨by rw [addC_len]; exact HLEN.1, .slice A7 (ev.length + 1) c7, g, hb7.set 0 _, ?_, ?_⟩, (HS.1.u.then HG.1.2 (fun c e => by omega)).set ⟨b, 0, none⟩ (fun hh => by show i ≤ κ b ∧ κ b < i + 3; rw [HKB.1]; omega) _⟩
    ·have hc7 := (BlkK.upd HS.1.c HG.1.2 (by omega)).upd hu7 (by omega)
     have he : addC cn ⟨nd, nd, ow, false⟩ = c1 := by simp [addC, ho, HB0.1, HC0.1, HB1.1, HC1.1]
     rw [he]
     exact hc7
    ·have hr7 := HG.1.1.upd hu7 (by omega)
     rw [List.length_append, List.length_singleton]
     have he : evCells (ev ++ [⟨nd, nd, ow, false⟩]) = ec ++ [.int .i64 nd, .int .i64 nd, .int .i64 ow, .bool false] := by
      rw [← HEC.1]
      unfold evCells
      rw [List.flatMap_append]
      rfl
     rw [he]
     exact hr7
  ·have cc := HS.1.c.at (nd * 6) (by rw [HLEN.1]; have := HX.1 nd (by simp); omega)
   have ff := HS.1.c.blk.fz (nd * 6)
   obtain ⟨cx0, hcx0⟩ : ∃ cx, cn.getD (nd * 6) 0 = cx := ⟨_, rfl⟩
   rw [hcx0] at cc
   have n0_ := ak (HS.1.bump (nd * 6))
   rw [hcx0] at n0_
   have HC0 := ak hcx0
   clear hcx0
   go_upto_region 8 with fail
   obtain ⟨W0, hW⟩ : ∃ W', (w3.setCell ⟨g, nd * 6, none⟩ (.int .i64 (wrap64 (cx0 + 1)))) = W' := ⟨_, rfl⟩
   rw [hW] at n0_ ⊢
   clear HS cc ff hW
   have HS := n0_
   clear n0_
   obtain ⟨c0, hc0⟩ : ∃ c, bump cn (nd * 6) = c := ⟨_, rfl⟩
   rw [hc0] at HS
   have HL0 := ak (show c0.length = nodes * 6 by rw [← hc0, bump_len]; exact HLEN.1)
   have HB0 := ak hc0
   clear hc0
   have e3 := HS.1.e.blk.at 3 (.bool true) rfl
   go_upto_region 9 with fail
   clear e3
   have cc := HS.1.c.at (nd * 6 + 5) (by rw [HL0.1]; have := HX.1 nd (by simp); omega)
   have ff := HS.1.c.blk.fz (nd * 6 + 5)
   obtain ⟨cx1, hcx1⟩ : ∃ cx, c0.getD (nd * 6 + 5) 0 = cx := ⟨_, rfl⟩
   rw [hcx1] at cc
   have n0_ := ak (HS.1.bump (nd * 6 + 5))
   rw [hcx1] at n0_
   have HC1 := ak hcx1
   clear hcx1
   go_upto_region 12 with fail
   obtain ⟨W1, hW⟩ : ∃ W', (W0.setCell ⟨g, nd * 6 + 5, none⟩ (.int .i64 (wrap64 (cx1 + 1)))) = W' := ⟨_, rfl⟩
   rw [hW] at n0_ ⊢
   clear HS cc ff hW
   have HS := n0_
   clear n0_
   obtain ⟨c1, hc1⟩ : ∃ c, bump c0 (nd * 6 + 5) = c := ⟨_, rfl⟩
   rw [hc1] at HS
   have HL1 := ak (show c1.length = nodes * 6 by rw [← hc1, bump_len]; exact HL0.1)
   have HB1 := ak hc1
   clear hc1
   have e0 := HS.1.e.blk.at 0 (.int .i64 nd) rfl
   have e2 := HS.1.e.blk.at 2 (.int .i64 ow) rfl
   by_cases ho : nd = ow
   ·skip
    subst ho
    go_upto_region 13 with fail
    clear e0 e2
    have cc := HS.1.c.at (nd * 6 + 3) (by rw [HL1.1]; have := HX.1 nd (by simp); omega)
    have ff := HS.1.c.blk.fz (nd * 6 + 3)
    obtain ⟨cx2, hcx2⟩ : ∃ cx, c1.getD (nd * 6 + 3) 0 = cx := ⟨_, rfl⟩
    rw [hcx2] at cc
    have n0_ := ak (HS.1.bump (nd * 6 + 3))
    rw [hcx2] at n0_
    have HC2 := ak hcx2
    clear hcx2
    go_upto_region 15 with fail
    obtain ⟨W2, hW⟩ : ∃ W', (W1.setCell ⟨g, nd * 6 + 3, none⟩ (.int .i64 (wrap64 (cx2 + 1)))) = W' := ⟨_, rfl⟩
    rw [hW] at n0_ ⊢
    clear HS cc ff hW
    have HS := n0_
    clear n0_
    obtain ⟨c2, hc2⟩ : ∃ c, bump c1 (nd * 6 + 3) = c := ⟨_, rfl⟩
    rw [hc2] at HS
    have HL2 := ak (show c2.length = nodes * 6 by rw [← hc2, bump_len]; exact HL1.1)
    have HB2 := ak hc2
    clear hc2
    have q0 := HS.1.b.blk.at 0 v rfl
    have q1 := HS.1.e.blk.at 0 (.int .i64 nd) rfl
    have q2 := HS.1.e.blk.at 1 (.int .i64 nd) rfl
    have q3 := HS.1.e.blk.at 2 (.int .i64 nd) rfl
    have q4 := HS.1.e.blk.at 3 (.bool true) rfl
    refine st_ 11 (fun w' => w'.cell? ⟨b, 0, none⟩ = some v ∧ w'.cell? ⟨w.heap.size, 0, none⟩ = some (.int .i64 nd) ∧ w'.cell? ⟨w.heap.size, 1, none⟩ = some (.int .i64 nd) ∧ w'.cell? ⟨w.heap.size, 2, none⟩ = some (.int .i64 nd) ∧ w'.cell? ⟨w.heap.size, 3, none⟩ = some (.bool true)) [7, 10] ⟨q0, q1, q2, q3, q4⟩ (fun hHeld => ?_)
    have n0_ := ak (HS.1.below (below_drew (RowKit.Below.refl _ _)))
    clear HS q0 q1 q2 q3 q4
    generalize W2.drew = wd at *
    have HS := n0_
    clear n0_
    refine pu_ 0 82 1 ?_
    refine pu_ 1 83 3 ?_
    refine pu_ 2 84 7 ?_
    refine pu_ 3 85 15 ?_
    refine ta_ 4 86 31 hHeld ?_
    refine ta_ 5 87 63 hHeld ?_
    refine one_ (i := 6) (N := some 88) (bz 11 127) rfl rfl (by kernel_rfl) (by decide) (fun K hK => ?_)
    refine va_ ?_
    refine hK.out _ _ ⟨(HS.1.b.blk.alloc _).at 0 v rfl, (HS.1.e.blk.alloc _).at 0 (.int .i64 nd) rfl, (HS.1.e.blk.alloc _).at 1 (.int .i64 nd) rfl, (HS.1.e.blk.alloc _).at 2 (.int .i64 nd) rfl, (HS.1.e.blk.alloc _).at 3 (.bool true) rfl⟩ (fun hHeld => ?_)
    clear hK K
    refine no_ 88 ?_
    refine last_ (i := 7) (N := some 89) (bz 11 255) rfl rfl (by kernel_rfl) (by decide) (fun K hK => ?_)
    refine step_append_cells (w0 := wd) 0 rfl (.tmp 86) (.tmp 88) 82 99 (.agg #[.int .i64 0, .int .i64 0, .int .i64 0, .bool false]) 4 32 rfl Tryz.underlying82 info4 rfl (by decide) (by decide) v ev.length ec [.int .i64 nd, .int .i64 nd, .int .i64 nd, .bool true] rfl rfl rfl (by intro u hu; simp at hu; rcases hu with rfl | rfl | rfl | rfl <;> rfl) HS.1.r.1 (RowKit.Below.refl _ _) (Nat.zero_le _) HEV.1 ?_
    intro v7 w7 ho7 hb7 hg7 hat7
    have hG := RowG.grown HS.1.r ho7 hg7 hat7
    obtain ⟨A7, c7, rfl⟩ := hG.1.sl
    have HG := ak hG
    have q7 := (HS.1.b.upd hG.2 (by omega)).blk.at 0 v rfl
    have f7 := (HS.1.b.upd hG.2 (by omega)).blk.fz 0
    clear ho7 hb7 hg7 hat7 hG
    refine hK.out _ _ ?_
    clear hK K
    refine no_ 89 ?_
    refine pu_ 8 90 511 ?_
    refine pu_ 9 91 1023 ?_
    refine last_ (i := 10) (N := none) (bz 11 2047) rfl rfl (by kernel_rfl) (by decide) (fun K hK => ?_)
    refine skip_ (w1 := ?_) (by rfl) rfl ?_ ?_
    rotate_left
    ·go_simp
     rfl
    refine hK.out _ _ ?_
    clear hK K
    refine done_ (by kernel_rfl) ?_
    go_wp2_with fail
    go_ret
    have hb7 := HS.1.b.upd HG.1.2 (by omega)
    have hu7 := (Upd.refl (· = i) ((κ.ext w.heap.size (i + 999)).ext wd.heap.size (i + 2)) w7).set ⟨b, 0, none⟩ (fun _ => hb7.kol) (.slice A7 (ev.length + 1) c7)
    refine ⟨rfl, _, ⟨by rw [addC_len]; exact HLEN.1, .slice A7 (ev.length + 1) c7, g, hb7.set 0 _, ?_, ?_⟩, (HS.1.u.then HG.1.2 (fun c e => by omega)).set ⟨b, 0, none⟩ (fun hh => by show i ≤ κ b ∧ κ b < i + 3; rw [HKB.1]; omega) _⟩
    ·have hc7 := (BlkK.upd HS.1.c HG.1.2 (by omega)).upd hu7 (by omega)
     have he : addC cn ⟨nd, nd, nd, true⟩ = c2 := by simp [addC, HB0.1, HC0.1, HB1.1, HC1.1, HB2.1, HC2.1]
     rw [he]
     exact hc7
    ·have hr7 := HG.1.1.upd hu7 (by omega)
     rw [List.length_append, List.length_singleton]
     have he : evCells (ev ++ [⟨nd, nd, nd, true⟩]) = ec ++ [.int .i64 nd, .int .i64 nd, .int .i64 nd, .bool true] := by
      rw [← HEC.1]
      unfold evCells
      rw [List.flatMap_append]
      rfl
     rw [he]
     exact hr7
   ·skip
    have hoI : ¬ ((nd : Int) = (ow : Int)) := by omega
    go_upto_region 14 with fail
    clear e0 e2
    have cc := HS.1.c.at (nd * 6 + 4) (by rw [HL1.1]; have := HX.1 nd (by simp); omega)
    have ff := HS.1.c.blk.fz (nd * 6 + 4)
    obtain ⟨cx2, hcx2⟩ : ∃ cx, c1.getD (nd * 6 + 4) 0 = cx := ⟨_, rfl⟩
    rw [hcx2] at cc
    have n0_ := ak (HS.1.bump (nd * 6 + 4))
    rw [hcx2] at n0_
    have HC2 := ak hcx2
    clear hcx2
    go_upto_region 15 with fail
    obtain ⟨W2, hW⟩ : ∃ W', (W1.setCell ⟨g, nd * 6 + 4, none⟩ (.int .i64 (wrap64 (cx2 + 1)))) = W' := ⟨_, rfl⟩
    rw [hW] at n0_ ⊢
    clear HS cc ff hW
    have HS := n0_
    clear n0_
    obtain ⟨c2, hc2⟩ : ∃ c, bump c1 (nd * 6 + 4) = c := ⟨_, rfl⟩
    rw [hc2] at HS
    have HL2 := ak (show c2.length = nodes * 6 by rw [← hc2, bump_len]; exact HL1.1)
    have HB2 := ak hc2
    clear hc2
    have q0 := HS.1.b.blk.at 0 v rfl
    have q1 := HS.1.e.blk.at 0 (.int .i64 nd) rfl
    have q2 := HS.1.e.blk.at 1 (.int .i64 nd) rfl
    have q3 := HS.1.e.blk.at 2 (.int .i64 ow) rfl
    have q4 := HS.1.e.blk.at 3 (.bool true) rfl
    refine st_ 11 (fun w' => w'.cell? ⟨b, 0, none⟩ = some v ∧ w'.cell? ⟨w.heap.size, 0, none⟩ = some (.int .i64 nd) ∧ w'.cell? ⟨w.heap.size, 1, none⟩ = some (.int .i64 nd) ∧ w'.cell? ⟨w.heap.size, 2, none⟩ = some (.int .i64 ow) ∧ w'.cell? ⟨w.heap.size, 3, none⟩ = some (.bool true)) [7, 10] ⟨q0, q1, q2, q3, q4⟩ (fun hHeld => ?_)
    have n0_ := ak (HS.1.below (below_drew (RowKit.Below.refl _ _)))
    clear HS q0 q1 q2 q3 q4
    generalize W2.drew = wd at *
    have HS := n0_
    clear n0_
    refine pu_ 0 82 1 ?_
    refine pu_ 1 83 3 ?_
    refine pu_ 2 84 7 ?_
    refine pu_ 3 85 15 ?_
    refine ta_ 4 86 31 hHeld ?_
    refine ta_ 5 87 63 hHeld ?_
    refine one_ (i := 6) (N := some 88) (bz 11 127) rfl rfl (by kernel_rfl) (by decide) (fun K hK => ?_)
    refine va_ ?_
    refine hK.out _ _ ⟨(HS.1.b.blk.alloc _).at 0 v rfl, (HS.1.e.blk.alloc _).at 0 (.int .i64 nd) rfl, (HS.1.e.blk.alloc _).at 1 (.int .i64 nd) rfl, (HS.1.e.blk.alloc _).at 2 (.int .i64 ow) rfl, (HS.1.e.blk.alloc _).at 3 (.bool true) rfl⟩ (fun hHeld => ?_)
    clear hK K
    refine no_ 88 ?_
    refine last_ (i := 7) (N := some 89) (bz 11 255) rfl rfl (by kernel_rfl) (by decide) (fun K hK => ?_)
    refine step_append_cells (w0 := wd) 0 rfl (.tmp 86) (.tmp 88) 82 99 (.agg #[.int .i64 0, .int .i64 0, .int .i64 0, .bool false]) 4 32 rfl Tryz.underlying82 info4 rfl (by decide) (by decide) v ev.length ec [.int .i64 nd, .int .i64 nd, .int .i64 ow, .bool true] rfl rfl rfl (by intro u hu; simp at hu; rcases hu with rfl | rfl | rfl | rfl <;> rfl) HS.1.r.1 (RowKit.Below.refl _ _) (Nat.zero_le _) HEV.1 ?_
    intro v7 w7 ho7 hb7 hg7 hat7
    have hG := RowG.grown HS.1.r ho7 hg7 hat7
    obtain ⟨A7, c7, rfl⟩ := hG.1.sl
    have HG := ak hG
    have q7 := (HS.1.b.upd hG.2 (by omega)).blk.at 0 v rfl
    have f7 := (HS.1.b.upd hG.2 (by omega)).blk.fz 0
    clear ho7 hb7 hg7 hat7 hG
    refine hK.out _ _ ?_
    clear hK K
    refine no_ 89 ?_
    refine pu_ 8 90 511 ?_
    refine pu_ 9 91 1023 ?_
    refine last_ (i := 10) (N := none) (bz 11 2047) rfl rfl (by kernel_rfl) (by decide) (fun K hK => ?_)
    refine skip_ (w1 := ?_) (by rfl) rfl ?_ ?_
    rotate_left
    ·go_simp
     rfl
    refine hK.out _ _ ?_
    clear hK K
    refine done_ (by kernel_rfl) ?_
    go_wp2_with fail
    go_ret
    have hb7 := HS.1.b.upd HG.1.2 (by omega)
    have hu7 := (Upd.refl (· = i) ((κ.ext w.heap.size (i + 999)).ext wd.heap.size (i + 2)) w7).set ⟨b, 0, none⟩ (fun _ => hb7.kol) (.slice A7 (ev.length + 1) c7)
    refine ⟨rfl, _, ⟨by rw [addC_len]; exact HLEN.1, .slice A7 (ev.length + 1) c7, g, hb7.set 0 _, ?_, ?_⟩, (HS.1.u.then HG.1.2 (fun c e => by omega)).set ⟨b, 0, none⟩ (fun hh => by show i ≤ κ b ∧ κ b < i + 3; rw [HKB.1]; omega) _⟩
    ·have hc7 := (BlkK.upd HS.1.c HG.1.2 (by omega)).upd hu7 (by omega)
     have he : addC cn ⟨nd, nd, ow, true⟩ = c2 := by simp [addC, ho, HB0.1, HC0.1, HB1.1, HC1.1, HB2.1, HC2.1]
     rw [he]
     exact hc7
    ·have hr7 := HG.1.1.upd hu7 (by omega)
     rw [List.length_append, List.length_singleton]
     have he : evCells (ev ++ [⟨nd, nd, ow, true⟩]) = ec ++ [.int .i64 nd, .int .i64 nd, .int .i64 ow, .bool true] := by
      rw [← HEC.1]
      unfold evCells
      rw [List.flatMap_append]
      rfl
     rw [he]
     exact hr7
 ·have hpe := run_eql_ptr_other (P := Tryz.prog) (a := ⟨g, nd * 6, none⟩) (b := ⟨g, st * 6, none⟩) w3 Tryz.underlying152 hji (by omega) (fun e => by injection e; omega) HS.1.c.blk HS.1.c.blk
  have cc := HS.1.c.at (nd * 6 + 1) (by rw [HLEN.1]; have := HX.1 nd (by simp); omega)
  have ff := HS.1.c.blk.fz (nd * 6 + 1)
  obtain ⟨cx0, hcx0⟩ : ∃ cx, cn.getD (nd * 6 + 1) 0 = cx := ⟨_, rfl⟩
  rw [hcx0] at cc
  have n0_ := ak (HS.1.bump (nd * 6 + 1))
  rw [hcx0] at n0_
  have HC0 := ak hcx0
  clear hcx0
  go_upto_region 11 with fail
  obtain ⟨W0, hW⟩ : ∃ W', (w3.setCell ⟨g, nd * 6 + 1, none⟩ (.int .i64 (wrap64 (cx0 + 1)))) = W' := ⟨_, rfl⟩
  rw [hW] at n0_ ⊢
  clear HS cc ff hW
  have HS := n0_
  clear n0_
  obtain ⟨c0, hc0⟩ : ∃ c, bump cn (nd * 6 + 1) = c := ⟨_, rfl⟩
  rw [hc0] at HS
  have HL0 := ak (show c0.length = nodes * 6 by rw [← hc0, bump_len]; exact HLEN.1)
  have HB0 := ak hc0
  clear hc0
  have cc := HS.1.c.at (st * 6 + 2) (by rw [HL0.1]; have := HX.1 st (by simp); omega)
  have ff := HS.1.c.blk.fz (st * 6 + 2)
  obtain ⟨cx1, hcx1⟩ : ∃ cx, c0.getD (st * 6 + 2) 0 = cx := ⟨_, rfl⟩
  rw [hcx1] at cc
  have n0_ := ak (HS.1.bump (st * 6 + 2))
  rw [hcx1] at n0_
  have HC1 := ak hcx1
  clear hcx1
  go_upto_region 12 with fail
  obtain ⟨W1, hW⟩ : ∃ W', (W0.setCell ⟨g, st * 6 + 2, none⟩ (.int .i64 (wrap64 (cx1 + 1)))) = W' := ⟨_, rfl⟩
  rw [hW] at n0_ ⊢
  clear HS cc ff hW
  have HS := n0_
  clear n0_
  obtain ⟨c1, hc1⟩ : ∃ c, bump c0 (st * 6 + 2) = c := ⟨_, rfl⟩
  rw [hc1] at HS
  have HL1 := ak (show c1.length = nodes * 6 by rw [← hc1, bump_len]; exact HL0.1)
  have HB1 := ak hc1
  clear hc1
  have e0 := HS.1.e.blk.at 0 (.int .i64 nd) rfl
  have e2 := HS.1.e.blk.at 2 (.int .i64 ow) rfl
  by_cases ho : nd = ow
  ·skip
   subst ho
   go_upto_region 13 with fail
   clear e0 e2
   have cc := HS.1.c.at (nd * 6 + 3) (by rw [HL1.1]; have := HX.1 nd (by simp); omega)
   have ff := HS.1.c.blk.fz (nd * 6 + 3)
   obtain ⟨cx2, hcx2⟩ : ∃ cx, c1.getD (nd * 6 + 3) 0 = cx := ⟨_, rfl⟩
   rw [hcx2] at cc
   have n0_ := ak (HS.1.bump (nd * 6 + 3))
   rw [hcx2] at n0_
   have HC2 := ak hcx2
   clear hcx2
   go_upto_region 15 with fail
   obtain ⟨W2, hW⟩ : ∃ W', (W1.setCell ⟨g, nd * 6 + 3, none⟩ (.int .i64 (wrap64 (cx2 + 1)))) = W' := ⟨_, rfl⟩
   rw [hW] at n0_ ⊢
   clear HS cc ff hW
   have HS := n0_
   clear n0_
   obtain ⟨c2, hc2⟩ : ∃ c, bump c1 (nd * 6 + 3) = c := ⟨_, rfl⟩
   rw [hc2] at HS
   have HL2 := ak (show c2.length = nodes * 6 by rw [← hc2, bump_len]; exact HL1.1)
   have HB2 := ak hc2
   clear hc2
   have q0 := HS.1.b.blk.at 0 v rfl
   have q1 := HS.1.e.blk.at 0 (.int .i64 nd) rfl
   have q2 := HS.1.e.blk.at 1 (.int .i64 st) rfl
   have q3 := HS.1.e.blk.at 2 (.int .i64 nd) rfl
   have q4 := HS.1.e.blk.at 3 (.bool il) rfl
   refine st_ 11 (fun w' => w'.cell? ⟨b, 0, none⟩ = some v ∧ w'.cell? ⟨w.heap.size, 0, none⟩ = some (.int .i64 nd) ∧ w'.cell? ⟨w.heap.size, 1, none⟩ = some (.int .i64 st) ∧ w'.cell? ⟨w.heap.size, 2, none⟩ = some (.int .i64 nd) ∧ w'.cell? ⟨w.heap.size, 3, none⟩ = some (.bool il)) [7, 10] ⟨q0, q1, q2, q3, q4⟩ (fun hHeld => ?_)
   have n0_ := ak (HS.1.below (below_drew (RowKit.Below.refl _ _)))
   clear HS q0 q1 q2 q3 q4
   generalize W2.drew = wd at *
   have HS := n0_
   clear n0_
   refine pu_ 0 82 1 ?_
   refine pu_ 1 83 3 ?_
   refine pu_ 2 84 7 ?_
   refine pu_ 3 85 15 ?_
   refine ta_ 4 86 31 hHeld ?_
   refine ta_ 5 87 63 hHeld ?_
   refine one_ (i := 6) (N := some 88) (bz 11 127) rfl rfl (by kernel_rfl) (by decide) (fun K hK => ?_)
   refine va_ ?_
   refine hK.out _ _ ⟨(HS.1.b.blk.alloc _).at 0 v rfl, (HS.1.e.blk.alloc _).at 0 (.int .i64 nd) rfl, (HS.1.e.blk.alloc _).at 1 (.int .i64 st) rfl, (HS.1.e.blk.alloc _).at 2 (.int .i64 nd) rfl, (HS.1.e.blk.alloc _).at 3 (.bool il) rfl⟩ (fun hHeld => ?_)
   clear hK K
   refine no_ 88 ?_
   refine last_ (i := 7) (N := some 89) (bz 11 255) rfl rfl (by kernel_rfl) (by decide) (fun K hK => ?_)
   refine step_append_cells (w0 := wd) 0 rfl (.tmp 86) (.tmp 88) 82 99 (.agg #[.int .i64 0, .int .i64 0, .int .i64 0, .bool false]) 4 32 rfl Tryz.underlying82 info4 rfl (by decide) (by decide) v ev.length ec [.int .i64 nd, .int .i64 st, .int .i64 nd, .bool il] rfl rfl rfl (by intro u hu; simp at hu; rcases hu with rfl | rfl | rfl | rfl <;> rfl) HS.1.r.1 (RowKit.Below.refl _ _) (Nat.zero_le _) HEV.1 ?_
   intro v7 w7 ho7 hb7 hg7 hat7
   have hG := RowG.grown HS.1.r ho7 hg7 hat7
   obtain ⟨A7, c7, rfl⟩ := hG.1.sl
   have HG := ak hG
   have q7 := (HS.1.b.upd hG.2 (by omega)).blk.at 0 v rfl
   have f7 := (HS.1.b.upd hG.2 (by omega)).blk.fz 0
   clear ho7 hb7 hg7 hat7 hG
   refine hK.out _ _ ?_
   clear hK K
   refine no_ 89 ?_
   refine pu_ 8 90 511 ?_
   refine pu_ 9 91 1023 ?_
   refine last_ (i := 10) (N := none) (bz 11 2047) rfl rfl (by kernel_rfl) (by decide) (fun K hK => ?_)
   refine skip_ (w1 := ?_) (by rfl) rfl ?_ ?_
   rotate_left
   ·go_simp
    rfl
   refine hK.out _ _ ?_
   clear hK K
   refine done_ (by kernel_rfl) ?_
   go_wp2_with fail
   go_ret
   have hb7 := HS.1.b.upd HG.1.2 (by omega)
   have hu7 := (Upd.refl (· = i) ((κ.ext w.heap.size (i + 999)).ext wd.heap.size (i + 2)) w7).set ⟨b, 0, none⟩ (fun _ => hb7.kol) (.slice A7 (ev.length + 1) c7)
   refine ⟨rfl, _, ⟨by rw [addC_len]; exact HLEN.1, .slice A7 (ev.length + 1) c7, g, hb7.set 0 _, ?_, ?_⟩, (HS.1.u.then HG.1.2 (fun c e => by omega)).set ⟨b, 0, none⟩ (fun hh => by show i ≤ κ b ∧ κ b < i + 3; rw [HKB.1]; omega) _⟩
   ·have hc7 := (BlkK.upd HS.1.c HG.1.2 (by omega)).upd hu7 (by omega)
    have he : addC cn ⟨nd, st, nd, il⟩ = c2 := by simp [addC, hs, HB0.1, HC0.1, HB1.1, HC1.1, HB2.1, HC2.1]
    rw [he]
    exact hc7
   ·have hr7 := HG.1.1.upd hu7 (by omega)
    rw [List.length_append, List.length_singleton]
    have he : evCells (ev ++ [⟨nd, st, nd, il⟩]) = ec ++ [.int .i64 nd, .int .i64 st, .int .i64 nd, .bool il] := by
     rw [← HEC.1]
     unfold evCells
     rw [List.flatMap_append]
     rfl
    rw [he]
    exact hr7
  ·skip
   have hoI : ¬ ((nd : Int) = (ow : Int)) := by omega
   go_upto_region 14 with fail
   clear e0 e2
   have cc := HS.1.c.at (nd * 6 + 4) (by rw [HL1.1]; have := HX.1 nd (by simp); omega)
   have ff := HS.1.c.blk.fz (nd * 6 + 4)
   obtain ⟨cx2, hcx2⟩ : ∃ cx, c1.getD (nd * 6 + 4) 0 = cx := ⟨_, rfl⟩
   rw [hcx2] at cc
   have n0_ := ak (HS.1.bump (nd * 6 + 4))
   rw [hcx2] at n0_
   have HC2 := ak hcx2
   clear hcx2
   go_upto_region 15 with fail
   obtain ⟨W2, hW⟩ : ∃ W', (W1.setCell ⟨g, nd * 6 + 4, none⟩ (.int .i64 (wrap64 (cx2 + 1)))) = W' := ⟨_, rfl⟩
   rw [hW] at n0_ ⊢
   clear HS cc ff hW
   have HS := n0_
   clear n0_
   obtain ⟨c2, hc2⟩ : ∃ c, bump c1 (nd * 6 + 4) = c := ⟨_, rfl⟩
   rw [hc2] at HS
   have HL2 := ak (show c2.length = nodes * 6 by rw [← hc2, bump_len]; exact HL1.1)
   have HB2 := ak hc2
   clear hc2
   have q0 := HS.1.b.blk.at 0 v rfl
   have q1 := HS.1.e.blk.at 0 (.int .i64 nd) rfl
   have q2 := HS.1.e.blk.at 1 (.int .i64 st) rfl
   have q3 := HS.1.e.blk.at 2 (.int .i64 ow) rfl
   have q4 := HS.1.e.blk.at 3 (.bool il) rfl
   refine st_ 11 (fun w' => w'.cell? ⟨b, 0, none⟩ = some v ∧ w'.cell? ⟨w.heap.size, 0, none⟩ = some (.int .i64 nd) ∧ w'.cell? ⟨w.heap.size, 1, none⟩ = some (.int .i64 st) ∧ w'.cell? ⟨w.heap.size, 2, none⟩ = some (.int .i64 ow) ∧ w'.cell? ⟨w.heap.size, 3, none⟩ = some (.bool il)) [7, 10] ⟨q0, q1, q2, q3, q4⟩ (fun hHeld => ?_)
   have n0_ := ak (HS.1.below (below_drew (RowKit.Below.refl _ _)))
   clear HS q0 q1 q2 q3 q4
   generalize W2.drew = wd at *
   have HS := n0_
   clear n0_
   refine pu_ 0 82 1 ?_
   refine pu_ 1 83 3 ?_
   refine pu_ 2 84 7 ?_
   refine pu_ 3 85 15 ?_
   refine ta_ 4 86 31 hHeld ?_
   refine ta_ 5 87 63 hHeld ?_
   refine one_ (i := 6) (N := some 88) (bz 11 127) rfl rfl (by kernel_rfl) (by decide) (fun K hK => ?_)
   refine va_ ?_
   refine hK.out _ _ ⟨(HS.1.b.blk.alloc _).at 0 v rfl, (HS.1.e.blk.alloc _).at 0 (.int .i64 nd) rfl, (HS.1.e.blk.alloc _).at 1 (.int .i64 st) rfl, (HS.1.e.blk.alloc _).at 2 (.int .i64 ow) rfl, (HS.1.e.blk.alloc _).at 3 (.bool il) rfl⟩ (fun hHeld => ?_)
   clear hK K
   refine no_ 88 ?_
   refine last_ (i := 7) (N := some 89) (bz 11 255) rfl rfl (by kernel_rfl) (by decide) (fun K hK => ?_)
   refine step_append_cells (w0 := wd) 0 rfl (.tmp 86) (.tmp 88) 82 99 (.agg #[.int .i64 0, .int .i64 0, .int .i64 0, .bool false]) 4 32 rfl Tryz.underlying82 info4 rfl (by decide) (by decide) v ev.length ec [.int .i64 nd, .int .i64 st, .int .i64 ow, .bool il] rfl rfl rfl (by intro u hu; simp at hu; rcases hu with rfl | rfl | rfl | rfl <;> rfl) HS.1.r.1 (RowKit.Below.refl _ _) (Nat.zero_le _) HEV.1 ?_
   intro v7 w7 ho7 hb7 hg7 hat7
   have hG := RowG.grown HS.1.r ho7 hg7 hat7
   obtain ⟨A7, c7, rfl⟩ := hG.1.sl
   have HG := ak hG
   have q7 := (HS.1.b.upd hG.2 (by omega)).blk.at 0 v rfl
   have f7 := (HS.1.b.upd hG.2 (by omega)).blk.fz 0
   clear ho7 hb7 hg7 hat7 hG
   refine hK.out _ _ ?_
   clear hK K
   refine no_ 89 ?_
   refine pu_ 8 90 511 ?_
   refine pu_ 9 91 1023 ?_
   refine last_ (i := 10) (N := none) (bz 11 2047) rfl rfl (by kernel_rfl) (by decide) (fun K hK => ?_)
   refine skip_ (w1 := ?_) (by rfl) rfl ?_ ?_
   rotate_left
   ·go_simp
    rfl
   refine hK.out _ _ ?_
   clear hK K
   refine done_ (by kernel_rfl) ?_
   go_wp2_with fail
   go_ret
   have hb7 := HS.1.b.upd HG.1.2 (by omega)
   have hu7 := (Upd.refl (· = i) ((κ.ext w.heap.size (i + 999)).ext wd.heap.size (i + 2)) w7).set ⟨b, 0, none⟩ (fun _ => hb7.kol) (.slice A7 (ev.length + 1) c7)
   refine ⟨rfl, _, ⟨by rw [addC_len]; exact HLEN.1, .slice A7 (ev.length + 1) c7, g, hb7.set 0 _, ?_, ?_⟩, (HS.1.u.then HG.1.2 (fun c e => by omega)).set ⟨b, 0, none⟩ (fun hh => by show i ≤ κ b ∧ κ b < i + 3; rw [HKB.1]; omega) _⟩
   ·have hc7 := (BlkK.upd HS.1.c HG.1.2 (by omega)).upd hu7 (by omega)
    have he : addC cn ⟨nd, st, ow, il⟩ = c2 := by simp [addC, hs, ho, HB0.1, HC0.1, HB1.1, HC1.1, HB2.1, HC2.1]
    rw [he]
    exact hc7
   ·have hr7 := HG.1.1.upd hu7 (by omega)
    rw [List.length_append, List.length_singleton]
    have he : evCells (ev ++ [⟨nd, st, ow, il⟩]) = ec ++ [.int .i64 nd, .int .i64 st, .int .i64 ow, .bool il] := by
     rw [← HEC.1]
     unfold evCells
     rw [List.flatMap_append]
     rfl
    rw [he]
    exact hr7
def bv (l : List Nat) : Array Value := (l.map fun (x : Nat) => Value.int .u8 x).toArray
structure FramesK (κ : Kol) (i : Nat) (w : World) (b each N : Nat) (l : List Nat) : Prop where
 len : l.length = N * 64
 row : ∃ g, BlkK κ i w b #[.int .i64 each, .slice (some ⟨g, 0, none⟩) N N] 205 ∧ BlkK κ i w g (bv l) 266
theorem FramesK.upd {I : Nat → Prop} {κ κ1 : Kol} {i b each N : Nat} {w w1 : World} {l : List Nat} (h : FramesK κ i w b each N l) (k : Upd I κ w κ1 w1) (hi : ¬ I i) : FramesK κ1 i w1 b each N l := by
 obtain ⟨h0, g, h1, h2⟩ := h
 exact ⟨h0, g, h1.upd k hi, h2.upd k hi⟩
theorem FramesK.below {κ : Kol} {i b each N : Nat} {w w1 : World} {l : List Nat} (h : FramesK κ i w b each N l) (k : RowKit.Below w.heap.size w w1) : FramesK κ i w1 b each N l := by
 obtain ⟨h0, g, h1, h2⟩ := h
 exact ⟨h0, g, h1.below k, h2.below k⟩
theorem bv_at (l : List Nat) (j : Nat) (hj : j < l.length) : (bv l)[j]? = some (.int .u8 (l[j] : Nat)) := by
 unfold bv
 rw [List.getElem?_toArray, List.getElem?_map, List.getElem?_eq_getElem hj]; rfl
theorem frame_own (each N g b n : Nat) (hn : n < N) (hN : N ≤ 100000) (w : World) (h : Blk w b #[.int .i64 each, .slice (some ⟨g, 0, none⟩) N N] 205) :
 Calls Tryz.prog 132 #[.pointer (some ⟨b, 0, none⟩), .int .i64 n] w fun e w' => e = .returned (.tuple #[.pointer (some ⟨g, n * 64, none⟩), .int .i64 0]) ∧ w' = w := by
 have s1 := h.at 1 (.slice (some ⟨g, 0, none⟩) N N) rfl
 have n0 : (0 : Int) ≤ (n : Int) := by omega
 have nI : (n : Int) < (N : Int) := by omega
 have d0 : decide ((n : Int) < 0) = false := decide_eq_false (by omega)
 have d1 : decide (N ≤ n) = false := decide_eq_false (by omega)
 clear h
 go_enter Tryz.func132, Tryz.ntmps132
 go_wp2_with fail
 go_ret2
 exact ⟨rfl, rfl⟩
theorem frames_len (each N g b : Nat) (hN : N ≤ 100000) (w : World) (h : Blk w b #[.int .i64 each, .slice (some ⟨g, 0, none⟩) N N] 205) :
 Calls Tryz.prog 89 #[.pointer (some ⟨b, 0, none⟩)] w fun e w' => e = .returned (.int .i64 N) ∧ w' = w := by
 have s1 := h.at 1 (.slice (some ⟨g, 0, none⟩) N N) rfl
 clear h
 go_enter Tryz.func89, Tryz.ntmps89
 go_wp2_with fail
 go_ret
 exact ⟨rfl, rfl⟩
theorem part_own (each N g b n a s : Nat) (hn : n < N) (hN : N ≤ 100000) (ha : a + s ≤ 64) (hs : 0 < s) (w : World) (h : Blk w b #[.int .i64 each, .slice (some ⟨g, 0, none⟩) N N] 205) :
 Calls Tryz.prog 176 #[.pointer (some ⟨b, 0, none⟩), .int .i64 n, .int .i64 a, .int .i64 s] w fun e w' => e = .returned (.tuple #[.slice (some ⟨g, n * 64 + a, none⟩) s (64 - a), .int .i64 0]) ∧ w' = w := by
 have HF := ak (frame_own each N g b n hn hN w h)
 have d0 : decide ((a : Int) < 0) = false := decide_eq_false (by omega)
 have d1 : decide ((s : Int) < 0) = false := decide_eq_false (by omega)
 have d2 : decide (64 < (a : Int)) = false := decide_eq_false (by omega)
 have d2' : decide (64 < a) = false := decide_eq_false (by omega)
 have d3 : decide (64 - (a : Int) < (s : Int)) = false := decide_eq_false (by omega)
 obtain ⟨q, hq⟩ : ∃ q, a + s = q := ⟨_, rfl⟩
 have a0 : (0 : Int) ≤ (a : Int) := by omega
 have hqI : (a : Int) + (s : Int) = (q : Int) := by omega
 have l1 : (a : Int) ≤ (q : Int) := by omega
 have l2 : (q : Int) ≤ 64 := by omega
 have l3 : ¬ 64 = a := by omega
 have hqs := ak (show q - a = s by omega)
 clear h
 go_enter Tryz.func176, Tryz.ntmps176
 go_wp2_with (go_at_call 132; (with_reducible refine HF.1.mono ?_); rintro e_ w1 ⟨rfl, rfl⟩)
 go_ret2
 exact ⟨by rw [← hqs.out]; rfl, rfl⟩
def spliceB (l : List Nat) (o : Nat) (xs : List Nat) : List Nat := l.take o ++ xs ++ l.drop (o + xs.length)
theorem splice_len (l : List Nat) (o : Nat) (xs : List Nat) (h : o + xs.length ≤ l.length) : (spliceB l o xs).length = l.length := by
 unfold spliceB
 simp
 omega
theorem splice_bv (l : List Nat) (o : Nat) (xs : List Nat) : ((bv l).toList.take o ++ (xs.map fun (x : Nat) => Value.int .u8 x) ++ (bv l).toList.drop (o + (xs.map fun (x : Nat) => Value.int .u8 x).length)).toArray = bv (spliceB l o xs) := by
 unfold bv spliceB
 simp [List.map_take, List.map_drop]
theorem BlkK.setRow {κ : Kol} {i g : Nat} {w : World} {cs : Array Value} {t : TypeId} (h : BlkK κ i w g cs t) (cs' : Array Value) : BlkK κ i (w.setRow g cs') g cs' t := ⟨h.kol, setRow_heap w g cs cs' t (0, 0) h.blk⟩
theorem Upd.setRow {κ : Kol} {i g : Nat} {w : World} (hk : κ g = i) (cs : Array Value) : Upd (· = i) κ w κ (w.setRow g cs) :=
 ⟨fun _ _ => rfl, ⟨rfl, rfl, rfl, by simp, fun b _ hne => setRow_other w g b cs (fun e => hne (by rw [e]; exact hk))⟩⟩
theorem save_own (κ : Kol) (i b each N n a : Nat) (l xs : List Nat) (A : Addr) (cap : Nat) (hn : n < N) (hN : N ≤ 100000) (ha : a + xs.length ≤ 64) (hs : 0 < xs.length) (w : World) (h : FramesK κ i w b each N l)
 (hx : ∀ j (y : Nat), xs[j]? = some y → w.cell? (A.add j) = some (.int .u8 y)) :
 Calls Tryz.prog 123 #[.pointer (some ⟨b, 0, none⟩), .int .i64 n, .int .i64 a, .slice (some A) xs.length cap] w fun e w' => e = .returned (.int .i64 0) ∧ FramesK κ i w' b each N (spliceB l (n * 64 + a) xs) ∧ Upd (· = i) κ w κ w' := by
 obtain ⟨hl, g, hb, hg⟩ := h
 obtain ⟨s, hsx⟩ : ∃ s, xs.length = s := ⟨_, rfl⟩
 have hfit : n * 64 + a + xs.length ≤ l.length := by rw [hl]; have : (n + 1) * 64 ≤ N * 64 := Nat.mul_le_mul_right _ hn; omega
 have hinfo : (Tryz.prog.info? 5).map (·.size) = some 1 := by kernel_rfl
 have hcp := run_copy_row (P := Tryz.prog) w 23 23 3 5 g (n * 64 + a) s (64 - a) A s cap (bv l) 266 (xs.map fun (x : Nat) => Value.int .u8 x) Tryz.underlying23 hinfo hg.blk
  (by rw [List.length_map, hsx]; exact (Nat.min_self s).symm) (fun j v hv => by
   rw [List.getElem?_map] at hv
   cases hy : xs[j]? with
   | none => rw [hy] at hv; simp at hv
   | some y => rw [hy] at hv; simp at hv; rw [← hv]; exact hx j y hy)
  (by unfold bv; simp; omega) (by intro v hv; obtain ⟨y, _, rfl⟩ := List.mem_map.1 hv; rfl)
 rw [splice_bv] at hcp
 have HPA := ak (part_own each N g b n a s hn hN (by omega) (by omega) w hb.blk)
 have HFIN := ak (show FramesK κ i (w.setRow g (bv (spliceB l (n * 64 + a) xs))) b each N (spliceB l (n * 64 + a) xs) ∧ Upd (· = i) κ w κ (w.setRow g (bv (spliceB l (n * 64 + a) xs))) from by
  have hne : b ≠ g := fun e => by
   have h1 := hb.blk
   have h2 := hg.blk
   unfold Blk at h1 h2
   rw [e, h2] at h1
   injection h1 with h1
   injection h1 with _ h3
   exact absurd h3 (by decide)
  exact ⟨⟨by rw [splice_len _ _ _ hfit]; exact hl, g, ⟨hb.kol, (setRow_other w g b _ hne).trans hb.blk⟩, hg.setRow _⟩, Upd.setRow hg.kol _⟩)
 rw [hsx]
 clear hx hl hb hg hinfo hfit
 go_enter Tryz.func123, Tryz.ntmps123
 go_wp2_with (go_at_call 176; (with_reducible refine HPA.1.mono ?_); rintro e_ w1 ⟨rfl, rfl⟩)
 go_ret
 exact ⟨rfl, HFIN.1⟩
theorem made_bytes (m : Nat) : madeCells (Value.agg (Array.replicate 64 (.int .u8 0))).cells (m * 64) = bv (List.replicate (m * 64) 0) := by
 unfold madeCells bv
 apply Array.ext
 ·simp
 ·intro j h1 h2
  have hj : j % 64 < 64 := Nat.mod_lt _ (by decide)
  simp [Value.cells, hj]
theorem frames_new (κ : Kol) (i nodes each : Nat) (hn : 1 ≤ nodes) (hn2 : nodes ≤ 8) (he : 1 ≤ each) (he2 : each ≤ 1024) (w : World) :
 Calls Tryz.prog 139 #[.int .i64 nodes, .int .i64 each] w fun e w' => ∃ κ' b, e = .returned (.tuple #[.pointer (some ⟨b, 0, none⟩), .int .i64 0]) ∧ FramesK κ' i w' b each (nodes * each) (List.replicate (nodes * each * 64) 0) ∧ w.heap.size ≤ b ∧ (∀ x, x < w.heap.size → κ' x = κ x) ∧ RowKit.Below w.heap.size w w' := by
 have hb : nodes * each ≤ 8 * 1024 := Nat.mul_le_mul hn2 he2
 obtain ⟨m, hm⟩ : ∃ m, nodes * each = m := ⟨_, rfl⟩
 have hinfo : (Tryz.prog.info? 266).map (fun i => (i.zero, i.size, i.bytes)) = some (some (.agg (Array.replicate 64 (.int .u8 0))), 64, 64) := by kernel_rfl
 have hmk : ∀ W : World, (Instr.makeSlice 203 (.int .i64 ((nodes : Int) * (each : Int))) (.int .i64 ((nodes : Int) * (each : Int)))).run Tryz.prog W = .ok (.slice (some ⟨W.heap.size, 0, none⟩) m m) (W.alloc (.cells (bv (List.replicate (m * 64) 0)) 266)) := by
  intro W
  obtain ⟨it, hi, hzz⟩ := Option.map_eq_some_iff.1 hinfo
  simp only [Prod.mk.injEq] at hzz
  obtain ⟨hz, hs, hb2⟩ := hzz
  have hw : (nodes : Int) * (each : Int) = (m : Int) := by rw [← Int.natCast_mul, hm]
  have h := run_make (P := Tryz.prog) W 203 266 it _ Tryz.underlying203 hi hz .i64 .i64 (m : Int) (m : Int) (by omega) (Int.le_refl _) (by rw [hb2]; omega) (by omega)
  rw [hw, h, hs]
  simp only [Int.toNat_natCast]
  rw [made_bytes]
 have n1 : (1 : Int) ≤ (nodes : Int) := by omega
 have n2 : (nodes : Int) ≤ 8 := by omega
 have n3 : (1 : Int) ≤ (each : Int) := by omega
 have n4 : (each : Int) ≤ 1024 := by omega
 rw [hm] at hb ⊢
 clear hinfo
 go_enter Tryz.func139, Tryz.ntmps139
 go_wp2_with fail
 go_ret2
 refine ⟨κ.ext w.heap.size i, w.heap.size + 1, rfl, ⟨by simp, w.heap.size, ⟨Kol.ext_new κ (by omega), Blk.new1 w _ _ _⟩, ⟨Kol.ext_new κ (by omega), (Blk.new w _ _).alloc _⟩⟩, by omega, fun x hx => Kol.ext_old κ hx, below_alloc (below_alloc (RowKit.Below.refl _ _) _) _⟩
def zeroCells : Array Value := Array.replicate 64 (.int .u8 0)
theorem run_store_zero (w : World) (g o : Nat) (l : List Nat) (t : TypeId) (hg : Blk w g (bv l) t) (ho : o + 64 ≤ l.length) :
 (storeVar 266 ⟨g, o, none⟩ (.agg zeroCells)).run Tryz.prog w = .ok () (w.setRow g (bv (spliceB l o (List.replicate 64 0)))) := by
 have hinfo : (Tryz.prog.info? 266).map (·.size) = some 64 := by kernel_rfl
 have h := run_storeCells_at Tryz.prog g o t zeroCells.toList 0 (bv l) w hg (by unfold zeroCells bv; simp; omega) (fun v hv => by
  unfold zeroCells at hv
  simp at hv
  rw [hv]; rfl)
 cases hq : Tryz.prog.info? 266 with
 | none => rw [hq] at hinfo; simp at hinfo
 | some it =>
  have hs : it.size = 64 := by rw [hq] at hinfo; simpa using hinfo
  have hz : zeroCells.toList = (List.replicate 64 0).map fun (x : Nat) => Value.int .u8 x := by unfold zeroCells; simp
  simp only [Nat.add_zero] at h
  rw [hz, splice_bv] at h
  rw [← hz] at h
  simp [storeVar, sizeOf, typeInfo, hq, Value.cells, hs, zeroCells] at h ⊢
  exact h
theorem wpList_store_zero {ops : Array Oper} {rest : List Oper} {o : Oper} {a : Act} {w : World} {Q : Exit → Act → World → Prop} (hgd : o.guard = none) (x y : Operand) (ho : o.op = .store 266 x y)
 (g f : Nat) (l : List Nat) (t : TypeId) (hx : a.eval x = .pointer (some ⟨g, f, none⟩)) (hy : a.eval y = .agg zeroCells) (hg : Blk w g (bv l) t) (hf : f + 64 ≤ l.length)
 (h : wpList Tryz.prog ops Q rest (a.put o.dst undef) (w.setRow g (bv (spliceB l f (List.replicate 64 0))))) : wpList Tryz.prog ops Q (o :: rest) a w :=
 wpList_plain hgd fun K hK => by
  unfold Oper.wp execOp
  simp only [ho, hx, hy, Instr.storeAt, Instr.sureAddr, Sem.run_bind, Sem.run_pure, Result.andThen_ok, run_store_zero w g f l t hg hf]
  exact hK _ _ h
theorem clear_own (κ : Kol) (i b each N n : Nat) (l : List Nat) (hn : n < N) (hN : N ≤ 100000) (w : World) (h : FramesK κ i w b each N l) :
 Calls Tryz.prog 174 #[.pointer (some ⟨b, 0, none⟩), .int .i64 n] w fun e w' => e = .returned (.int .i64 0) ∧ FramesK κ i w' b each N (spliceB l (n * 64) (List.replicate 64 0)) ∧ Upd (· = i) κ w κ w' := by
 obtain ⟨hl, g, hb, hg⟩ := h
 have hfit : n * 64 + 64 ≤ l.length := by rw [hl]; have : (n + 1) * 64 ≤ N * 64 := Nat.mul_le_mul_right _ hn; omega
 have HF := ak (frame_own each N g b n hn hN w hb.blk)
 have HST := ak (And.intro hg.blk hfit)
 have HFIN := ak (show FramesK κ i (w.setRow g (bv (spliceB l (n * 64) (List.replicate 64 0)))) b each N (spliceB l (n * 64) (List.replicate 64 0)) ∧ Upd (· = i) κ w κ (w.setRow g (bv (spliceB l (n * 64) (List.replicate 64 0)))) from by
  have hne : b ≠ g := fun e => by
   have h1 := hb.blk
   have h2 := hg.blk
   unfold Blk at h1 h2
   rw [e, h2] at h1
   injection h1 with h1
   injection h1 with _ h3
   exact absurd h3 (by decide)
  exact ⟨⟨by rw [splice_len _ _ _ (by simpa using hfit)]; exact hl, g, ⟨hb.kol, (setRow_other w g b _ hne).trans hb.blk⟩, hg.setRow _⟩, Upd.setRow hg.kol _⟩)
 clear hl hb hg hfit
 go_enter Tryz.func174, Tryz.ntmps174
 go_wp2_with (first | (go_at_call 132; (with_reducible refine HF.1.mono ?_); rintro e_ w1 ⟨rfl, rfl⟩) | (refine wpList_store_zero rfl _ _ rfl g (n * 64) l _ rfl rfl HST.1.1 HST.1.2 ?_))
 go_ret
 exact ⟨rfl, HFIN.1⟩
theorem R_empty_u8 (W : World) (ok : Nat → Prop) (hok : ok W.heap.size) (base : Nat) (hb : base ≤ W.heap.size) : Kd.R (Kd.int .u8) 5 (W.alloc (.cells #[] 5)) base ok (.slice (some ⟨W.heap.size, 0, none⟩) 0 0) [] := by
 refine Kd.R_of_own (xs := ([] : List Int)) ⟨rfl, .inr ⟨W.heap.size, 0, #[], rfl, hb, heap_alloc_new _ _, Nat.le_refl _, by decide, rfl, rfl⟩⟩ (fun k hk => ?_)
 simp [Value.ownBlock] at hk
 subst hk
 exact hok
theorem R_open_u8 {w : World} {t base q : Nat} {ok : Nat → Prop} {v : Value} {xs : List Int} (h : Kd.R (Kd.int .u8) t w base ok v xs) (hq : xs.length = q) : ∃ A c, v = .slice A q c ∧ q ≤ c ∧ Kd.C (Kd.int .u8) w A q xs := by
 subst hq
 exact Kd.R_reads h
theorem clone_u8 (A : Addr) (n c : Nat) (xs : List Int) (hn : n ≤ 1000000) (W : World) (h : (Kd.int .u8).C W (some A) n xs) :
 Calls Tryz.prog 177 #[.slice (some A) n c] W fun e w' => ∃ A' c', e = .returned (.slice A' n c') ∧ n ≤ c' ∧ (Kd.int .u8).C w' A' n xs ∧ RowKit.Below W.heap.size W w' := by
 have hl : xs.length = n := h.1
 have HCM := ak h
 have HL := ak hl
 have info4 : (Tryz.prog.info? 5).map (fun i => (i.zero, i.size, i.bytes)) = some (some (.int .u8 0), 1, 1) := by kernel_rfl
 have hnil := Lib.run_eql_slice_nil (P := Tryz.prog) W 23 5 (some A) n c 0 0 Tryz.underlying23
 clear h hl
 go_enter Tryz.func177, Tryz.ntmps177
 go_wp2_with ((with_reducible refine gate_builtin (b := .append) (xs := #[.tmp 5, .tmp 6]) rfl ?_); at_builtin; refine Kd.R_append_rows (Kd.int .u8) (w0 := W) W.heap.size rfl (.tmp 5) (.tmp 6) 23 5 (.int .u8 0) 1 rfl Tryz.underlying23 info4 rfl (by decide) (by omega) _ ([] : List Int) xs (some A) n c (fun _ => True) (fun _ => False) rfl rfl ?aO ?aR (fun _ _ h => h) (fun _ h => h.elim) ?aF ?aB ?aS ?aL ?_; (case aO => exact R_empty_u8 W _ trivial _ (Nat.le_refl _)); (case aR => exact Kd.C_below HCM.1 (below_alloc (RowKit.Below.refl _ _) _)); (case aB => exact below_alloc (RowKit.Below.refl _ _) _); (case aF => exact (fun _ _ => trivial)); (case aS => simp); (case aL => simp; omega); intro v7 w7 ho hb hg hat; have HO7 := ak ho; have HB7 := ak hb; clear ho hb hg hat)
 go_ret
 obtain ⟨A', c', rfl, hc, hr⟩ := R_open_u8 HO7.1 HL.1
 exact ⟨A', c', rfl, hc, hr, HB7.1⟩
theorem R_empty_int (W : World) (ok : Nat → Prop) (hok : ok W.heap.size) (base : Nat) (hb : base ≤ W.heap.size) : Kd.R (Kd.int .i64) 3 (W.alloc (.cells #[] 3)) base ok (.slice (some ⟨W.heap.size, 0, none⟩) 0 0) [] := by
 refine Kd.R_of_own (xs := ([] : List Int)) ⟨rfl, .inr ⟨W.heap.size, 0, #[], rfl, hb, heap_alloc_new _ _, Nat.le_refl _, by decide, rfl, rfl⟩⟩ (fun k hk => ?_)
 simp [Value.ownBlock] at hk
 subst hk
 exact hok
theorem R_open_int {w : World} {t base q : Nat} {ok : Nat → Prop} {v : Value} {xs : List Int} (h : Kd.R (Kd.int .i64) t w base ok v xs) (hq : xs.length = q) : ∃ A c, v = .slice A q c ∧ q ≤ c ∧ Kd.C (Kd.int .i64) w A q xs := by
 subst hq
 exact Kd.R_reads h
def RdB (w : World) (A : Option Addr) (n : Nat) (xs : List Nat) : Prop := (Kd.int .u8).C w A n (xs.map fun (x : Nat) => (x : Int))
theorem RdB.below {w w1 : World} {A : Option Addr} {n : Nat} {xs : List Nat} (h : RdB w A n xs) (hb : RowKit.Below w.heap.size w w1) : RdB w1 A n xs := Kd.C_below h hb
theorem RdB.mk {w : World} {a : Addr} {n : Nat} {xs : List Nat} (hn : xs.length = n) (hm : n ≤ 1000000) (h : ∀ j y, xs[j]? = some y → w.cell? (a.add j) = some (.int .u8 (y : Nat))) : RdB w (some a) n xs := by
 refine ⟨by rw [List.length_map]; exact hn, by omega, fun _ => ⟨a, rfl, fun j p hp => ?_⟩⟩
 rw [List.getElem?_map] at hp
 obtain ⟨y, hy, rfl⟩ := Option.map_eq_some_iff.1 hp
 refine ⟨[.int .u8 y], rfl, rfl, fun i u hu => ?_⟩
 cases i with
 | zero =>
  simp at hu
  subst hu
  simpa [show (Kd.int .u8).sz = 1 from rfl] using h j y hy
 | succ i => simp at hu
theorem RdB.len {w : World} {A : Option Addr} {n : Nat} {xs : List Nat} (h : RdB w A n xs) : xs.length = n := by
 have := h.1
 rwa [List.length_map] at this
theorem RdB.cell {w : World} {A : Option Addr} {n : Nat} {xs : List Nat} (h : RdB w A n xs) (h0 : 0 < n) : ∃ a, A = some a ∧ ∀ j y, xs[j]? = some y → w.cell? (a.add j) = some (.int .u8 (y : Nat)) := by
 obtain ⟨a, rfl, hc⟩ := h.2.2 h0
 refine ⟨a, rfl, fun j y hy => ?_⟩
 obtain ⟨c, hl, hr, hx⟩ := hc j (y : Int) (by rw [List.getElem?_map, hy]; rfl)
 have hr : c = [.int .u8 y] := hr
 subst hr
 simpa [show (Kd.int .u8).sz = 1 from rfl] using hx 0 _ rfl
theorem bv_cells {w : World} {g : Nat} {l : List Nat} {t : TypeId} (h : Blk w g (bv l) t) (o s : Nat) (hs : o + s ≤ l.length) (hm : s ≤ 1000000) : RdB w (some ⟨g, o, none⟩) s ((l.drop o).take s) := by
 refine RdB.mk (by simp; omega) hm (fun j y hy => ?_)
 rw [List.getElem?_take] at hy
 split at hy
 ·rw [List.getElem?_drop] at hy
  obtain ⟨hj, rfl⟩ := List.getElem?_eq_some_iff.1 hy
  have h2 := h.at (o + j) _ (bv_at l (o + j) hj)
  rw [show ((⟨g, o, none⟩ : Addr).add j) = ⟨g, o + j, none⟩ by unfold Addr.add; split <;> simp_all]
  exact h2
 ·simp at hy
theorem load_own (κ : Kol) (i b each N n a s : Nat) (l : List Nat) (hn : n < N) (hN : N ≤ 100000) (ha : a + s ≤ 64) (hs : 0 < s) (w : World) (h : FramesK κ i w b each N l) :
 Calls Tryz.prog 124 #[.pointer (some ⟨b, 0, none⟩), .int .i64 n, .int .i64 a, .int .i64 s] w fun e w' => ∃ A c, e = .returned (.tuple #[.slice A s c, .int .i64 0]) ∧ s ≤ c ∧ RdB w' A s ((l.drop (n * 64 + a)).take s) ∧ RowKit.Below w.heap.size w w' := by
 obtain ⟨hl, g, hb, hg⟩ := h
 have hfit : n * 64 + a + s ≤ l.length := by rw [hl]; have : (n + 1) * 64 ≤ N * 64 := Nat.mul_le_mul_right _ hn; omega
 have HPA := ak (part_own each N g b n a s hn hN ha hs w hb.blk)
 have HCL := ak (clone_u8 ⟨g, n * 64 + a, none⟩ s (64 - a) _ (by omega) w (bv_cells hg.blk (n * 64 + a) s hfit (by omega)))
 clear hl hb hg hfit
 go_enter Tryz.func124, Tryz.ntmps124
 go_wp2_with (first | (go_at_call 176; (with_reducible refine HPA.1.mono ?_); rintro e_ w1 ⟨rfl, rfl⟩) | (go_at_call 177; (with_reducible refine HCL.1.mono ?_); rintro e_ w1 ⟨A', c', rfl, h1, h2, h3⟩; have HR := ak (And.intro h1 (And.intro h2 h3)); clear h1 h2 h3))
 go_ret2
 exact ⟨A', c', rfl, HR.1.1, HR.1.2.1, HR.1.2.2⟩
def MemK (κ : Kol) (i : Nat) (w : World) (b each N : Nat) (l : List Nat) (n : Nat) (f g : Int → Option Int) : Prop :=
 ∃ fb tb, BlkK κ i w b #[.pointer (some ⟨fb, 0, none⟩), .pointer (some ⟨tb, 0, none⟩)] 189 ∧ FramesK κ (i + 1) w fb each N l ∧ TwoK κ (i + 2) w tb n f g
theorem MemK.upd {I : Nat → Prop} {κ κ1 : Kol} {i b each N n : Nat} {w w1 : World} {l : List Nat} {f g : Int → Option Int} (h : MemK κ i w b each N l n f g) (k : Upd I κ w κ1 w1) (hi : ∀ c, c < 5 → ¬ I (i + c)) : MemK κ1 i w1 b each N l n f g := by
 obtain ⟨fb, tb, h1, h2, h3⟩ := h
 exact ⟨fb, tb, h1.upd k (hi 0 (by omega)), h2.upd k (hi 1 (by omega)), h3.upd k (fun c hc => by have := hi (2 + c) (by omega); rwa [← Nat.add_assoc] at this)⟩
theorem MemK.below {κ : Kol} {i b each N n : Nat} {w w1 : World} {l : List Nat} {f g : Int → Option Int} (h : MemK κ i w b each N l n f g) (k : RowKit.Below w.heap.size w w1) : MemK κ i w1 b each N l n f g := h.upd (I := fun _ => False) (Upd.of_below κ k) (fun _ _ h => h)
theorem mem_frame (κ : Kol) (i b each N n : Nat) (l : List Nat) (f g : Int → Option Int) (x : Int) (hx : I64 x) (w : World) (h : MemK κ i w b each N l n f g) :
 Calls Tryz.prog 77 #[.pointer (some ⟨b, 0, none⟩), .int .i64 x] w fun e w' => e = .returned (.tuple #[.int .i64 ((f x).getD 0), .bool (f x).isSome]) ∧ w' = w := by
 obtain ⟨fb, tb, h1, h2, h3⟩ := h
 have s1 := h1.blk.at 1 (.pointer (some ⟨tb, 0, none⟩)) rfl
 have HT := ak (two_to κ (i + 2) tb n f g x hx w h3)
 clear h1 h2 h3
 go_enter Tryz.func77, Tryz.ntmps77
 go_wp2_with (go_at_call 131; (with_reducible refine HT.1.mono ?_); rintro e_ w1 ⟨rfl, rfl⟩)
 go_ret2
 exact ⟨rfl, rfl⟩
theorem i64_of (x : Int) (h0 : -9223372036854775808 ≤ x) (h1 : x ≤ 9223372036854775807) : I64 x := by
 have e1 : IntKind.i64.min = -9223372036854775808 := rfl
 have e2 : IntKind.i64.max = 9223372036854775807 := rfl
 simp [I64, Lit.wf, e1, e2]
 omega
theorem page_own (b : Nat) (x : Int) (h0 : 0 ≤ x) (h1 : x < 4096) (w : World) :
 Calls Tryz.prog 163 #[.pointer (some ⟨b, 0, none⟩), .int .i64 x] w fun e w' => e = .returned (.bool true) ∧ w' = w := by
 go_enter Tryz.func163, Tryz.ntmps163
 go_wp2_with fail
 go_ret
 refine ⟨?_, rfl⟩
 simp [h0, h1]
theorem both_own (κ : Kol) (i b each N n : Nat) (l : List Nat) (f g : Int → Option Int) (hN : N ≤ 100000) (x : Int) (h0 : 0 ≤ x) (h1 : x < 4096) (y : Nat) (hy : y < N) (w : World) (h : MemK κ i w b each N l n f g) :
 Calls Tryz.prog 156 #[.pointer (some ⟨b, 0, none⟩), .int .i64 x, .int .i64 y] w fun e w' => e = .returned (.bool true) ∧ w' = w := by
 obtain ⟨fb, tb, k1, ⟨_, gb, k2, _⟩, _⟩ := h
 have s0 := k1.blk.at 0 (.pointer (some ⟨fb, 0, none⟩)) rfl
 have HP := ak (page_own b x h0 h1 w)
 have HL := ak (frames_len each N gb fb hN w k2.blk)
 have y0 : (0 : Int) ≤ (y : Int) := by omega
 have y1 : (y : Int) < (N : Int) := by omega
 clear k1 k2
 go_enter Tryz.func156, Tryz.ntmps156
 go_wp2_with (first | (go_at_call 163; (with_reducible refine HP.1.mono ?_); rintro e_ w1 ⟨rfl, rfl⟩) | (go_at_call 89; (with_reducible refine HL.1.mono ?_); rintro e_ w1 ⟨rfl, rfl⟩))
 go_ret
 refine ⟨?_, rfl⟩
 simp [hy]
theorem mem_map (κ : Kol) (i b each N n : Nat) (l : List Nat) (f g : Int → Option Int) (hN : N ≤ 100000) (x : Int) (h0 : 0 ≤ x) (h1 : x < 4096) (y : Nat) (hy : y < N) (hf : f x = none) (hg : g y = none) (hn : n < 1000000) (w : World) (h : MemK κ i w b each N l n f g) :
 Calls Tryz.prog 175 #[.pointer (some ⟨b, 0, none⟩), .int .i64 x, .int .i64 y] w fun e w' => e = .returned (.int .i64 0) ∧ MemK κ i w' b each N l (n + 1) (putF f x y) (putF g y x) ∧ Upd (fun c => c = i + 3 ∨ c = i + 4) κ w κ w' := by
 have HB := ak (both_own κ i b each N n l f g hN x h0 h1 y hy w h)
 obtain ⟨fb, tb, k1, k2, k3⟩ := h
 have s1 := k1.blk.at 1 (.pointer (some ⟨tb, 0, none⟩)) rfl
 have HT := ak (two_map κ (i + 2) tb n f g x y (i64_of _ (by omega) (by omega)) (i64_of _ (by omega) (by omega)) hf hg hn w k3)
 have HK := ak (And.intro k1 k2)
 clear k1 k2 k3
 go_enter Tryz.func175, Tryz.ntmps175
 go_wp2_with (first | (go_at_call 156; (with_reducible refine HB.1.mono ?_); rintro e_ w1 ⟨rfl, rfl⟩) | (go_at_call 212; (with_reducible refine HT.1.mono ?_); rintro e_ w2 ⟨rfl, q1, q2⟩; have HQ := ak (And.intro q1 q2); clear q1 q2))
 go_ret
 exact ⟨rfl, ⟨fb, tb, HK.1.1.upd HQ.1.2 (by omega), HK.1.2.upd HQ.1.2 (by omega), HQ.1.1⟩, HQ.1.2.mono (by omega)⟩
theorem mem_unmap (κ : Kol) (i b each N n : Nat) (l : List Nat) (f g : Int → Option Int) (x y : Int) (h0 : 0 ≤ x) (h1 : x < 4096) (hy : I64 y) (hf : f x = some y) (w : World) (h : MemK κ i w b each N l n f g) :
 Calls Tryz.prog 113 #[.pointer (some ⟨b, 0, none⟩), .int .i64 x] w fun e w' => e = .returned (.tuple #[.int .i64 y, .int .i64 0]) ∧ MemK κ i w' b each N l n (outF f x) (outF g y) ∧ Upd (fun c => c = i + 3 ∨ c = i + 4) κ w κ w' := by
 have HB := ak (page_own b x h0 h1 w)
 obtain ⟨fb, tb, k1, k2, k3⟩ := h
 have s1 := k1.blk.at 1 (.pointer (some ⟨tb, 0, none⟩)) rfl
 have HT := ak (two_unmap κ (i + 2) tb n f g x y (i64_of _ (by omega) (by omega)) hy hf w k3)
 have HK := ak (And.intro k1 k2)
 clear k1 k2 k3
 go_enter Tryz.func113, Tryz.ntmps113
 go_wp2_with (first | (go_at_call 163; (with_reducible refine HB.1.mono ?_); rintro e_ w1 ⟨rfl, rfl⟩) | (go_at_call 164; (with_reducible refine HT.1.mono ?_); rintro e_ w2 ⟨rfl, q1, q2⟩; have HQ := ak (And.intro q1 q2); clear q1 q2))
 go_ret2
 exact ⟨rfl, ⟨fb, tb, HK.1.1.upd HQ.1.2 (by omega), HK.1.2.upd HQ.1.2 (by omega), HQ.1.1⟩, HQ.1.2.mono (by omega)⟩
theorem mem_new (κ : Kol) (i fb each N : Nat) (l : List Nat) (w : World) (h : FramesK κ (i + 1) w fb each N l) :
 Calls Tryz.prog 140 #[.pointer (some ⟨fb, 0, none⟩)] w fun e w' => ∃ κ' b, e = .returned (.tuple #[.pointer (some ⟨b, 0, none⟩), .int .i64 0]) ∧ MemK κ' i w' b each N l 0 (fun _ => none) (fun _ => none) ∧ w.heap.size ≤ b ∧ (∀ x, x < w.heap.size → κ' x = κ x) ∧ RowKit.Below w.heap.size w w' := by
 have HT := ak (two_new κ (i + 2) w)
 have HF := ak h
 clear h
 go_enter Tryz.func140, Tryz.ntmps140
 go_wp2_with (go_at_call 183; (with_reducible refine HT.1.mono ?_); rintro e_ w1 ⟨κ1, tb, rfl, q1, q2, q3⟩; have HQ := ak (And.intro q1 (And.intro q2 q3)); clear q1 q2 q3)
 go_ret2
 have hsz := HQ.1.2.2.size
 have hb1 := below_alloc (RowKit.Below.refl w1.heap.size w1) (.cells #[.pointer (some ⟨fb, 0, none⟩), .pointer (some ⟨tb, 0, none⟩)] 189)
 have hu1 : Upd (fun _ => False) κ w κ1 w1 := ⟨HQ.1.2.1, Chg.of_below HQ.1.2.2⟩
 have hu2 : Upd (fun _ => False) κ1 w1 (κ1.ext w1.heap.size i) (w1.alloc (.cells #[.pointer (some ⟨fb, 0, none⟩), .pointer (some ⟨tb, 0, none⟩)] 189)) := (Upd.of_below κ1 hb1).paint _ _ (Nat.le_refl _)
 refine ⟨κ1.ext w1.heap.size i, w1.heap.size, rfl, ⟨fb, tb, ⟨Kol.ext_new _ (Nat.le_refl _), Blk.new w1 _ _⟩, (HF.1.upd hu1 (fun h => h)).upd hu2 (fun h => h), HQ.1.1.upd hu2 (fun _ _ h => h)⟩, hsz, fun x hx => (Kol.ext_old _ (Nat.lt_of_lt_of_le hx hsz)).trans (HQ.1.2.1 x hx), below_alloc HQ.1.2.2 _⟩
theorem mem_store (κ : Kol) (i b each N n : Nat) (l : List Nat) (f g : Int → Option Int) (fb : Nat) (v : Value) (w : World) (h : BlkK κ i w b #[.pointer (some ⟨fb, 0, none⟩), v] 189) :
 Calls Tryz.prog 78 #[.pointer (some ⟨b, 0, none⟩)] w fun e w' => e = .returned (.pointer (some ⟨fb, 0, none⟩)) ∧ w' = w := by
 have s0 := h.blk.at 0 (.pointer (some ⟨fb, 0, none⟩)) rfl
 clear h
 go_enter Tryz.func78, Tryz.ntmps78
 go_wp2_with fail
 go_ret
 exact ⟨rfl, rfl⟩
def nk : Kd Nat := Kd.scalar (fun n : Nat => Value.int .i64 (n : Int)) (fun _ => rfl)
def pcK : Kd (Nat × Nat × Nat) := Kd.pair nk (Kd.pair nk nk)
theorem pc_M (W : World) (base : Nat) (ok : Nat → Prop) (x y z : Nat) : pcK.M W base ok (x, y, z) [.int .i64 x, .int .i64 y, .int .i64 z] := by
 exact ⟨[.int .i64 x], [.int .i64 y, .int .i64 z], rfl, rfl, [.int .i64 y], [.int .i64 z], rfl, rfl, rfl⟩
theorem pc_at {w : World} {A : Option Addr} {n : Nat} {xs : List (Nat × Nat × Nat)} (h : pcK.C w A n xs) (i : Nat) (hi : i < n) (x y z : Nat) (hx : xs[i]? = some (x, y, z)) : ∃ ad, A = some ad ∧ w.cell? (ad.add (i * 3)) = some (.int .i64 x) ∧ w.cell? (ad.add (i * 3 + 1)) = some (.int .i64 y) ∧ w.cell? (ad.add (i * 3 + 2)) = some (.int .i64 z) := by
 obtain ⟨ad, c, e, hl, hK, hc⟩ := Kd.C_get h (0, 0, 0) (i : Int) (by omega) (by omega)
 rw [Int.toNat_natCast, List.getD_eq_getElem?_getD, hx] at hK
 obtain ⟨c0, c1, rfl, h0, c2, c3, rfl, h1, h2⟩ := hK
 have h0 : c0 = [.int .i64 x] := h0
 have h1 : c2 = [.int .i64 y] := h1
 have h2 : c3 = [.int .i64 z] := h2
 subst h0; subst h1; subst h2
 rw [Int.toNat_natCast, show pcK.sz = 3 from rfl] at hc
 exact ⟨ad, e, hc 0 _ rfl, hc 1 _ rfl, hc 2 _ rfl⟩
def pcs (pf : Nat → Nat) : Nat → Nat → Nat → List (Nat × Nat × Nat)
 | 0, _, _ => []
 | k + 1, a, n => if n = 0 then [] else (pf (a / 64), a % 64, min n (64 - a % 64)) :: pcs pf k (a + min n (64 - a % 64)) (n - min n (64 - a % 64))
theorem pcs_zero (pf : Nat → Nat) (k a : Nat) : pcs pf k a 0 = [] := by cases k <;> simp [pcs]
def RelPc (pf : Nat → Nat) (w : World) (a0 n0 : Nat) (v1 v2 v8 : Value) (wr : World) : Prop :=
 ∃ k a n don, v1 = .int .i64 ((a : Nat) : Int) ∧ v2 = .int .i64 ((n : Nat) : Int) ∧ n ≤ k ∧ pcs pf n0 a0 n0 = don ++ pcs pf k a n ∧ a + n = a0 + n0 ∧ a0 ≤ a ∧ don.length + n ≤ n0 ∧ Kd.R pcK 186 wr w.heap.size (fun _ => True) v8 don ∧ RowKit.Below w.heap.size w wr
theorem pieces_own (κ : Kol) (i b each N c : Nat) (l : List Nat) (f g : Int → Option Int) (pf : Nat → Nat) (a0 n0 : Nat) (hN : n0 ≤ 65536) (ha : a0 + n0 ≤ 262144) (hf : ∀ q, 0 < n0 → a0 / 64 ≤ q → q * 64 < a0 + n0 → f (q : Int) = some ((pf q : Nat) : Int)) (w : World) (h : MemK κ i w b each N l c f g) :
 Calls Tryz.prog 122 #[.pointer (some ⟨b, 0, none⟩), .int .i64 a0, .int .i64 n0] w fun e w' => ∃ A cp, e = .returned (.tuple #[.slice A (pcs pf n0 a0 n0).length cp, .int .i64 0]) ∧ Kd.R pcK 186 w' w.heap.size (fun _ => True) (.slice A (pcs pf n0 a0 n0).length cp) (pcs pf n0 a0 n0) ∧ RowKit.Below w.heap.size w w' := by
 have HM := ak h
 obtain ⟨fb, tb, h1, h2, h3⟩ := h
 have HBX := ak h1
 have HT := ak h3
 have a1 : (0 : Int) ≤ (a0 : Int) := by omega
 have a2 : (0 : Int) ≤ (n0 : Int) := by omega
 have a3 : (n0 : Int) ≤ 65536 := by omega
 have a4 : (a0 : Int) ≤ 262144 - (n0 : Int) := by omega
 have d0 : decide ((a0 : Int) < 0) = false := decide_eq_false (by omega)
 have d1 : decide ((n0 : Int) < 0) = false := decide_eq_false (by omega)
 have d2 : decide (65536 < (n0 : Int)) = false := decide_eq_false (by omega)
 have d3 : decide (262144 - (n0 : Int) < (a0 : Int)) = false := decide_eq_false (by omega)
 have info3 : (Tryz.prog.info? 186).map (fun i => (i.zero, i.size, i.bytes)) = some (some (.agg #[.int .i64 0, .int .i64 0, .int .i64 0]), 3, 24) := by kernel_rfl
 clear h1 h2 h3
 go_enter Tryz.func122, Tryz.ntmps122
 go_wp2_with fail
 have H0 := ak (show RelPc pf w a0 n0 (.int .i64 a0) (.int .i64 n0) (.slice none 0 0) w from ⟨n0, a0, n0, [], rfl, rfl, Nat.le_refl _, rfl, rfl, Nat.le_refl _, by simp, Kd.R_nil _ _ _ _ _, RowKit.Below.refl _ _⟩)
 clear a1 a2 a3 a4 d0 d1 d2 d3
 go_loopw [1, 2, 8, 9, 10, 11, 12] (fun v1 v2 v8 _ _ _ _ wr => RelPc pf w a0 n0 v1 v2 v8 wr) (fun _ v2 _ _ _ _ _ _ => (intOf v2).toNat)
 case atStart => exact H0.1
 case round =>
  clear H0
  obtain ⟨k, a, n, don, rfl, rfl, hk, hp, han, haa, hdl, hR, hB⟩ := hrel
  have HR := ak hR
  have HB := ak hB
  have HP := ak hp
  clear hR hB hp
  by_cases hz : 0 < n
  ·have nI : (0 : Int) < (n : Int) := by omega
   have hq := hf (a / 64) (by omega) (by omega) (by omega)
   have s1 := (HBX.1.below HB.1).blk.at 1 (.pointer (some ⟨tb, 0, none⟩)) rfl
   have HTT := ak (two_to κ (i + 2) tb c f g ((a / 64 : Nat) : Int) (i64_of _ (by omega) (by omega)) wr (HT.1.upd (I := fun _ => False) (Upd.of_below κ HB.1) (fun _ _ h => h)))
   rw [hq, show ((a / 64 : Nat) : Int) = (a : Int) / 64 from by omega] at HTT
   clear hq hf
   go_upto_region 9 with (go_at_call 131; (with_reducible refine HTT.1.mono ?_); rintro e_ w1 ⟨rfl, rfl⟩)
   have e1 : (a : Int) % 64 = ((a % 64 : Nat) : Int) := by omega
   obtain ⟨r, hr⟩ : ∃ r, a % 64 = r := ⟨_, rfl⟩
   have hr64 : r < 64 := by omega
   rw [hr] at e1
   rcases Nat.lt_or_ge (64 - r) n with hc | hc
   ·obtain ⟨q, hq⟩ : ∃ q, r + q = 64 := ⟨64 - r, by omega⟩
    have c1 : ¬ ((n : Int) ≤ 64 - (r : Int)) := by omega
    have c2 : (64 : Int) - (r : Int) = (q : Int) := by omega
    have HS := ak (And.intro hr (show min n (64 - a % 64) = q by omega))
    have hs1 : 1 ≤ q ∧ q ≤ n ∧ q ≤ 64 := by omega
    have w1_ : wrap64 ((a : Int) + (q : Int)) = (a : Int) + (q : Int) := IntWalk.wrap64_in _ ⟨by omega, by omega⟩
    clear hr
    go_wp2_with ((with_reducible refine gate_builtin (b := .append) (xs := #[.tmp 53, .tmp 58]) rfl ?_); at_builtin; refine Kd.R_append pcK (w0 := w) w.heap.size rfl (.tmp 53) (.tmp 58) 182 186 (.agg #[.int .i64 0, .int .i64 0, .int .i64 0]) 24 rfl Tryz.underlying182 info3 rfl (by decide) (by omega) u8 don (pf (a / 64), r, q) [.int .i64 (pf (a / 64)), .int .i64 r, .int .i64 q] (fun _ => True) (fun _ => False) rfl rfl ?aP (fun _ hk => hk.elim) ?aF ?aO ?aB ?aS ?aL ?_; (case aP => exact pc_M _ _ _ _ _ _); (case aB => exact HB.1); (case aF => exact (fun _ _ => trivial)); (case aO => exact HR.1); (case aS => exact HB.1.size); (case aL => omega); intro v7 w7 ho7 hb7 hg7 hat7; have H7 := ak (And.intro ho7 hb7); clear ho7 hb7 hg7 hat7)
    refine ⟨⟨k - 1, a + q, n - q, don ++ [(pf (a / 64), r, q)], by first | rfl | (rw [Int.natCast_add]), by first | rfl | (congr 1; omega), by omega, ?_, by omega, by omega, by simp; omega, H7.1.1, H7.1.2⟩, by simp only [intOf]; omega⟩
    obtain ⟨k', rfl⟩ : ∃ k', k = k' + 1 := ⟨k - 1, by omega⟩
    rw [HP.1, pcs, if_neg (by omega), HS.1.2, HS.1.1]
    simp
   ·have c1 : (n : Int) ≤ 64 - (r : Int) := by omega
    have HS := ak (And.intro hr (show min n (64 - a % 64) = n by omega))
    have hs1 : 1 ≤ n ∧ n ≤ n ∧ n ≤ 64 := by omega
    have w1_ : wrap64 ((a : Int) + (n : Int)) = (a : Int) + (n : Int) := IntWalk.wrap64_in _ ⟨by omega, by omega⟩
    clear hr
    go_wp2_with ((with_reducible refine gate_builtin (b := .append) (xs := #[.tmp 53, .tmp 58]) rfl ?_); at_builtin; refine Kd.R_append pcK (w0 := w) w.heap.size rfl (.tmp 53) (.tmp 58) 182 186 (.agg #[.int .i64 0, .int .i64 0, .int .i64 0]) 24 rfl Tryz.underlying182 info3 rfl (by decide) (by omega) u8 don (pf (a / 64), r, n) [.int .i64 (pf (a / 64)), .int .i64 r, .int .i64 n] (fun _ => True) (fun _ => False) rfl rfl ?aP (fun _ hk => hk.elim) ?aF ?aO ?aB ?aS ?aL ?_; (case aP => exact pc_M _ _ _ _ _ _); (case aB => exact HB.1); (case aF => exact (fun _ _ => trivial)); (case aO => exact HR.1); (case aS => exact HB.1.size); (case aL => omega); intro v7 w7 ho7 hb7 hg7 hat7; have H7 := ak (And.intro ho7 hb7); clear ho7 hb7 hg7 hat7)
    refine ⟨⟨k - 1, a + n, n - n, don ++ [(pf (a / 64), r, n)], by first | rfl | (rw [Int.natCast_add]), by first | rfl | (congr 1; omega), by omega, ?_, by omega, by omega, by simp; omega, H7.1.1, H7.1.2⟩, by simp only [intOf]; omega⟩
    obtain ⟨k', rfl⟩ : ∃ k', k = k' + 1 := ⟨k - 1, by omega⟩
    rw [HP.1, pcs, if_neg (by omega), HS.1.2, HS.1.1]
    simp
  ·obtain rfl : n = 0 := by omega
   rw [pcs_zero, List.append_nil] at HP
   obtain ⟨A2, c2, rfl, hle2, hC2⟩ := Kd.R_reads HR.1
   clear hle2 hC2
   go_wp2_with fail
   go_ret2
   exact ⟨A2, c2, by rw [HP.1]; rfl, by rw [HP.1]; exact HR.1, HB.1⟩
end Go.Proofs.YtenkdmloolbdaaaGreatDoor.T
end
