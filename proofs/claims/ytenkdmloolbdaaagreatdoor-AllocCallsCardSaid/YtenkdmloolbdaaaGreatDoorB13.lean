/- The log: Add. -/
import Derived.Test.YtenkdmloolbdaaaGreatDoorB12
import Derived.Test.YtenkdmloolbdaaaGreatDoorB05
import Derived.Test.YtenkdmloolbdaaaGreatDoorB09
import Derived.LaidEqlPtr
section
namespace Go.Proofs.YtenkdmloolbdaaaGreatDoor.T
open Go.RowKit Go.Proofs.YtenkdmloolbdaaaGreatDoorW.PrintWords Go.Proofs.YtenkdmloolbdaaaGreatDoorW.PrintLast Go.Proofs.YtenkdmloolbdaaaGreatDoorW.PrintMore
set_option linter.unusedVariables false
set_option linter.unusedSimpArgs false
/-- One more of a count. -/
def bump (cn : List Int) (j : Nat) : List Int := cn.set j (wrap64 (cn.getD j 0 + 1))
/-- The counts behind an event. -/
def addC (cn : List Int) (x : Ev) : List Int :=
  let c1 := if x.node = x.start then (if x.il = true then bump (bump cn (x.node * 6)) (x.node * 6 + 5) else bump cn (x.node * 6)) else bump (bump cn (x.node * 6 + 1)) (x.start * 6 + 2)
  if x.node = x.own then bump c1 (x.node * 6 + 3) else bump c1 (x.node * 6 + 4)
theorem bump_len (cn : List Int) (j : Nat) : (bump cn j).length = cn.length := by unfold bump; rw [List.length_set]
theorem addC_len (cn : List Int) (x : Ev) : (addC cn x).length = cn.length := by
  unfold addC
  simp only []
  split <;> split <;> simp [bump_len] <;> split <;> simp [bump_len]
/-- A block of counts. -/
def CntB (κ : Kol) (i : Nat) (w : World) (g : Nat) (cn : List Int) : Prop := BlkK κ i w g (cn.map (Value.int .i64)).toArray 67
theorem CntB.at {κ : Kol} {i g : Nat} {w : World} {cn : List Int} (h : CntB κ i w g cn) (j : Nat) (hj : j < cn.length) : w.cell? ⟨g, j, none⟩ = some (.int .i64 (cn.getD j 0)) := by
  refine h.blk.at j _ ?_
  rw [List.getElem?_toArray, List.getElem?_map, List.getD_eq_getElem?_getD, List.getElem?_eq_getElem hj]
  rfl
theorem CntB.bump {κ : Kol} {i g : Nat} {w : World} {cn : List Int} (h : CntB κ i w g cn) (j : Nat) : CntB κ i (w.setCell ⟨g, j, none⟩ (.int .i64 (wrap64 (cn.getD j 0 + 1)))) g (bump cn j) := by
  have := h.set j (.int .i64 (wrap64 (cn.getD j 0 + 1)))
  unfold CntB T.bump
  rw [List.map_set]
  simpa using this
/-- A log in the midst of Add: the event's box, the log's block, the counts, the events. -/
structure LS (κ0 : Kol) (w0 : World) (κ : Kol) (i : Nat) (W : World) (b g bx nodes : Nat) (v : Value) (nev : Nat) (ec : List Value) (eb : Array Value) (cn : List Int) : Prop where
  e : BlkK κ (i + 999) W bx eb 99
  b : BlkK κ i W b #[v, .slice (some ⟨g, 0, none⟩) nodes nodes] 156
  c : CntB κ (i + 1) W g cn
  r : RowG κ (i + 2) W 99 4 v nev ec
  u : Upd (fun z => i ≤ z ∧ z < i + 3) κ0 w0 κ W
section
variable {κ0 κ : Kol} {w0 W W' : World} {i b g bx nodes nev : Nat} {v : Value} {ec : List Value} {eb : Array Value} {cn : List Int}
theorem LS.below (h : LS κ0 w0 κ i W b g bx nodes v nev ec eb cn) (k : RowKit.Below W.heap.size W W') : LS κ0 w0 κ i W' b g bx nodes v nev ec eb cn :=
  ⟨h.e.below k, h.b.below k, BlkK.below h.c k, h.r.below k, h.u.below k⟩
theorem LS.bump (h : LS κ0 w0 κ i W b g bx nodes v nev ec eb cn) (j : Nat) : LS κ0 w0 κ i (W.setCell ⟨g, j, none⟩ (.int .i64 (wrap64 (cn.getD j 0 + 1)))) b g bx nodes v nev ec eb (bump cn j) := by
  have hU : Upd (· = i + 1) κ W κ (W.setCell ⟨g, j, none⟩ (.int .i64 (wrap64 (cn.getD j 0 + 1)))) := (Upd.refl _ _ _).set ⟨g, j, none⟩ (fun _ => h.c.kol) _
  exact ⟨h.e.upd hU (by omega), h.b.upd hU (by omega), CntB.bump h.c j, h.r.upd hU (by omega), h.u.then hU (fun c e => by omega)⟩
end
set_option maxHeartbeats 4000000 in
set_option maxRecDepth 100000 in
theorem log_add (κ : Kol) (i b nodes : Nat) (ev : List Ev) (cn : List Int) (x : Ev) (hN : nodes ≤ 8) (h1 : x.node < nodes) (h2 : x.start < nodes) (h3 : x.own < nodes) (hev : ev.length ≤ 1000000) (w : World) (h : LogK κ i w b nodes ev cn) :
    Calls Tryz.prog 54 #[.pointer (some ⟨b, 0, none⟩), .agg #[.int .i64 x.node, .int .i64 x.start, .int .i64 x.own, .bool x.il]] w fun e w' => e = .returned (.int .i64 0) ∧ ∃ κ', LogK κ' i w' b nodes (ev ++ [x]) (addC cn x) ∧ Upd (fun z => i ≤ z ∧ z < i + 3) κ w κ' w' := by
  obtain ⟨nd, st, ow, il⟩ := x
  simp only at h1 h2 h3 ⊢
  obtain ⟨hlen, v, g, k1, k2, k3⟩ := h
  have HL := Aside0.mk hlen
  obtain ⟨wb, hwb⟩ : ∃ wb, w.alloc (.cells #[.int .i64 nd, .int .i64 st, .int .i64 ow, .bool il] 99) = wb := ⟨_, rfl⟩
  have hU0 : Upd (fun _ => False) κ w (κ.ext w.heap.size (i + 999)) wb := by rw [← hwb]; exact (Upd.of_below κ (below_alloc (RowKit.Below.refl _ _) _)).paint _ _ (Nat.le_refl _)
  have HKB := Aside0.mk k1.kol
  have HS := Aside0.mk (show LS κ w (κ.ext w.heap.size (i + 999)) i wb b g w.heap.size nodes v ev.length (evCells ev) #[.int .i64 nd, .int .i64 st, .int .i64 ow, .bool il] cn from
    ⟨by rw [← hwb]; exact BlkK.new κ w (i + 999) _ _, k1.upd hU0 (fun h => h), BlkK.upd k2 hU0 (fun h => h), k3.upd hU0 (fun h => h), hU0.mono (fun _ h => h.elim)⟩)
  obtain ⟨ec, hec⟩ : ∃ ec, evCells ev = ec := ⟨_, rfl⟩
  have HEC := Aside0.mk hec
  rw [hec] at HS
  have e0 := HS.out.e.blk.at 0 (.int .i64 nd) rfl
  have e1 := HS.out.e.blk.at 1 (.int .i64 st) rfl
  have hlen2 := hlen
  clear k1 k2 k3 hU0 hec
  go_enter Tryz.func54, Tryz.ntmps54
  go_upto_region 3 with fail
  clear hwb
  refine st_ 10 (fun w' => w'.cell? ⟨w.heap.size, 0, none⟩ = some (.int .i64 nd) ∧ w'.cell? ⟨w.heap.size, 1, none⟩ = some (.int .i64 st)) [] ⟨e0, e1⟩ (fun hHeld => ?_)
  have n0_ := Aside0.mk (HS.out.below (below_drew (RowKit.Below.refl _ _)))
  clear HS
  generalize wb.drew = wd at *
  have HS := n0_
  clear n0_
  refine pu_ 0 9 1 ?_
  refine pu_ 1 10 3 ?_
  refine pu_ 4 13 19 ?_
  refine pu_ 5 14 51 ?_
  refine ta_ 2 11 55 hHeld ?_
  refine ta_ 6 15 119 hHeld ?_
  refine one_ (i := 3) (N := some 12) (bz 10 127) rfl rfl (by kernel_rfl) (by decide) (fun K hK => ?_)
  refine goes_ Tryz.func80 (by kernel_rfl) rfl #[.pointer (some ⟨b, 0, none⟩), .int .i64 nd] (by rfl) rfl rfl (by simp only [List.map_toArray, List.map_cons, List.map_nil]; rfl) ?_
  with_reducible refine (log_node b g nodes nd v h1 (by omega) _ HS.out.b.blk).mono ?_
  rintro e_ w3 ⟨rfl, rfl⟩
  refine ⟨_, rfl, ?_⟩
  refine hK.out _ _ ⟨hHeld.1, hHeld.2⟩ (fun hHeld => ?_)
  clear hK K
  refine no_ 12 ?_
  refine one_ (i := 7) (N := some 16) (bz 10 255) rfl rfl (by kernel_rfl) (by decide) (fun K hK => ?_)
  refine goes_ Tryz.func80 (by kernel_rfl) rfl #[.pointer (some ⟨b, 0, none⟩), .int .i64 st] (by rfl) rfl rfl (by simp only [List.map_toArray, List.map_cons, List.map_nil]; rfl) ?_
  with_reducible refine (log_node b g nodes st v h2 (by omega) _ HS.out.b.blk).mono ?_
  rintro e_ w3 ⟨rfl, rfl⟩
  refine ⟨_, rfl, ?_⟩
  refine hK.out _ _ ⟨hHeld.1, hHeld.2⟩ (fun hHeld => ?_)
  clear hK K
  refine no_ 16 ?_
  refine pu_ 8 5 511 ?_
  refine pu_ 9 6 1023 ?_
  refine done_ (by kernel_rfl) ?_
  have hnd : nd * 6 + 5 < cn.length := by omega
  have hst : st * 6 + 5 < cn.length := by omega
  clear e0 e1 hlen
  have e2 := HS.out.e.blk.at 2 (.int .i64 ow) rfl
  go_upto_region 6 with (go_at_call 80; (with_reducible refine (log_node b g nodes ow v h3 (by omega) _ HS.out.b.blk).mono ?_); rintro e_ w3 ⟨rfl, rfl⟩)
  clear e2
  obtain ⟨ji, hji, hjs⟩ : ∃ j, Tryz.prog.info? 67 = some j ∧ j.size = 6 := by
    have h : (Tryz.prog.info? 67).map (fun i => i.size) = some 6 := by kernel_rfl
    exact Option.map_eq_some_iff.1 h
  have info4 : (Tryz.prog.info? 99).map (fun i => (i.zero, i.size, i.bytes)) = some (some (.agg #[.int .i64 0, .int .i64 0, .int .i64 0, .bool false]), 4, 32) := by kernel_rfl
  have HLEN := Aside0.mk hlen2
  have HX := Aside0.mk (show ∀ c, c = nd ∨ c = st ∨ c = ow → c * 6 + 5 < nodes * 6 by rintro c (rfl | rfl | rfl) <;> omega)
  have hev2 : (ev.length + 1) * 32 ≤ 140737488355328 := by omega
  have HEV := Aside0.mk hev2
  clear hlen2 hnd hst h1 h2 h3 hev2
  by_cases hs : nd = st
  · subst hs
    have hpe := run_eql_ptr_same (P := Tryz.prog) w3 ⟨g, nd * 6, none⟩ Tryz.underlying152 hji
    cases il
    · have cc := HS.out.c.at (nd * 6) (by rw [HLEN.out]; have := HX.out nd (by simp); omega)
      have ff := HS.out.c.blk.fz (nd * 6)
      obtain ⟨cx0, hcx0⟩ : ∃ cx, cn.getD (nd * 6) 0 = cx := ⟨_, rfl⟩
      rw [hcx0] at cc
      have n0_ := Aside0.mk (HS.out.bump (nd * 6))
      rw [hcx0] at n0_
      have HC0 := Aside0.mk hcx0
      clear hcx0
      go_upto_region 8 with fail
      obtain ⟨W0, hW⟩ : ∃ W', (w3.setCell ⟨g, nd * 6, none⟩ (.int .i64 (wrap64 (cx0 + 1)))) = W' := ⟨_, rfl⟩
      rw [hW] at n0_ ⊢
      clear HS cc ff hW
      have HS := n0_
      clear n0_
      obtain ⟨c0, hc0⟩ : ∃ c, bump cn (nd * 6) = c := ⟨_, rfl⟩
      rw [hc0] at HS
      have HL0 := Aside0.mk (show c0.length = nodes * 6 by rw [← hc0, bump_len]; exact HLEN.out)
      have HB0 := Aside0.mk hc0
      clear hc0
      have e3 := HS.out.e.blk.at 3 (.bool false) rfl
      go_upto_region 12 with fail
      clear e3
      have e0 := HS.out.e.blk.at 0 (.int .i64 nd) rfl
      have e2 := HS.out.e.blk.at 2 (.int .i64 ow) rfl
      by_cases ho : nd = ow
      · skip
        subst ho
        go_upto_region 13 with fail
        clear e0 e2
        have cc := HS.out.c.at (nd * 6 + 3) (by rw [HL0.out]; have := HX.out nd (by simp); omega)
        have ff := HS.out.c.blk.fz (nd * 6 + 3)
        obtain ⟨cx1, hcx1⟩ : ∃ cx, c0.getD (nd * 6 + 3) 0 = cx := ⟨_, rfl⟩
        rw [hcx1] at cc
        have n0_ := Aside0.mk (HS.out.bump (nd * 6 + 3))
        rw [hcx1] at n0_
        have HC1 := Aside0.mk hcx1
        clear hcx1
        go_upto_region 15 with fail
        obtain ⟨W1, hW⟩ : ∃ W', (W0.setCell ⟨g, nd * 6 + 3, none⟩ (.int .i64 (wrap64 (cx1 + 1)))) = W' := ⟨_, rfl⟩
        rw [hW] at n0_ ⊢
        clear HS cc ff hW
        have HS := n0_
        clear n0_
        obtain ⟨c1, hc1⟩ : ∃ c, bump c0 (nd * 6 + 3) = c := ⟨_, rfl⟩
        rw [hc1] at HS
        have HL1 := Aside0.mk (show c1.length = nodes * 6 by rw [← hc1, bump_len]; exact HL0.out)
        have HB1 := Aside0.mk hc1
        clear hc1
        have q0 := HS.out.b.blk.at 0 v rfl
        have q1 := HS.out.e.blk.at 0 (.int .i64 nd) rfl
        have q2 := HS.out.e.blk.at 1 (.int .i64 nd) rfl
        have q3 := HS.out.e.blk.at 2 (.int .i64 nd) rfl
        have q4 := HS.out.e.blk.at 3 (.bool false) rfl
        refine st_ 11 (fun w' => w'.cell? ⟨b, 0, none⟩ = some v ∧ w'.cell? ⟨w.heap.size, 0, none⟩ = some (.int .i64 nd) ∧ w'.cell? ⟨w.heap.size, 1, none⟩ = some (.int .i64 nd) ∧ w'.cell? ⟨w.heap.size, 2, none⟩ = some (.int .i64 nd) ∧ w'.cell? ⟨w.heap.size, 3, none⟩ = some (.bool false)) [7, 10] ⟨q0, q1, q2, q3, q4⟩ (fun hHeld => ?_)
        have n0_ := Aside0.mk (HS.out.below (below_drew (RowKit.Below.refl _ _)))
        clear HS q0 q1 q2 q3 q4
        generalize W1.drew = wd at *
        have HS := n0_
        clear n0_
        refine pu_ 0 82 1 ?_
        refine pu_ 1 83 3 ?_
        refine pu_ 2 84 7 ?_
        refine pu_ 3 85 15 ?_
        refine ta_ 4 86 31 hHeld ?_
        refine ta_ 5 87 63 hHeld ?_
        refine one_ (i := 6) (N := some 88) (bz 11 127) rfl rfl (by kernel_rfl) (by decide) (fun K hK => ?_)
        refine va_ ?_
        refine hK.out _ _ ⟨(HS.out.b.blk.alloc _).at 0 v rfl, (HS.out.e.blk.alloc _).at 0 (.int .i64 nd) rfl, (HS.out.e.blk.alloc _).at 1 (.int .i64 nd) rfl, (HS.out.e.blk.alloc _).at 2 (.int .i64 nd) rfl, (HS.out.e.blk.alloc _).at 3 (.bool false) rfl⟩ (fun hHeld => ?_)
        clear hK K
        refine no_ 88 ?_
        refine last_ (i := 7) (N := some 89) (bz 11 255) rfl rfl (by kernel_rfl) (by decide) (fun K hK => ?_)
        refine step_append_cells (w0 := wd) 0 rfl (.tmp 86) (.tmp 88) 82 99 (.agg #[.int .i64 0, .int .i64 0, .int .i64 0, .bool false]) 4 32 rfl Tryz.underlying82 info4 rfl (by decide) (by decide) v ev.length ec [.int .i64 nd, .int .i64 nd, .int .i64 nd, .bool false] rfl rfl rfl (by intro u hu; simp at hu; rcases hu with rfl | rfl | rfl | rfl <;> rfl) HS.out.r.1 (RowKit.Below.refl _ _) (Nat.zero_le _) HEV.out ?_
        intro v7 w7 ho7 hb7 hg7 hat7
        have hG := RowG.grown HS.out.r ho7 hg7 hat7
        obtain ⟨A7, c7, rfl⟩ := hG.1.sl
        have HG := Aside0.mk hG
        have q7 := (HS.out.b.upd hG.2 (by omega)).blk.at 0 v rfl
        have f7 := (HS.out.b.upd hG.2 (by omega)).blk.fz 0
        clear ho7 hb7 hg7 hat7 hG
        refine hK.out _ _ ?_
        clear hK K
        refine no_ 89 ?_
        refine pu_ 8 90 511 ?_
        refine pu_ 9 91 1023 ?_
        refine last_ (i := 10) (N := none) (bz 11 2047) rfl rfl (by kernel_rfl) (by decide) (fun K hK => ?_)
        refine skip_ (w1 := ?_) (by rfl) rfl ?_ ?_
        rotate_left
        · go_simp
          rfl
        refine hK.out _ _ ?_
        clear hK K
        refine done_ (by kernel_rfl) ?_
        go_wp2_with fail
        go_ret
        have hb7 := HS.out.b.upd HG.out.2 (by omega)
        have hu7 := (Upd.refl (· = i) ((κ.ext w.heap.size (i + 999)).ext wd.heap.size (i + 2)) w7).set ⟨b, 0, none⟩ (fun _ => hb7.kol) (.slice A7 (ev.length + 1) c7)
        refine ⟨rfl, _, ⟨by rw [addC_len]; exact HLEN.out, .slice A7 (ev.length + 1) c7, g, hb7.set 0 _, ?_, ?_⟩, (HS.out.u.then HG.out.2 (fun c e => by omega)).set ⟨b, 0, none⟩ (fun hh => by show i ≤ κ b ∧ κ b < i + 3; rw [HKB.out]; omega) _⟩
        · have hc7 := (BlkK.upd HS.out.c HG.out.2 (by omega)).upd hu7 (by omega)
          have he : addC cn ⟨nd, nd, nd, false⟩ = c1 := by simp [addC, HB0.out, HC0.out, HB1.out, HC1.out]
          rw [he]
          exact hc7
        · have hr7 := HG.out.1.upd hu7 (by omega)
          rw [List.length_append, List.length_singleton]
          have he : evCells (ev ++ [⟨nd, nd, nd, false⟩]) = ec ++ [.int .i64 nd, .int .i64 nd, .int .i64 nd, .bool false] := by
            rw [← HEC.out]
            unfold evCells
            rw [List.flatMap_append]
            rfl
          rw [he]
          exact hr7
      · skip
        have hoI : ¬ ((nd : Int) = (ow : Int)) := by omega
        go_upto_region 14 with fail
        clear e0 e2
        have cc := HS.out.c.at (nd * 6 + 4) (by rw [HL0.out]; have := HX.out nd (by simp); omega)
        have ff := HS.out.c.blk.fz (nd * 6 + 4)
        obtain ⟨cx1, hcx1⟩ : ∃ cx, c0.getD (nd * 6 + 4) 0 = cx := ⟨_, rfl⟩
        rw [hcx1] at cc
        have n0_ := Aside0.mk (HS.out.bump (nd * 6 + 4))
        rw [hcx1] at n0_
        have HC1 := Aside0.mk hcx1
        clear hcx1
        go_upto_region 15 with fail
        obtain ⟨W1, hW⟩ : ∃ W', (W0.setCell ⟨g, nd * 6 + 4, none⟩ (.int .i64 (wrap64 (cx1 + 1)))) = W' := ⟨_, rfl⟩
        rw [hW] at n0_ ⊢
        clear HS cc ff hW
        have HS := n0_
        clear n0_
        obtain ⟨c1, hc1⟩ : ∃ c, bump c0 (nd * 6 + 4) = c := ⟨_, rfl⟩
        rw [hc1] at HS
        have HL1 := Aside0.mk (show c1.length = nodes * 6 by rw [← hc1, bump_len]; exact HL0.out)
        have HB1 := Aside0.mk hc1
        clear hc1
        have q0 := HS.out.b.blk.at 0 v rfl
        have q1 := HS.out.e.blk.at 0 (.int .i64 nd) rfl
        have q2 := HS.out.e.blk.at 1 (.int .i64 nd) rfl
        have q3 := HS.out.e.blk.at 2 (.int .i64 ow) rfl
        have q4 := HS.out.e.blk.at 3 (.bool false) rfl
        refine st_ 11 (fun w' => w'.cell? ⟨b, 0, none⟩ = some v ∧ w'.cell? ⟨w.heap.size, 0, none⟩ = some (.int .i64 nd) ∧ w'.cell? ⟨w.heap.size, 1, none⟩ = some (.int .i64 nd) ∧ w'.cell? ⟨w.heap.size, 2, none⟩ = some (.int .i64 ow) ∧ w'.cell? ⟨w.heap.size, 3, none⟩ = some (.bool false)) [7, 10] ⟨q0, q1, q2, q3, q4⟩ (fun hHeld => ?_)
        have n0_ := Aside0.mk (HS.out.below (below_drew (RowKit.Below.refl _ _)))
        clear HS q0 q1 q2 q3 q4
        generalize W1.drew = wd at *
        have HS := n0_
        clear n0_
        refine pu_ 0 82 1 ?_
        refine pu_ 1 83 3 ?_
        refine pu_ 2 84 7 ?_
        refine pu_ 3 85 15 ?_
        refine ta_ 4 86 31 hHeld ?_
        refine ta_ 5 87 63 hHeld ?_
        refine one_ (i := 6) (N := some 88) (bz 11 127) rfl rfl (by kernel_rfl) (by decide) (fun K hK => ?_)
        refine va_ ?_
        refine hK.out _ _ ⟨(HS.out.b.blk.alloc _).at 0 v rfl, (HS.out.e.blk.alloc _).at 0 (.int .i64 nd) rfl, (HS.out.e.blk.alloc _).at 1 (.int .i64 nd) rfl, (HS.out.e.blk.alloc _).at 2 (.int .i64 ow) rfl, (HS.out.e.blk.alloc _).at 3 (.bool false) rfl⟩ (fun hHeld => ?_)
        clear hK K
        refine no_ 88 ?_
        refine last_ (i := 7) (N := some 89) (bz 11 255) rfl rfl (by kernel_rfl) (by decide) (fun K hK => ?_)
        refine step_append_cells (w0 := wd) 0 rfl (.tmp 86) (.tmp 88) 82 99 (.agg #[.int .i64 0, .int .i64 0, .int .i64 0, .bool false]) 4 32 rfl Tryz.underlying82 info4 rfl (by decide) (by decide) v ev.length ec [.int .i64 nd, .int .i64 nd, .int .i64 ow, .bool false] rfl rfl rfl (by intro u hu; simp at hu; rcases hu with rfl | rfl | rfl | rfl <;> rfl) HS.out.r.1 (RowKit.Below.refl _ _) (Nat.zero_le _) HEV.out ?_
        intro v7 w7 ho7 hb7 hg7 hat7
        have hG := RowG.grown HS.out.r ho7 hg7 hat7
        obtain ⟨A7, c7, rfl⟩ := hG.1.sl
        have HG := Aside0.mk hG
        have q7 := (HS.out.b.upd hG.2 (by omega)).blk.at 0 v rfl
        have f7 := (HS.out.b.upd hG.2 (by omega)).blk.fz 0
        clear ho7 hb7 hg7 hat7 hG
        refine hK.out _ _ ?_
        clear hK K
        refine no_ 89 ?_
        refine pu_ 8 90 511 ?_
        refine pu_ 9 91 1023 ?_
        refine last_ (i := 10) (N := none) (bz 11 2047) rfl rfl (by kernel_rfl) (by decide) (fun K hK => ?_)
        refine skip_ (w1 := ?_) (by rfl) rfl ?_ ?_
        rotate_left
        · go_simp
          rfl
        refine hK.out _ _ ?_
        clear hK K
        refine done_ (by kernel_rfl) ?_
        go_wp2_with fail
        go_ret
        have hb7 := HS.out.b.upd HG.out.2 (by omega)
        have hu7 := (Upd.refl (· = i) ((κ.ext w.heap.size (i + 999)).ext wd.heap.size (i + 2)) w7).set ⟨b, 0, none⟩ (fun _ => hb7.kol) (.slice A7 (ev.length + 1) c7)
        refine ⟨rfl, _, ⟨by rw [addC_len]; exact HLEN.out, .slice A7 (ev.length + 1) c7, g, hb7.set 0 _, ?_, ?_⟩, (HS.out.u.then HG.out.2 (fun c e => by omega)).set ⟨b, 0, none⟩ (fun hh => by show i ≤ κ b ∧ κ b < i + 3; rw [HKB.out]; omega) _⟩
        · have hc7 := (BlkK.upd HS.out.c HG.out.2 (by omega)).upd hu7 (by omega)
          have he : addC cn ⟨nd, nd, ow, false⟩ = c1 := by simp [addC, ho, HB0.out, HC0.out, HB1.out, HC1.out]
          rw [he]
          exact hc7
        · have hr7 := HG.out.1.upd hu7 (by omega)
          rw [List.length_append, List.length_singleton]
          have he : evCells (ev ++ [⟨nd, nd, ow, false⟩]) = ec ++ [.int .i64 nd, .int .i64 nd, .int .i64 ow, .bool false] := by
            rw [← HEC.out]
            unfold evCells
            rw [List.flatMap_append]
            rfl
          rw [he]
          exact hr7
    · have cc := HS.out.c.at (nd * 6) (by rw [HLEN.out]; have := HX.out nd (by simp); omega)
      have ff := HS.out.c.blk.fz (nd * 6)
      obtain ⟨cx0, hcx0⟩ : ∃ cx, cn.getD (nd * 6) 0 = cx := ⟨_, rfl⟩
      rw [hcx0] at cc
      have n0_ := Aside0.mk (HS.out.bump (nd * 6))
      rw [hcx0] at n0_
      have HC0 := Aside0.mk hcx0
      clear hcx0
      go_upto_region 8 with fail
      obtain ⟨W0, hW⟩ : ∃ W', (w3.setCell ⟨g, nd * 6, none⟩ (.int .i64 (wrap64 (cx0 + 1)))) = W' := ⟨_, rfl⟩
      rw [hW] at n0_ ⊢
      clear HS cc ff hW
      have HS := n0_
      clear n0_
      obtain ⟨c0, hc0⟩ : ∃ c, bump cn (nd * 6) = c := ⟨_, rfl⟩
      rw [hc0] at HS
      have HL0 := Aside0.mk (show c0.length = nodes * 6 by rw [← hc0, bump_len]; exact HLEN.out)
      have HB0 := Aside0.mk hc0
      clear hc0
      have e3 := HS.out.e.blk.at 3 (.bool true) rfl
      go_upto_region 9 with fail
      clear e3
      have cc := HS.out.c.at (nd * 6 + 5) (by rw [HL0.out]; have := HX.out nd (by simp); omega)
      have ff := HS.out.c.blk.fz (nd * 6 + 5)
      obtain ⟨cx1, hcx1⟩ : ∃ cx, c0.getD (nd * 6 + 5) 0 = cx := ⟨_, rfl⟩
      rw [hcx1] at cc
      have n0_ := Aside0.mk (HS.out.bump (nd * 6 + 5))
      rw [hcx1] at n0_
      have HC1 := Aside0.mk hcx1
      clear hcx1
      go_upto_region 12 with fail
      obtain ⟨W1, hW⟩ : ∃ W', (W0.setCell ⟨g, nd * 6 + 5, none⟩ (.int .i64 (wrap64 (cx1 + 1)))) = W' := ⟨_, rfl⟩
      rw [hW] at n0_ ⊢
      clear HS cc ff hW
      have HS := n0_
      clear n0_
      obtain ⟨c1, hc1⟩ : ∃ c, bump c0 (nd * 6 + 5) = c := ⟨_, rfl⟩
      rw [hc1] at HS
      have HL1 := Aside0.mk (show c1.length = nodes * 6 by rw [← hc1, bump_len]; exact HL0.out)
      have HB1 := Aside0.mk hc1
      clear hc1
      have e0 := HS.out.e.blk.at 0 (.int .i64 nd) rfl
      have e2 := HS.out.e.blk.at 2 (.int .i64 ow) rfl
      by_cases ho : nd = ow
      · skip
        subst ho
        go_upto_region 13 with fail
        clear e0 e2
        have cc := HS.out.c.at (nd * 6 + 3) (by rw [HL1.out]; have := HX.out nd (by simp); omega)
        have ff := HS.out.c.blk.fz (nd * 6 + 3)
        obtain ⟨cx2, hcx2⟩ : ∃ cx, c1.getD (nd * 6 + 3) 0 = cx := ⟨_, rfl⟩
        rw [hcx2] at cc
        have n0_ := Aside0.mk (HS.out.bump (nd * 6 + 3))
        rw [hcx2] at n0_
        have HC2 := Aside0.mk hcx2
        clear hcx2
        go_upto_region 15 with fail
        obtain ⟨W2, hW⟩ : ∃ W', (W1.setCell ⟨g, nd * 6 + 3, none⟩ (.int .i64 (wrap64 (cx2 + 1)))) = W' := ⟨_, rfl⟩
        rw [hW] at n0_ ⊢
        clear HS cc ff hW
        have HS := n0_
        clear n0_
        obtain ⟨c2, hc2⟩ : ∃ c, bump c1 (nd * 6 + 3) = c := ⟨_, rfl⟩
        rw [hc2] at HS
        have HL2 := Aside0.mk (show c2.length = nodes * 6 by rw [← hc2, bump_len]; exact HL1.out)
        have HB2 := Aside0.mk hc2
        clear hc2
        have q0 := HS.out.b.blk.at 0 v rfl
        have q1 := HS.out.e.blk.at 0 (.int .i64 nd) rfl
        have q2 := HS.out.e.blk.at 1 (.int .i64 nd) rfl
        have q3 := HS.out.e.blk.at 2 (.int .i64 nd) rfl
        have q4 := HS.out.e.blk.at 3 (.bool true) rfl
        refine st_ 11 (fun w' => w'.cell? ⟨b, 0, none⟩ = some v ∧ w'.cell? ⟨w.heap.size, 0, none⟩ = some (.int .i64 nd) ∧ w'.cell? ⟨w.heap.size, 1, none⟩ = some (.int .i64 nd) ∧ w'.cell? ⟨w.heap.size, 2, none⟩ = some (.int .i64 nd) ∧ w'.cell? ⟨w.heap.size, 3, none⟩ = some (.bool true)) [7, 10] ⟨q0, q1, q2, q3, q4⟩ (fun hHeld => ?_)
        have n0_ := Aside0.mk (HS.out.below (below_drew (RowKit.Below.refl _ _)))
        clear HS q0 q1 q2 q3 q4
        generalize W2.drew = wd at *
        have HS := n0_
        clear n0_
        refine pu_ 0 82 1 ?_
        refine pu_ 1 83 3 ?_
        refine pu_ 2 84 7 ?_
        refine pu_ 3 85 15 ?_
        refine ta_ 4 86 31 hHeld ?_
        refine ta_ 5 87 63 hHeld ?_
        refine one_ (i := 6) (N := some 88) (bz 11 127) rfl rfl (by kernel_rfl) (by decide) (fun K hK => ?_)
        refine va_ ?_
        refine hK.out _ _ ⟨(HS.out.b.blk.alloc _).at 0 v rfl, (HS.out.e.blk.alloc _).at 0 (.int .i64 nd) rfl, (HS.out.e.blk.alloc _).at 1 (.int .i64 nd) rfl, (HS.out.e.blk.alloc _).at 2 (.int .i64 nd) rfl, (HS.out.e.blk.alloc _).at 3 (.bool true) rfl⟩ (fun hHeld => ?_)
        clear hK K
        refine no_ 88 ?_
        refine last_ (i := 7) (N := some 89) (bz 11 255) rfl rfl (by kernel_rfl) (by decide) (fun K hK => ?_)
        refine step_append_cells (w0 := wd) 0 rfl (.tmp 86) (.tmp 88) 82 99 (.agg #[.int .i64 0, .int .i64 0, .int .i64 0, .bool false]) 4 32 rfl Tryz.underlying82 info4 rfl (by decide) (by decide) v ev.length ec [.int .i64 nd, .int .i64 nd, .int .i64 nd, .bool true] rfl rfl rfl (by intro u hu; simp at hu; rcases hu with rfl | rfl | rfl | rfl <;> rfl) HS.out.r.1 (RowKit.Below.refl _ _) (Nat.zero_le _) HEV.out ?_
        intro v7 w7 ho7 hb7 hg7 hat7
        have hG := RowG.grown HS.out.r ho7 hg7 hat7
        obtain ⟨A7, c7, rfl⟩ := hG.1.sl
        have HG := Aside0.mk hG
        have q7 := (HS.out.b.upd hG.2 (by omega)).blk.at 0 v rfl
        have f7 := (HS.out.b.upd hG.2 (by omega)).blk.fz 0
        clear ho7 hb7 hg7 hat7 hG
        refine hK.out _ _ ?_
        clear hK K
        refine no_ 89 ?_
        refine pu_ 8 90 511 ?_
        refine pu_ 9 91 1023 ?_
        refine last_ (i := 10) (N := none) (bz 11 2047) rfl rfl (by kernel_rfl) (by decide) (fun K hK => ?_)
        refine skip_ (w1 := ?_) (by rfl) rfl ?_ ?_
        rotate_left
        · go_simp
          rfl
        refine hK.out _ _ ?_
        clear hK K
        refine done_ (by kernel_rfl) ?_
        go_wp2_with fail
        go_ret
        have hb7 := HS.out.b.upd HG.out.2 (by omega)
        have hu7 := (Upd.refl (· = i) ((κ.ext w.heap.size (i + 999)).ext wd.heap.size (i + 2)) w7).set ⟨b, 0, none⟩ (fun _ => hb7.kol) (.slice A7 (ev.length + 1) c7)
        refine ⟨rfl, _, ⟨by rw [addC_len]; exact HLEN.out, .slice A7 (ev.length + 1) c7, g, hb7.set 0 _, ?_, ?_⟩, (HS.out.u.then HG.out.2 (fun c e => by omega)).set ⟨b, 0, none⟩ (fun hh => by show i ≤ κ b ∧ κ b < i + 3; rw [HKB.out]; omega) _⟩
        · have hc7 := (BlkK.upd HS.out.c HG.out.2 (by omega)).upd hu7 (by omega)
          have he : addC cn ⟨nd, nd, nd, true⟩ = c2 := by simp [addC, HB0.out, HC0.out, HB1.out, HC1.out, HB2.out, HC2.out]
          rw [he]
          exact hc7
        · have hr7 := HG.out.1.upd hu7 (by omega)
          rw [List.length_append, List.length_singleton]
          have he : evCells (ev ++ [⟨nd, nd, nd, true⟩]) = ec ++ [.int .i64 nd, .int .i64 nd, .int .i64 nd, .bool true] := by
            rw [← HEC.out]
            unfold evCells
            rw [List.flatMap_append]
            rfl
          rw [he]
          exact hr7
      · skip
        have hoI : ¬ ((nd : Int) = (ow : Int)) := by omega
        go_upto_region 14 with fail
        clear e0 e2
        have cc := HS.out.c.at (nd * 6 + 4) (by rw [HL1.out]; have := HX.out nd (by simp); omega)
        have ff := HS.out.c.blk.fz (nd * 6 + 4)
        obtain ⟨cx2, hcx2⟩ : ∃ cx, c1.getD (nd * 6 + 4) 0 = cx := ⟨_, rfl⟩
        rw [hcx2] at cc
        have n0_ := Aside0.mk (HS.out.bump (nd * 6 + 4))
        rw [hcx2] at n0_
        have HC2 := Aside0.mk hcx2
        clear hcx2
        go_upto_region 15 with fail
        obtain ⟨W2, hW⟩ : ∃ W', (W1.setCell ⟨g, nd * 6 + 4, none⟩ (.int .i64 (wrap64 (cx2 + 1)))) = W' := ⟨_, rfl⟩
        rw [hW] at n0_ ⊢
        clear HS cc ff hW
        have HS := n0_
        clear n0_
        obtain ⟨c2, hc2⟩ : ∃ c, bump c1 (nd * 6 + 4) = c := ⟨_, rfl⟩
        rw [hc2] at HS
        have HL2 := Aside0.mk (show c2.length = nodes * 6 by rw [← hc2, bump_len]; exact HL1.out)
        have HB2 := Aside0.mk hc2
        clear hc2
        have q0 := HS.out.b.blk.at 0 v rfl
        have q1 := HS.out.e.blk.at 0 (.int .i64 nd) rfl
        have q2 := HS.out.e.blk.at 1 (.int .i64 nd) rfl
        have q3 := HS.out.e.blk.at 2 (.int .i64 ow) rfl
        have q4 := HS.out.e.blk.at 3 (.bool true) rfl
        refine st_ 11 (fun w' => w'.cell? ⟨b, 0, none⟩ = some v ∧ w'.cell? ⟨w.heap.size, 0, none⟩ = some (.int .i64 nd) ∧ w'.cell? ⟨w.heap.size, 1, none⟩ = some (.int .i64 nd) ∧ w'.cell? ⟨w.heap.size, 2, none⟩ = some (.int .i64 ow) ∧ w'.cell? ⟨w.heap.size, 3, none⟩ = some (.bool true)) [7, 10] ⟨q0, q1, q2, q3, q4⟩ (fun hHeld => ?_)
        have n0_ := Aside0.mk (HS.out.below (below_drew (RowKit.Below.refl _ _)))
        clear HS q0 q1 q2 q3 q4
        generalize W2.drew = wd at *
        have HS := n0_
        clear n0_
        refine pu_ 0 82 1 ?_
        refine pu_ 1 83 3 ?_
        refine pu_ 2 84 7 ?_
        refine pu_ 3 85 15 ?_
        refine ta_ 4 86 31 hHeld ?_
        refine ta_ 5 87 63 hHeld ?_
        refine one_ (i := 6) (N := some 88) (bz 11 127) rfl rfl (by kernel_rfl) (by decide) (fun K hK => ?_)
        refine va_ ?_
        refine hK.out _ _ ⟨(HS.out.b.blk.alloc _).at 0 v rfl, (HS.out.e.blk.alloc _).at 0 (.int .i64 nd) rfl, (HS.out.e.blk.alloc _).at 1 (.int .i64 nd) rfl, (HS.out.e.blk.alloc _).at 2 (.int .i64 ow) rfl, (HS.out.e.blk.alloc _).at 3 (.bool true) rfl⟩ (fun hHeld => ?_)
        clear hK K
        refine no_ 88 ?_
        refine last_ (i := 7) (N := some 89) (bz 11 255) rfl rfl (by kernel_rfl) (by decide) (fun K hK => ?_)
        refine step_append_cells (w0 := wd) 0 rfl (.tmp 86) (.tmp 88) 82 99 (.agg #[.int .i64 0, .int .i64 0, .int .i64 0, .bool false]) 4 32 rfl Tryz.underlying82 info4 rfl (by decide) (by decide) v ev.length ec [.int .i64 nd, .int .i64 nd, .int .i64 ow, .bool true] rfl rfl rfl (by intro u hu; simp at hu; rcases hu with rfl | rfl | rfl | rfl <;> rfl) HS.out.r.1 (RowKit.Below.refl _ _) (Nat.zero_le _) HEV.out ?_
        intro v7 w7 ho7 hb7 hg7 hat7
        have hG := RowG.grown HS.out.r ho7 hg7 hat7
        obtain ⟨A7, c7, rfl⟩ := hG.1.sl
        have HG := Aside0.mk hG
        have q7 := (HS.out.b.upd hG.2 (by omega)).blk.at 0 v rfl
        have f7 := (HS.out.b.upd hG.2 (by omega)).blk.fz 0
        clear ho7 hb7 hg7 hat7 hG
        refine hK.out _ _ ?_
        clear hK K
        refine no_ 89 ?_
        refine pu_ 8 90 511 ?_
        refine pu_ 9 91 1023 ?_
        refine last_ (i := 10) (N := none) (bz 11 2047) rfl rfl (by kernel_rfl) (by decide) (fun K hK => ?_)
        refine skip_ (w1 := ?_) (by rfl) rfl ?_ ?_
        rotate_left
        · go_simp
          rfl
        refine hK.out _ _ ?_
        clear hK K
        refine done_ (by kernel_rfl) ?_
        go_wp2_with fail
        go_ret
        have hb7 := HS.out.b.upd HG.out.2 (by omega)
        have hu7 := (Upd.refl (· = i) ((κ.ext w.heap.size (i + 999)).ext wd.heap.size (i + 2)) w7).set ⟨b, 0, none⟩ (fun _ => hb7.kol) (.slice A7 (ev.length + 1) c7)
        refine ⟨rfl, _, ⟨by rw [addC_len]; exact HLEN.out, .slice A7 (ev.length + 1) c7, g, hb7.set 0 _, ?_, ?_⟩, (HS.out.u.then HG.out.2 (fun c e => by omega)).set ⟨b, 0, none⟩ (fun hh => by show i ≤ κ b ∧ κ b < i + 3; rw [HKB.out]; omega) _⟩
        · have hc7 := (BlkK.upd HS.out.c HG.out.2 (by omega)).upd hu7 (by omega)
          have he : addC cn ⟨nd, nd, ow, true⟩ = c2 := by simp [addC, ho, HB0.out, HC0.out, HB1.out, HC1.out, HB2.out, HC2.out]
          rw [he]
          exact hc7
        · have hr7 := HG.out.1.upd hu7 (by omega)
          rw [List.length_append, List.length_singleton]
          have he : evCells (ev ++ [⟨nd, nd, ow, true⟩]) = ec ++ [.int .i64 nd, .int .i64 nd, .int .i64 ow, .bool true] := by
            rw [← HEC.out]
            unfold evCells
            rw [List.flatMap_append]
            rfl
          rw [he]
          exact hr7
  · have hpe := run_eql_ptr_other (P := Tryz.prog) (a := ⟨g, nd * 6, none⟩) (b := ⟨g, st * 6, none⟩) w3 Tryz.underlying152 hji (by omega) (fun e => by injection e; omega) HS.out.c.blk HS.out.c.blk
    have cc := HS.out.c.at (nd * 6 + 1) (by rw [HLEN.out]; have := HX.out nd (by simp); omega)
    have ff := HS.out.c.blk.fz (nd * 6 + 1)
    obtain ⟨cx0, hcx0⟩ : ∃ cx, cn.getD (nd * 6 + 1) 0 = cx := ⟨_, rfl⟩
    rw [hcx0] at cc
    have n0_ := Aside0.mk (HS.out.bump (nd * 6 + 1))
    rw [hcx0] at n0_
    have HC0 := Aside0.mk hcx0
    clear hcx0
    go_upto_region 11 with fail
    obtain ⟨W0, hW⟩ : ∃ W', (w3.setCell ⟨g, nd * 6 + 1, none⟩ (.int .i64 (wrap64 (cx0 + 1)))) = W' := ⟨_, rfl⟩
    rw [hW] at n0_ ⊢
    clear HS cc ff hW
    have HS := n0_
    clear n0_
    obtain ⟨c0, hc0⟩ : ∃ c, bump cn (nd * 6 + 1) = c := ⟨_, rfl⟩
    rw [hc0] at HS
    have HL0 := Aside0.mk (show c0.length = nodes * 6 by rw [← hc0, bump_len]; exact HLEN.out)
    have HB0 := Aside0.mk hc0
    clear hc0
    have cc := HS.out.c.at (st * 6 + 2) (by rw [HL0.out]; have := HX.out st (by simp); omega)
    have ff := HS.out.c.blk.fz (st * 6 + 2)
    obtain ⟨cx1, hcx1⟩ : ∃ cx, c0.getD (st * 6 + 2) 0 = cx := ⟨_, rfl⟩
    rw [hcx1] at cc
    have n0_ := Aside0.mk (HS.out.bump (st * 6 + 2))
    rw [hcx1] at n0_
    have HC1 := Aside0.mk hcx1
    clear hcx1
    go_upto_region 12 with fail
    obtain ⟨W1, hW⟩ : ∃ W', (W0.setCell ⟨g, st * 6 + 2, none⟩ (.int .i64 (wrap64 (cx1 + 1)))) = W' := ⟨_, rfl⟩
    rw [hW] at n0_ ⊢
    clear HS cc ff hW
    have HS := n0_
    clear n0_
    obtain ⟨c1, hc1⟩ : ∃ c, bump c0 (st * 6 + 2) = c := ⟨_, rfl⟩
    rw [hc1] at HS
    have HL1 := Aside0.mk (show c1.length = nodes * 6 by rw [← hc1, bump_len]; exact HL0.out)
    have HB1 := Aside0.mk hc1
    clear hc1
    have e0 := HS.out.e.blk.at 0 (.int .i64 nd) rfl
    have e2 := HS.out.e.blk.at 2 (.int .i64 ow) rfl
    by_cases ho : nd = ow
    · skip
      subst ho
      go_upto_region 13 with fail
      clear e0 e2
      have cc := HS.out.c.at (nd * 6 + 3) (by rw [HL1.out]; have := HX.out nd (by simp); omega)
      have ff := HS.out.c.blk.fz (nd * 6 + 3)
      obtain ⟨cx2, hcx2⟩ : ∃ cx, c1.getD (nd * 6 + 3) 0 = cx := ⟨_, rfl⟩
      rw [hcx2] at cc
      have n0_ := Aside0.mk (HS.out.bump (nd * 6 + 3))
      rw [hcx2] at n0_
      have HC2 := Aside0.mk hcx2
      clear hcx2
      go_upto_region 15 with fail
      obtain ⟨W2, hW⟩ : ∃ W', (W1.setCell ⟨g, nd * 6 + 3, none⟩ (.int .i64 (wrap64 (cx2 + 1)))) = W' := ⟨_, rfl⟩
      rw [hW] at n0_ ⊢
      clear HS cc ff hW
      have HS := n0_
      clear n0_
      obtain ⟨c2, hc2⟩ : ∃ c, bump c1 (nd * 6 + 3) = c := ⟨_, rfl⟩
      rw [hc2] at HS
      have HL2 := Aside0.mk (show c2.length = nodes * 6 by rw [← hc2, bump_len]; exact HL1.out)
      have HB2 := Aside0.mk hc2
      clear hc2
      have q0 := HS.out.b.blk.at 0 v rfl
      have q1 := HS.out.e.blk.at 0 (.int .i64 nd) rfl
      have q2 := HS.out.e.blk.at 1 (.int .i64 st) rfl
      have q3 := HS.out.e.blk.at 2 (.int .i64 nd) rfl
      have q4 := HS.out.e.blk.at 3 (.bool il) rfl
      refine st_ 11 (fun w' => w'.cell? ⟨b, 0, none⟩ = some v ∧ w'.cell? ⟨w.heap.size, 0, none⟩ = some (.int .i64 nd) ∧ w'.cell? ⟨w.heap.size, 1, none⟩ = some (.int .i64 st) ∧ w'.cell? ⟨w.heap.size, 2, none⟩ = some (.int .i64 nd) ∧ w'.cell? ⟨w.heap.size, 3, none⟩ = some (.bool il)) [7, 10] ⟨q0, q1, q2, q3, q4⟩ (fun hHeld => ?_)
      have n0_ := Aside0.mk (HS.out.below (below_drew (RowKit.Below.refl _ _)))
      clear HS q0 q1 q2 q3 q4
      generalize W2.drew = wd at *
      have HS := n0_
      clear n0_
      refine pu_ 0 82 1 ?_
      refine pu_ 1 83 3 ?_
      refine pu_ 2 84 7 ?_
      refine pu_ 3 85 15 ?_
      refine ta_ 4 86 31 hHeld ?_
      refine ta_ 5 87 63 hHeld ?_
      refine one_ (i := 6) (N := some 88) (bz 11 127) rfl rfl (by kernel_rfl) (by decide) (fun K hK => ?_)
      refine va_ ?_
      refine hK.out _ _ ⟨(HS.out.b.blk.alloc _).at 0 v rfl, (HS.out.e.blk.alloc _).at 0 (.int .i64 nd) rfl, (HS.out.e.blk.alloc _).at 1 (.int .i64 st) rfl, (HS.out.e.blk.alloc _).at 2 (.int .i64 nd) rfl, (HS.out.e.blk.alloc _).at 3 (.bool il) rfl⟩ (fun hHeld => ?_)
      clear hK K
      refine no_ 88 ?_
      refine last_ (i := 7) (N := some 89) (bz 11 255) rfl rfl (by kernel_rfl) (by decide) (fun K hK => ?_)
      refine step_append_cells (w0 := wd) 0 rfl (.tmp 86) (.tmp 88) 82 99 (.agg #[.int .i64 0, .int .i64 0, .int .i64 0, .bool false]) 4 32 rfl Tryz.underlying82 info4 rfl (by decide) (by decide) v ev.length ec [.int .i64 nd, .int .i64 st, .int .i64 nd, .bool il] rfl rfl rfl (by intro u hu; simp at hu; rcases hu with rfl | rfl | rfl | rfl <;> rfl) HS.out.r.1 (RowKit.Below.refl _ _) (Nat.zero_le _) HEV.out ?_
      intro v7 w7 ho7 hb7 hg7 hat7
      have hG := RowG.grown HS.out.r ho7 hg7 hat7
      obtain ⟨A7, c7, rfl⟩ := hG.1.sl
      have HG := Aside0.mk hG
      have q7 := (HS.out.b.upd hG.2 (by omega)).blk.at 0 v rfl
      have f7 := (HS.out.b.upd hG.2 (by omega)).blk.fz 0
      clear ho7 hb7 hg7 hat7 hG
      refine hK.out _ _ ?_
      clear hK K
      refine no_ 89 ?_
      refine pu_ 8 90 511 ?_
      refine pu_ 9 91 1023 ?_
      refine last_ (i := 10) (N := none) (bz 11 2047) rfl rfl (by kernel_rfl) (by decide) (fun K hK => ?_)
      refine skip_ (w1 := ?_) (by rfl) rfl ?_ ?_
      rotate_left
      · go_simp
        rfl
      refine hK.out _ _ ?_
      clear hK K
      refine done_ (by kernel_rfl) ?_
      go_wp2_with fail
      go_ret
      have hb7 := HS.out.b.upd HG.out.2 (by omega)
      have hu7 := (Upd.refl (· = i) ((κ.ext w.heap.size (i + 999)).ext wd.heap.size (i + 2)) w7).set ⟨b, 0, none⟩ (fun _ => hb7.kol) (.slice A7 (ev.length + 1) c7)
      refine ⟨rfl, _, ⟨by rw [addC_len]; exact HLEN.out, .slice A7 (ev.length + 1) c7, g, hb7.set 0 _, ?_, ?_⟩, (HS.out.u.then HG.out.2 (fun c e => by omega)).set ⟨b, 0, none⟩ (fun hh => by show i ≤ κ b ∧ κ b < i + 3; rw [HKB.out]; omega) _⟩
      · have hc7 := (BlkK.upd HS.out.c HG.out.2 (by omega)).upd hu7 (by omega)
        have he : addC cn ⟨nd, st, nd, il⟩ = c2 := by simp [addC, hs, HB0.out, HC0.out, HB1.out, HC1.out, HB2.out, HC2.out]
        rw [he]
        exact hc7
      · have hr7 := HG.out.1.upd hu7 (by omega)
        rw [List.length_append, List.length_singleton]
        have he : evCells (ev ++ [⟨nd, st, nd, il⟩]) = ec ++ [.int .i64 nd, .int .i64 st, .int .i64 nd, .bool il] := by
          rw [← HEC.out]
          unfold evCells
          rw [List.flatMap_append]
          rfl
        rw [he]
        exact hr7
    · skip
      have hoI : ¬ ((nd : Int) = (ow : Int)) := by omega
      go_upto_region 14 with fail
      clear e0 e2
      have cc := HS.out.c.at (nd * 6 + 4) (by rw [HL1.out]; have := HX.out nd (by simp); omega)
      have ff := HS.out.c.blk.fz (nd * 6 + 4)
      obtain ⟨cx2, hcx2⟩ : ∃ cx, c1.getD (nd * 6 + 4) 0 = cx := ⟨_, rfl⟩
      rw [hcx2] at cc
      have n0_ := Aside0.mk (HS.out.bump (nd * 6 + 4))
      rw [hcx2] at n0_
      have HC2 := Aside0.mk hcx2
      clear hcx2
      go_upto_region 15 with fail
      obtain ⟨W2, hW⟩ : ∃ W', (W1.setCell ⟨g, nd * 6 + 4, none⟩ (.int .i64 (wrap64 (cx2 + 1)))) = W' := ⟨_, rfl⟩
      rw [hW] at n0_ ⊢
      clear HS cc ff hW
      have HS := n0_
      clear n0_
      obtain ⟨c2, hc2⟩ : ∃ c, bump c1 (nd * 6 + 4) = c := ⟨_, rfl⟩
      rw [hc2] at HS
      have HL2 := Aside0.mk (show c2.length = nodes * 6 by rw [← hc2, bump_len]; exact HL1.out)
      have HB2 := Aside0.mk hc2
      clear hc2
      have q0 := HS.out.b.blk.at 0 v rfl
      have q1 := HS.out.e.blk.at 0 (.int .i64 nd) rfl
      have q2 := HS.out.e.blk.at 1 (.int .i64 st) rfl
      have q3 := HS.out.e.blk.at 2 (.int .i64 ow) rfl
      have q4 := HS.out.e.blk.at 3 (.bool il) rfl
      refine st_ 11 (fun w' => w'.cell? ⟨b, 0, none⟩ = some v ∧ w'.cell? ⟨w.heap.size, 0, none⟩ = some (.int .i64 nd) ∧ w'.cell? ⟨w.heap.size, 1, none⟩ = some (.int .i64 st) ∧ w'.cell? ⟨w.heap.size, 2, none⟩ = some (.int .i64 ow) ∧ w'.cell? ⟨w.heap.size, 3, none⟩ = some (.bool il)) [7, 10] ⟨q0, q1, q2, q3, q4⟩ (fun hHeld => ?_)
      have n0_ := Aside0.mk (HS.out.below (below_drew (RowKit.Below.refl _ _)))
      clear HS q0 q1 q2 q3 q4
      generalize W2.drew = wd at *
      have HS := n0_
      clear n0_
      refine pu_ 0 82 1 ?_
      refine pu_ 1 83 3 ?_
      refine pu_ 2 84 7 ?_
      refine pu_ 3 85 15 ?_
      refine ta_ 4 86 31 hHeld ?_
      refine ta_ 5 87 63 hHeld ?_
      refine one_ (i := 6) (N := some 88) (bz 11 127) rfl rfl (by kernel_rfl) (by decide) (fun K hK => ?_)
      refine va_ ?_
      refine hK.out _ _ ⟨(HS.out.b.blk.alloc _).at 0 v rfl, (HS.out.e.blk.alloc _).at 0 (.int .i64 nd) rfl, (HS.out.e.blk.alloc _).at 1 (.int .i64 st) rfl, (HS.out.e.blk.alloc _).at 2 (.int .i64 ow) rfl, (HS.out.e.blk.alloc _).at 3 (.bool il) rfl⟩ (fun hHeld => ?_)
      clear hK K
      refine no_ 88 ?_
      refine last_ (i := 7) (N := some 89) (bz 11 255) rfl rfl (by kernel_rfl) (by decide) (fun K hK => ?_)
      refine step_append_cells (w0 := wd) 0 rfl (.tmp 86) (.tmp 88) 82 99 (.agg #[.int .i64 0, .int .i64 0, .int .i64 0, .bool false]) 4 32 rfl Tryz.underlying82 info4 rfl (by decide) (by decide) v ev.length ec [.int .i64 nd, .int .i64 st, .int .i64 ow, .bool il] rfl rfl rfl (by intro u hu; simp at hu; rcases hu with rfl | rfl | rfl | rfl <;> rfl) HS.out.r.1 (RowKit.Below.refl _ _) (Nat.zero_le _) HEV.out ?_
      intro v7 w7 ho7 hb7 hg7 hat7
      have hG := RowG.grown HS.out.r ho7 hg7 hat7
      obtain ⟨A7, c7, rfl⟩ := hG.1.sl
      have HG := Aside0.mk hG
      have q7 := (HS.out.b.upd hG.2 (by omega)).blk.at 0 v rfl
      have f7 := (HS.out.b.upd hG.2 (by omega)).blk.fz 0
      clear ho7 hb7 hg7 hat7 hG
      refine hK.out _ _ ?_
      clear hK K
      refine no_ 89 ?_
      refine pu_ 8 90 511 ?_
      refine pu_ 9 91 1023 ?_
      refine last_ (i := 10) (N := none) (bz 11 2047) rfl rfl (by kernel_rfl) (by decide) (fun K hK => ?_)
      refine skip_ (w1 := ?_) (by rfl) rfl ?_ ?_
      rotate_left
      · go_simp
        rfl
      refine hK.out _ _ ?_
      clear hK K
      refine done_ (by kernel_rfl) ?_
      go_wp2_with fail
      go_ret
      have hb7 := HS.out.b.upd HG.out.2 (by omega)
      have hu7 := (Upd.refl (· = i) ((κ.ext w.heap.size (i + 999)).ext wd.heap.size (i + 2)) w7).set ⟨b, 0, none⟩ (fun _ => hb7.kol) (.slice A7 (ev.length + 1) c7)
      refine ⟨rfl, _, ⟨by rw [addC_len]; exact HLEN.out, .slice A7 (ev.length + 1) c7, g, hb7.set 0 _, ?_, ?_⟩, (HS.out.u.then HG.out.2 (fun c e => by omega)).set ⟨b, 0, none⟩ (fun hh => by show i ≤ κ b ∧ κ b < i + 3; rw [HKB.out]; omega) _⟩
      · have hc7 := (BlkK.upd HS.out.c HG.out.2 (by omega)).upd hu7 (by omega)
        have he : addC cn ⟨nd, st, ow, il⟩ = c2 := by simp [addC, hs, ho, HB0.out, HC0.out, HB1.out, HC1.out, HB2.out, HC2.out]
        rw [he]
        exact hc7
      · have hr7 := HG.out.1.upd hu7 (by omega)
        rw [List.length_append, List.length_singleton]
        have he : evCells (ev ++ [⟨nd, st, ow, il⟩]) = ec ++ [.int .i64 nd, .int .i64 st, .int .i64 ow, .bool il] := by
          rw [← HEC.out]
          unfold evCells
          rw [List.flatMap_append]
          rfl
        rw [he]
        exact hr7
end Go.Proofs.YtenkdmloolbdaaaGreatDoor.T
end
