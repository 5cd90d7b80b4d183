/- Laws of no program: copy at k cells an element; lists of cells that are moved. slices.Insert of one run (two cells): at the end; in the midst with room; in the midst without. slices.Delete of one run (two cells). -/
import Derived.Laws.CopyRow
import Derived.Laws.AppendOwn
import Derived.Lib.Overlaps
import Derived.Lib.AppendZerosOnto
import Derived.Laws.NewBlocks
import Derived.Laws.Externs
import Derived.Test.YtenkdmloolbdaaaGreatDoorB03
import Derived.Test.YtenkdmloolbdaaaGreatDoorProg
import Derived.Test.YtenkdmloolbdaaaGreatDoorB05
import Derived.Shelf.RegionOpenPlain
import Derived.WalkKit
import Derived.Lib.Walk
section
namespace Go.Proofs.YtenkdmloolbdaaaGreatDoor.TS
open Go.RowKit
set_option linter.unusedVariables false
set_option linter.unusedSimpArgs false
section
variable {P : Program}
/-- copy into a row of the call's own: all is read ahead of the writing. -/
theorem run_copy_rowK (k : Nat) (w : World) (dT sT ty elem : TypeId) (g o dLen dCap : Nat) (a : Addr) (sLen sCap : Nat) (cur : Array Value) (t : TypeId) (cs : List Value)
    (hu : P.underlying dT = some (.slice elem)) (hs : (P.info? elem).map (·.size) = some k)
    (hg : w.heap[g]? = some (.cells cur t (0, 0))) (hn : cs.length = Nat.min sLen dLen * k)
    (hsrc : ∀ j v, cs[j]? = some v → w.cell? (a.add j) = some v) (hfit : o + cs.length ≤ cur.size) (h1 : ∀ v ∈ cs, v.oneCell' = true) :
    (Builtin.copy_ #[dT, sT] ty #[.slice (some ⟨g, o, none⟩) dLen dCap, .slice (some a) sLen sCap]).run P w =
      .ok (goInt (Nat.min sLen dLen)) (w.setRow g (cur.toList.take o ++ cs ++ cur.toList.drop (o + cs.length)).toArray) := by
  have hl := run_loadCells_list (P := P) w a cs hsrc
  have hst := run_storeCells_at P g o t cs 0 cur w hg (by simpa using hfit) h1
  cases hq : P.info? elem with
  | none => simp [hq] at hs
  | some i =>
    have hi : i.size = k := by simpa [hq] using hs
    simp [Builtin.copy_, run_underlying hu, Builtin.lenOf, Builtin.firstCells, sizeOf, typeInfo, hq, hi, ← hn, hl, hst]
/-- The operation 'copy' where its run is known by an equation. -/
theorem wp_copy_eq (w : World) {o : Oper} {a : Act} {K : Act → World → Prop} {Q : Exit → Act → World → Prop} (d s : Operand) (t t' : TypeId)
    (ho : o.op = .call { callee := .builtin .copy, args := #[d, s], argTypes := #[t, t'] }) (v u : Value) (hd : a.eval d = v) (hs : a.eval s = u) {v' : Value} {w' : World}
    (hr : (Builtin.copy_ #[t, t'] o.type #[v, u]).run P w = .ok v' w') (h : K (a.put o.dst v') w') : o.wp P a w K Q := by
  unfold Oper.wp execOp
  simp only [ho, resolve, invoke, builtin, Sem.run_bind, Sem.run_pure, Result.andThen_ok, List.map_toArray, List.map_cons, List.map_nil, hd, hs, hr]
  exact h
theorem step_copy_eq {ops : Array Oper} {o : Oper} {a : Act} {w : World} {K : Act → World → Prop} {Q : Exit → Act → World → Prop} {E : Prop}
    (hg : o.guard = none) (d x : Operand) (dT sT : TypeId) (hop : o.op = Op.call { callee := Callee.builtin Builtin.copy, args := #[d, x], argTypes := #[dT, sT] })
    (v u : Value) (hd : a.eval d = v) (hx : a.eval x = u) {v' : Value} {w' : World} (hr : (Builtin.copy_ #[dT, sT] o.type #[v, u]).run P w = .ok v' w') (hK : K (a.put o.dst v') w') :
    if Region.wanted o (yielded ops a.tmps) = true then Oper.wp P o a w K Q else E := by
  have hw : Region.wanted o (yielded ops a.tmps) = true := by simp [Region.wanted, hg]
  rw [if_pos hw]
  exact wp_copy_eq w d x dT sT hop v u hd hx hr hK
end
/-- One element moved into a row: what stood from i on goes one place up, then the new one is laid. -/
theorem list_shift (cur xs : List Value) (n i k : Nat) (y : List Value) (hy : y.length = k) (hxs : cur.take (n * k) = xs) (hi : i ≤ n) (hfit : (n + 1) * k ≤ cur.length) (cur1 cur2 : List Value)
    (h1 : cur1 = cur.take ((i + 1) * k) ++ xs.drop (i * k) ++ cur.drop ((i + 1) * k + (xs.drop (i * k)).length)) (h2 : cur2 = cur1.take (i * k) ++ y ++ cur1.drop (i * k + y.length)) :
    cur1.length = cur.length ∧ cur2.length = cur.length ∧ cur2.take ((n + 1) * k) = xs.take (i * k) ++ y ++ xs.drop (i * k) := by
  obtain ⟨N, hN⟩ : ∃ N, n * k = N := ⟨_, rfl⟩
  obtain ⟨I, hI⟩ : ∃ I, i * k = I := ⟨_, rfl⟩
  have hIN : I ≤ N := by rw [← hN, ← hI]; exact Nat.mul_le_mul_right _ hi
  have e1 : (i + 1) * k = I + k := by rw [Nat.add_mul, hI, Nat.one_mul]
  have e2 : (n + 1) * k = N + k := by rw [Nat.add_mul, hN, Nat.one_mul]
  rw [e1, hI] at h1
  rw [hI] at h2
  rw [e2] at hfit ⊢
  rw [hI]
  rw [hN] at hxs
  have hxl : xs.length = N := by rw [← hxs, List.length_take]; omega
  have hdl : (xs.drop I).length = N - I := by rw [List.length_drop, hxl]
  have l1 : cur1.length = cur.length := by
    rw [h1]; simp only [List.length_append, List.length_take, List.length_drop]; omega
  have l2 : cur2.length = cur.length := by
    rw [h2]; simp only [List.length_append, List.length_take, List.length_drop, l1, hy]; omega
  refine ⟨l1, l2, ?_⟩
  have hc1 : cur1.take I = xs.take I := by
    rw [h1, List.append_assoc, List.take_append_of_le_length (by rw [List.length_take]; omega), List.take_take, ← hxs, List.take_take]
    congr 1; omega
  have hd1 : cur1.drop (I + y.length) = xs.drop I ++ cur.drop (I + k + (xs.drop I).length) := by
    have hq : (cur.take (I + k)).length = I + y.length := by rw [List.length_take, hy]; omega
    rw [h1, List.append_assoc, ← hq, List.drop_left]
  rw [h2, hc1, hd1]
  have hl : (xs.take I ++ y ++ xs.drop I).length = N + k := by
    rw [List.length_append, List.length_append, List.length_take, hdl, hxl, hy]; omega
  rw [← List.append_assoc, ← hl, List.take_left]
/-- One element taken out of a row: what stood behind it goes one place down. -/
theorem list_unshift (cur xs : List Value) (n i k : Nat) (hxs : cur.take (n * k) = xs) (hi : i < n) (hfit : n * k ≤ cur.length) (cur1 : List Value)
    (h1 : cur1 = cur.take (i * k) ++ xs.drop ((i + 1) * k) ++ cur.drop (i * k + (xs.drop ((i + 1) * k)).length)) :
    cur1.length = cur.length ∧ cur1.take ((n - 1) * k) = xs.take (i * k) ++ xs.drop ((i + 1) * k) := by
  obtain ⟨I, hI⟩ : ∃ I, i * k = I := ⟨_, rfl⟩
  obtain ⟨M, hM⟩ : ∃ M, (n - 1) * k = M := ⟨_, rfl⟩
  have e1 : (i + 1) * k = I + k := by rw [Nat.add_mul, hI, Nat.one_mul]
  have e2 : n * k = M + k := by
    have : n = (n - 1) + 1 := by omega
    rw [this, Nat.add_mul, hM, Nat.one_mul]
  have hIM : I ≤ M := by rw [← hM, ← hI]; exact Nat.mul_le_mul_right _ (by omega)
  rw [e2] at hxs hfit
  rw [e1, hI] at h1
  rw [e1, hI, hM]
  have hxl : xs.length = M + k := by rw [← hxs, List.length_take]; omega
  have hdl : (xs.drop (I + k)).length = M - I := by rw [List.length_drop, hxl]; omega
  have hti : cur.take I = xs.take I := by rw [← hxs, List.take_take]; congr 1; omega
  refine ⟨by rw [h1]; simp only [List.length_append, List.length_take, List.length_drop]; omega, ?_⟩
  rw [h1, hti]
  have hl : (xs.take I ++ xs.drop (I + k)).length = M := by rw [List.length_append, List.length_take, hdl, hxl]; omega
  rw [← hl, List.take_left]
end Go.Proofs.YtenkdmloolbdaaaGreatDoor.TS
end
section
namespace Go.Proofs.YtenkdmloolbdaaaGreatDoor.TS
open Go.RowKit Go.Proofs.YtenkdmloolbdaaaGreatDoorW.PrintWords Go.Proofs.YtenkdmloolbdaaaGreatDoorW.PrintLast Go.Proofs.YtenkdmloolbdaaaGreatDoorW.PrintMore
set_option linter.unusedVariables false
set_option linter.unusedSimpArgs false
theorem info_run : (Tryz.prog.info? 246).map (fun i => (i.zero, i.size, i.bytes)) = some (some (.agg #[.int .i64 0, .int .i64 0]), 2, 16) := by kernel_rfl
theorem size_run : (Tryz.prog.info? 246).map (·.size) = some 2 := by kernel_rfl
/-- A world's row that was put anew, and what is beside it. -/
theorem grown_setRow {w w' : World} {g : Nat} {row : Option Nat} (h : w.grownBy w' row) (hr : row = some g ∨ w.heap.size ≤ g) (cs : Array Value) : w.grownBy (w'.setRow g cs) row := by
  refine ⟨h.os, h.tape, h.output, by simpa using h.size, fun k hk hne => ?_⟩
  rw [setRow_other w' g k cs (fun e => ?_)]
  · exact h.block k hk hne
  · subst e
    rcases hr with hr | hr
    · exact hne hr.symm
    · omega
theorem grown_drew (w : World) (row : Option Nat) : w.grownBy w.drew row := ⟨rfl, rfl, rfl, Nat.le_refl _, fun _ _ _ => rfl⟩
def Row0 (A : Option Addr) : Option Nat := A.map (·.block)
theorem own_slice (A : Option Addr) (n c : Nat) : (Value.slice A n c).ownBlock = Row0 A := by cases A <;> rfl
def Ins (w : World) (base : Nat) (A : Option Addr) (n : Nat) (zs : List Value) (e : Ending) (w' : World) : Prop :=
  ∃ v', e = .returned v' ∧ w'.ownsRow base 246 2 v' n zs ∧ w.grownBy w' (Row0 A) ∧ (v'.ownBlock = Row0 A ∨ ∃ b, v'.ownBlock = some b ∧ w.heap.size ≤ b)
set_option maxHeartbeats 4000000 in
set_option maxRecDepth 100000 in
theorem ins_end (A0 : Option Addr) (c0 n : Nat) (base : Nat) (xs : List Value) (vb : Nat) (y0 y1 : Value) (w : World) (hown : w.ownsRow base 246 2 (.slice A0 n c0) n xs) (hbase : base ≤ w.heap.size)
    (hy : w.heap[vb]? = some (.cells #[y0, y1] 246 (0, 0))) (h0 : y0.oneCell' = true) (h1 : y1.oneCell' = true) (hbig : (n + 1) * 16 ≤ 140737488355328) :
    Calls Tryz.prog 172 #[.slice A0 n c0, .int .i64 n, .slice (some ⟨vb, 0, none⟩) 1 1] w fun e w' => Ins w base A0 (n + 1) (xs ++ [y0, y1]) e w' := by
  obtain ⟨i0, hi0, hz0, hzs, hzb⟩ := info_parts info_run
  have hnews : ∀ j u, [y0, y1][j]? = some u → w.cell? ((⟨vb, 0, none⟩ : Addr).add j) = some u := by
    intro j u hj
    rw [Addr.add_lit]
    rcases j with _ | _ | j
    · simp at hj; subst hj; simp [World.cell?, hy]
    · simp at hj; subst hj; simp [World.cell?, hy]
    · simp at hj
  have hone : ∀ u ∈ [y0, y1], u.oneCell' = true := by simp [h0, h1]
  have HO := Aside0.mk hown
  have HNE := Aside0.mk hnews
  have HON := Aside0.mk hone
  have hnc : n ≤ c0 := by
    rcases hown.2 with ⟨h, hn⟩ | ⟨g, cap, cur, h, _, _, hnc, _⟩
    · omega
    · injection h with _ _ hc; omega
  clear hown hnews hone
  go_enter Tryz.func172, Tryz.ntmps172
  go_wp2_with (at_builtin; refine wpList_append_own_at (w := w) rfl (.tmp 23) (.tmp 24) 211 rfl base 246 i0 _ 2 16 Tryz.underlying211 hi0 hz0 hzs hzb rfl (by decide) _ n xs rfl HO.out ⟨vb, 0, none⟩ 1 1 [y0, y1] rfl rfl HNE.out HON.out (by unfold maxLen; omega) hbig hbase ?_; intro v' w1 ho hgr hnil hat; have HO1 := Aside0.mk ho; have HG1 := Aside0.mk hgr; have HA1 := Aside0.mk hat; clear ho hgr hnil hat)
  all_goals (go_ret; refine ⟨_, rfl, HO1.out, ?_, ?_⟩)
  all_goals (first | (have h := HG1.out; change w.grownBy w1 (Value.slice A0 n _).ownBlock at h; rw [own_slice] at h; exact h) | exact (HA1.out).imp (fun h => Eq.trans h (own_slice A0 n _)) (fun h => ⟨_, h, Nat.le_refl _⟩))
set_option maxHeartbeats 4000000 in
set_option maxRecDepth 100000 in
theorem ins_shift (g cap n i : Nat) (base : Nat) (cur : Array Value) (xs : List Value) (vb : Nat) (y0 y1 : Value) (w : World) (hb : base ≤ g) (hg : w.heap[g]? = some (.cells cur 246 (0, 0))) (hcm : cap ≤ maxLen) (hcs : cur.size = cap * 2) (hx : cur.toList.take (n * 2) = xs) (h1x : ∀ u ∈ xs, u.oneCell' = true)
    (hi : i < n) (hroom : n + 1 ≤ cap) (hvb : vb ≠ g)
    (hy : w.heap[vb]? = some (.cells #[y0, y1] 246 (0, 0))) (h0 : y0.oneCell' = true) (h1 : y1.oneCell' = true) :
    Calls Tryz.prog 172 #[.slice (some ⟨g, 0, none⟩) n cap, .int .i64 i, .slice (some ⟨vb, 0, none⟩) 1 1] w fun e w' => Ins w base (some ⟨g, 0, none⟩) (n + 1) (xs.take (i * 2) ++ [y0, y1] ++ xs.drop (i * 2)) e w' := by
  have hov : ∀ lb cb, (callFunc 210 #[.slice (some ⟨vb, 0, none⟩) 1 1, .slice (some ⟨g, (i + 1) * 2, none⟩) lb cb]).run Tryz.prog w = .ok (.value (.bool false)) w := fun lb cb => by
    rw [run_callFunc_extern Tryz.func210 (by kernel_rfl) (by kernel_rfl) (by kernel_rfl) (e := Extern.SlicesOverlaps.overlaps #[211, 211] #[4]) (by kernel_rfl),
      Lib.run_overlaps_apart w 211 4 246 Tryz.underlying211 2 Tryz.sizeOf246 ⟨vb, 0, none⟩ ⟨g, (i + 1) * 2, none⟩ 1 1 lb cb hvb 246 246 2 cur.size (by simp [World.shape?, hy]) (by simp [World.shape?, hg]) (by omega) (by simp [World.frozen?, hy]) (by simp [World.frozen?, hy])]
    rfl
  have hxl : xs.length = n * 2 := by rw [← hx, List.length_take, Array.length_toList]; omega
  have hdl : (xs.drop (i * 2)).length = (n - i) * 2 := by rw [List.length_drop, hxl]; omega
  obtain ⟨cur1, hc1⟩ : ∃ c, c = cur.toList.take ((i + 1) * 2) ++ xs.drop (i * 2) ++ cur.toList.drop ((i + 1) * 2 + (xs.drop (i * 2)).length) := ⟨_, rfl⟩
  obtain ⟨cur2, hc2⟩ : ∃ c, c = cur1.take (i * 2) ++ [y0, y1] ++ cur1.drop (i * 2 + [y0, y1].length) := ⟨_, rfl⟩
  obtain ⟨l1, l2, l3⟩ := list_shift cur.toList xs n i 2 [y0, y1] rfl hx (by omega) (by rw [Array.length_toList]; omega) cur1 cur2 hc1 hc2
  have hc63 : cap ≤ 9223372036854775807 := by unfold maxLen at hcm; omega
  have hz2 : ¬ ((i : Int) = (n : Int)) := by omega
  have hi0 : (0 : Int) ≤ (i : Int) + 1 := by omega
  have hi0b : (0 : Int) ≤ (i : Int) := by omega
  have hi1 : (i : Int) ≤ (n : Int) + 1 := by omega
  have hi2 : (i : Int) ≤ (n : Int) := by omega
  have hin : i ≤ n := by omega
  have hb2 : ¬ (cap = i + 1) := by omega
  have hb4 : ¬ (cap = i) := by omega
  have hic : i ≤ cap := by omega
  have hcapb : ¬ ((cap : Int) < (n : Int) + 1) := by omega
  have hcp1 : ∀ ty dc sc, (Builtin.copy_ #[211, 211] ty #[.slice (some ⟨g, (i + 1) * 2, none⟩) (n - i) dc, .slice (some ⟨g, i * 2, none⟩) (n + 1 - i) sc]).run Tryz.prog w.drew = .ok (goInt (Nat.min (n + 1 - i) (n - i))) (w.drew.setRow g cur1.toArray) := fun ty dc sc => by
    rw [hc1]
    refine run_copy_rowK 2 w.drew _ _ ty 246 g ((i + 1) * 2) (n - i) dc ⟨g, i * 2, none⟩ (n + 1 - i) sc cur 246 (xs.drop (i * 2)) Tryz.underlying211 size_run hg ?_ ?_ ?_ ?_
    · rw [hdl]; simp only [Nat.min_def]; split <;> omega
    · intro j u hj
      rw [Addr.add_lit]
      rw [List.getElem?_drop, ← hx, List.getElem?_take] at hj
      split at hj
      · rw [Array.getElem?_toList] at hj
        show w.cell? _ = _
        simp only [World.cell?, hg]; exact hj
      · cases hj
    · rw [hdl, hcs]; omega
    · exact fun u hu => h1x u (List.mem_of_mem_drop hu)
  obtain ⟨W1, hW1⟩ : ∃ W1, W1 = w.drew.setRow g cur1.toArray := ⟨_, rfl⟩
  have hg1 : W1.heap[g]? = some (.cells cur1.toArray 246 (0, 0)) := by rw [hW1]; exact setRow_heap w.drew g cur _ _ _ hg
  have hy1 : W1.heap[vb]? = some (.cells #[y0, y1] 246 (0, 0)) := by rw [hW1, setRow_other _ g vb _ hvb]; exact hy
  have hcp2 : ∀ (W : World), W.heap = W1.heap → ∀ ty dc, (Builtin.copy_ #[211, 211] ty #[.slice (some ⟨g, i * 2, none⟩) (n + 1 - i) dc, .slice (some ⟨vb, 0, none⟩) 1 1]).run Tryz.prog W = .ok (goInt (Nat.min 1 (n + 1 - i))) (W.setRow g cur2.toArray) := fun W hWh ty dc => by
    have := run_copy_rowK (P := Tryz.prog) 2 W 211 211 ty 246 g (i * 2) (n + 1 - i) dc ⟨vb, 0, none⟩ 1 1 cur1.toArray 246 [y0, y1] Tryz.underlying211 size_run (by rw [hWh]; exact hg1) (by simp only [Nat.min_def, List.length_cons, List.length_nil]; split <;> omega)
      (by
        intro j u hj
        rw [Addr.add_lit]
        rcases j with _ | _ | j
        · simp at hj; subst hj; simp [World.cell?, hWh, hy1]
        · simp at hj; subst hj; simp [World.cell?, hWh, hy1]
        · simp at hj)
      (by simp only [List.size_toArray, List.length_cons, List.length_nil]; rw [l1, Array.length_toList]; omega) (by simp [h0, h1])
    rw [hc2]
    exact this
  rw [← hW1] at hcp1
  have hq1 := Aside0.mk (show wrap64 ((i : Int) + 1) = (i : Int) + 1 from IntWalk.wrap64_in _ ⟨by omega, by omega⟩)
  have hz3 : ((i : Int) == (n : Int)) = false := by simp; omega
  have hd1 : decide ((cap : Int) < (n : Int) + 1) = false := decide_eq_false (by omega)
  have hw2 : wrap64 ((n : Int) + 1) = (n : Int) + 1 := IntWalk.wrap64_in _ ⟨by omega, by omega⟩
  have HOV := Aside0.mk hov
  have HCP1 := Aside0.mk hcp1
  have HCP2 := Aside0.mk hcp2
  have HG1 := Aside0.mk hg1
  have HW1 := Aside0.mk hW1
  have HL2 := Aside0.mk l2
  have HL3 := Aside0.mk l3
  have HG := Aside0.mk hg
  have HCS := Aside0.mk hcs
  have HCM := Aside0.mk hcm
  clear hov hcp1 hcp2 hg1 hy1 hW1 l1 l2 l3 hc1 hc2 hx hg hcs hcm h1x hxl hdl hy h0 h1
  go_enter Tryz.func172, Tryz.ntmps172
  go_upto_region 14 with (fail)
  clear hw2
  have hw1 := hq1.out
  have hov := HOV.out
  go_wp2_with fail
  clear hov
  have hcp1 := HCP1.out
  refine st_ 9 (fun w' => True) [] trivial (fun hHeld => ?_)
  refine pu_ 0 69 1 ?_
  refine pu_ 1 70 3 ?_
  refine pu_ 2 71 7 ?_
  refine pu_ 3 72 15 ?_
  refine pu_ 4 73 31 ?_
  refine pu_ 5 74 63 ?_
  refine pu_ 6 75 127 ?_
  refine pu_ 7 76 255 ?_
  refine one_ (i := 8) (N := some 77) (bz 9 511) rfl rfl (by kernel_rfl) (by decide) (fun K hK => ?_)
  refine step_copy_eq rfl _ _ 211 211 rfl _ _ rfl rfl (hcp1 _ _ _) ?_
  refine hK.out _ _ trivial (fun hHeld => ?_)
  clear hK K
  refine no_ 77 ?_
  refine done_ (by kernel_rfl) ?_
  have hcp2 := HCP2.out W1 rfl
  go_wp2_with fail
  go_ret
  have hcs := HCS.out
  have hcm := HCM.out
  refine ⟨_, rfl, ⟨?_, .inr ⟨g, cap, cur2.toArray, rfl, hb, ?_, hroom, hcm, ?_, ?_⟩⟩, ?_, .inl rfl⟩
  · rw [← HL3.out, List.length_take, HL2.out, Array.length_toList]; omega
  · exact setRow_heap W1 g cur1.toArray _ _ _ HG1.out
  · rw [List.size_toArray, HL2.out, Array.length_toList, hcs]
  · exact HL3.out
  · refine grown_setRow ?_ (.inl rfl) _
    rw [HW1.out]
    exact grown_setRow (grown_drew w _) (.inl rfl) _
theorem list_grow (cur xs zs : List Value) (n i k : Nat) (y : List Value) (hy : y.length = k) (hxl : xs.length = n * k) (hi : i ≤ n) (cur0 cur1 cur2 : List Value) (h0 : cur0 = xs.take (i * k) ++ zs) (hz : (n + 1 - i) * k ≤ zs.length)
    (h1 : cur1 = cur0.take (i * k) ++ y ++ cur0.drop (i * k + y.length)) (h2 : cur2 = cur1.take ((i + 1) * k) ++ xs.drop (i * k) ++ cur1.drop ((i + 1) * k + (xs.drop (i * k)).length)) :
    cur1.length = cur0.length ∧ cur2.length = cur0.length ∧ cur2.take ((n + 1) * k) = xs.take (i * k) ++ y ++ xs.drop (i * k) := by
  obtain ⟨N, hN⟩ : ∃ N, n * k = N := ⟨_, rfl⟩
  obtain ⟨I, hI⟩ : ∃ I, i * k = I := ⟨_, rfl⟩
  have hIN : I ≤ N := by rw [← hN, ← hI]; exact Nat.mul_le_mul_right _ hi
  have e1 : (i + 1) * k = I + k := by rw [Nat.add_mul, hI, Nat.one_mul]
  have e2 : (n + 1) * k = N + k := by rw [Nat.add_mul, hN, Nat.one_mul]
  have e3 : (n + 1 - i) * k = N + k - I := by rw [Nat.sub_mul, e2, hI]
  rw [e3] at hz
  rw [hI] at h0 h1
  rw [e1, hI] at h2
  rw [e2, hI]
  rw [hN] at hxl
  have htl : (xs.take I).length = I := by rw [List.length_take]; omega
  have l0 : cur0.length = I + zs.length := by rw [h0, List.length_append, htl]
  have hc0 : cur0.take I = xs.take I := by rw [h0, List.take_append_of_le_length (by omega), List.take_take, Nat.min_self]
  have l1 : cur1.length = cur0.length := by
    rw [h1]; simp only [List.length_append, List.length_take, List.length_drop, hy]; omega
  have hdl : (xs.drop I).length = N - I := by rw [List.length_drop, hxl]
  have l2 : cur2.length = cur0.length := by
    rw [h2]; simp only [List.length_append, List.length_take, List.length_drop, l1]; omega
  refine ⟨l1, l2, ?_⟩
  have hc1 : cur1.take (I + k) = xs.take I ++ y := by
    have hq : (xs.take I ++ y).length = I + k := by rw [List.length_append, htl, hy]
    rw [h1, hc0, ← hq, List.take_left]
  rw [h2, hc1]
  have hl : (xs.take I ++ y ++ xs.drop I).length = N + k := by
    rw [List.length_append, List.length_append, htl, hdl, hy]; omega
  rw [← hl, List.take_left]
set_option maxHeartbeats 4000000 in
set_option maxRecDepth 100000 in
theorem ins_grow (g cap n i : Nat) (base : Nat) (cur : Array Value) (xs : List Value) (vb : Nat) (y0 y1 : Value) (w : World) (hb : base ≤ w.heap.size) (hg : w.heap[g]? = some (.cells cur 246 (0, 0))) (hcs : cur.size = cap * 2) (hx : cur.toList.take (n * 2) = xs) (h1x : ∀ u ∈ xs, u.oneCell' = true)
    (hi : i < n) (hnc : n ≤ cap) (hroom : cap < n + 1) (hbig : (n + 1) * 16 ≤ 140737488355328)
    (hy : w.heap[vb]? = some (.cells #[y0, y1] 246 (0, 0))) (h0 : y0.oneCell' = true) (h1 : y1.oneCell' = true) :
    Calls Tryz.prog 172 #[.slice (some ⟨g, 0, none⟩) n cap, .int .i64 i, .slice (some ⟨vb, 0, none⟩) 1 1] w fun e w' => Ins w base (some ⟨g, 0, none⟩) (n + 1) (xs.take (i * 2) ++ [y0, y1] ++ xs.drop (i * 2)) e w' := by
  obtain ⟨i0, hi0, hz0, hzs, hzb⟩ := info_parts info_run
  have hgl := (Array.getElem?_eq_some_iff.1 hg).1
  have hvl := (Array.getElem?_eq_some_iff.1 hy).1
  have hxl : xs.length = n * 2 := by rw [← hx, List.length_take, Array.length_toList]; omega
  have hdl : (xs.drop (i * 2)).length = (n - i) * 2 := by rw [List.length_drop, hxl]; omega
  have hold : (Builtin.firstCells i0.size i (.slice (some ⟨g, 0, none⟩) i cap)).run Tryz.prog w.drew = .ok (xs.take (i * 2)).toArray w.drew := by
    rw [hzs]
    exact run_firstCells_some w.drew 2 i ⟨g, 0, none⟩ i cap (xs.take (i * 2)) (by rw [List.length_take]; omega) (fun j v hj => by
      rw [Addr.add_lit]
      rw [List.getElem?_take] at hj
      split at hj
      · rw [← hx, List.getElem?_take] at hj
        split at hj
        · rw [Array.getElem?_toList] at hj
          show w.cell? _ = _
          simp only [World.cell?, hg, Nat.zero_add]; exact hj
        · cases hj
      · cases hj)
  obtain ⟨G, hG⟩ : ∃ G, G = grownCap w (n + 1) cap 246 := ⟨_, rfl⟩
  have hik : i + (n + 1 - i) = n + 1 := by omega
  have hkk : (n : Int) + 1 - (i : Int) = ((n + 1 - i : Nat) : Int) := by omega
  obtain ⟨zs, hzz⟩ : ∃ zs : Array Value, zs = Builtin.zeroCells (Value.agg #[.int .i64 0, .int .i64 0]).cells (n + 1 - i) ++ Builtin.zeroCells (Value.agg #[.int .i64 0, .int .i64 0]).cells (G - (n + 1)) := ⟨_, rfl⟩
  have hGn : n + 1 ≤ G := by rw [hG]; exact grownCap_ge w _ _ _
  have hzl : zs.size = (n + 1 - i) * 2 + (G - (n + 1)) * 2 := by rw [hzz, Array.size_append, size_zeroCells, size_zeroCells]; rfl
  obtain ⟨cur0, hc0⟩ : ∃ c, c = xs.take (i * 2) ++ zs.toList := ⟨_, rfl⟩
  have hrz : ∀ ty, (Builtin.append_ #[211, 3] ty #[.slice (some ⟨g, 0, none⟩) i cap, .int .i64 ((n : Int) + 1 - (i : Int))]).run Tryz.prog w =
      .ok (.slice (some ⟨w.heap.size, 0, none⟩) (n + 1) G) (w.drew.alloc (.cells cur0.toArray 246)) := fun ty => by
    have h := Lib.run_append_grow_zeros w 211 3 ty 246 i0 _ .i64 .i64 Tryz.underlying211 Tryz.underlying3 hi0 hz0 (some ⟨g, 0, none⟩) i cap (xs.take (i * 2)) hold (n + 1 - i) (by omega) (by omega) (by omega) (by omega) (by rw [hzb]; omega) (by rw [hzb, hik]; exact growslice_fits hroom hbig)
    rw [hik, ← hG] at h
    rw [hkk, h, hc0, hzz]
    congr 3
    apply Array.ext'
    simp
  obtain ⟨cur1, hc1⟩ : ∃ c, c = cur0.take (i * 2) ++ [y0, y1] ++ cur0.drop (i * 2 + [y0, y1].length) := ⟨_, rfl⟩
  obtain ⟨cur2, hc2⟩ : ∃ c, c = cur1.take ((i + 1) * 2) ++ xs.drop (i * 2) ++ cur1.drop ((i + 1) * 2 + (xs.drop (i * 2)).length) := ⟨_, rfl⟩
  obtain ⟨l1, l2, l3⟩ := list_grow cur.toList xs zs.toList n i 2 [y0, y1] rfl hxl (by omega) cur0 cur1 cur2 hc0 (by rw [Array.length_toList, hzl]; omega) hc1 hc2
  have l0 : cur0.length = G * 2 := by rw [hc0, List.length_append, List.length_take, hxl, Array.length_toList, hzl]; omega
  obtain ⟨W1, hW1⟩ : ∃ W1, W1 = w.drew.alloc (.cells cur0.toArray 246) := ⟨_, rfl⟩
  rw [← hW1] at hrz
  have hg1 : W1.heap[w.heap.size]? = some (.cells cur0.toArray 246 (0, 0)) := by rw [hW1]; exact heap_alloc_new w.drew _
  have hold1 : ∀ k, k < w.heap.size → W1.heap[k]? = w.heap[k]? := fun k hk => by rw [hW1]; exact heap_alloc_old w.drew _ hk
  have hcp1 : ∀ ty dc, (Builtin.copy_ #[211, 211] ty #[.slice (some ⟨w.heap.size, i * 2, none⟩) (n + 1 - i) dc, .slice (some ⟨vb, 0, none⟩) 1 1]).run Tryz.prog W1 = .ok (goInt (Nat.min 1 (n + 1 - i))) (W1.setRow w.heap.size cur1.toArray) := fun ty dc => by
    have := run_copy_rowK (P := Tryz.prog) 2 W1 211 211 ty 246 w.heap.size (i * 2) (n + 1 - i) dc ⟨vb, 0, none⟩ 1 1 cur0.toArray 246 [y0, y1] Tryz.underlying211 size_run hg1 (by simp only [Nat.min_def, List.length_cons, List.length_nil]; split <;> omega)
      (by
        have hyy := (hold1 vb hvl).trans hy
        intro j u hj
        rw [Addr.add_lit]
        rcases j with _ | _ | j
        · simp at hj; subst hj; simp [World.cell?, hyy]
        · simp at hj; subst hj; simp [World.cell?, hyy]
        · simp at hj)
      (by simp only [List.size_toArray, List.length_cons, List.length_nil]; omega) (by simp [h0, h1])
    rw [hc1]
    exact this
  obtain ⟨W2, hW2⟩ : ∃ W2, W2 = W1.setRow w.heap.size cur1.toArray := ⟨_, rfl⟩
  rw [← hW2] at hcp1
  have hg2 : W2.heap[w.heap.size]? = some (.cells cur1.toArray 246 (0, 0)) := by rw [hW2]; exact setRow_heap W1 _ cur0.toArray _ _ _ hg1
  have hold2 : ∀ k, k < w.heap.size → W2.heap[k]? = w.heap[k]? := fun k hk => by rw [hW2, setRow_other _ _ _ _ (by omega)]; exact hold1 k hk
  have hcp2 : ∀ ty dc sc, (Builtin.copy_ #[211, 211] ty #[.slice (some ⟨w.heap.size, (i + 1) * 2, none⟩) (n - i) dc, .slice (some ⟨g, i * 2, none⟩) (n - i) sc]).run Tryz.prog W2.drew = .ok (goInt (Nat.min (n - i) (n - i))) (W2.drew.setRow w.heap.size cur2.toArray) := fun ty dc sc => by
    rw [hc2]
    have := run_copy_rowK (P := Tryz.prog) 2 W2.drew 211 211 ty 246 w.heap.size ((i + 1) * 2) (n - i) dc ⟨g, i * 2, none⟩ (n - i) sc cur1.toArray 246 (xs.drop (i * 2)) Tryz.underlying211 size_run hg2 (by rw [hdl]; simp only [Nat.min_def]; split <;> omega)
      (by
        have hgg := (hold2 g hgl).trans hg
        intro j u hj
        rw [Addr.add_lit]
        rw [List.getElem?_drop, ← hx, List.getElem?_take] at hj
        split at hj
        · rw [Array.getElem?_toList] at hj
          show W2.cell? _ = _
          simp only [World.cell?, hgg]; exact hj
        · cases hj)
      (by rw [hdl, List.size_toArray, l1, l0]; omega) (fun u hu => h1x u (List.mem_of_mem_drop hu))
    exact this
  have hc63 : n + 1 ≤ 9223372036854775807 := by omega
  have hGm : G ≤ maxLen := by rw [hG]; exact grownCap_le_maxLen w (n + 1) cap 246 (by unfold maxLen; omega)
  have hGb : ¬ (G = i) := by omega
  have hGi : ¬ (G = i + 1) := by omega
  have hci : ¬ (cap = i) := by omega
  have hin : i ≤ n := by omega
  have hic : i ≤ cap := by omega
  have hz2 : ¬ ((i : Int) = (n : Int)) := by omega
  have hz3 : ((i : Int) == (n : Int)) = false := by simp; omega
  have hi0' : (0 : Int) ≤ (i : Int) + 1 := by omega
  have hi0b : (0 : Int) ≤ (i : Int) := by omega
  have hi1 : (i : Int) ≤ (n : Int) + 1 := by omega
  have hi2 : (i : Int) ≤ (n : Int) := by omega
  have hd1 : decide ((cap : Int) < (n : Int) + 1) = true := decide_eq_true (by omega)
  have hd1' : (cap : Int) < (n : Int) + 1 := by omega
  have hq1 := Aside0.mk (show wrap64 ((i : Int) + 1) = (i : Int) + 1 from IntWalk.wrap64_in _ ⟨by omega, by omega⟩)
  have hq3 := Aside0.mk (show wrap64 ((n : Int) + 1 - (i : Int)) = (n : Int) + 1 - (i : Int) from IntWalk.wrap64_in _ ⟨by omega, by omega⟩)
  have hw2 : wrap64 ((n : Int) + 1) = (n : Int) + 1 := IntWalk.wrap64_in _ ⟨by omega, by omega⟩
  have HRZ := Aside0.mk hrz
  have HCP1 := Aside0.mk hcp1
  have HCP2 := Aside0.mk hcp2
  have HG2 := Aside0.mk hg2
  have HW1 := Aside0.mk hW1
  have HW2 := Aside0.mk hW2
  have HL0 := Aside0.mk l0
  have HL2 := Aside0.mk l2
  have HL3 := Aside0.mk l3
  have HGN := Aside0.mk hGn
  have HGM := Aside0.mk hGm
  clear hrz hcp1 hcp2 hg1 hg2 hW1 hW2 l0 l1 l2 l3 hc0 hc1 hc2 hx hg hcs h1x hxl hdl hy h0 h1 hold hold1 hold2 hG hik hkk hzz hzl hi0 hz0 hzs hzb hgl hvl hGn hGm
  go_enter Tryz.func172, Tryz.ntmps172
  go_upto_region 9 with (fail)
  have hw3 := hq3.out
  go_wp2_with (at_builtin; refine Lib.wpList_append_run _ rfl _ _ _ _ rfl _ _ rfl rfl _ _ (HRZ.out _) ?_; clear hw2 hw3; have hcp1 := HCP1.out; have hw1 := hq1.out)
  clear hcp1
  have hcp2 := HCP2.out
  refine st_ 9 (fun w' => True) [] trivial (fun hHeld => ?_)
  refine pu_ 0 46 1 ?_
  refine pu_ 1 47 3 ?_
  refine pu_ 2 48 7 ?_
  refine pu_ 3 49 15 ?_
  refine pu_ 4 50 31 ?_
  refine pu_ 5 51 63 ?_
  refine pu_ 6 52 127 ?_
  refine pu_ 7 53 255 ?_
  refine one_ (i := 8) (N := some 54) (bz 9 511) rfl rfl (by kernel_rfl) (by decide) (fun K hK => ?_)
  refine step_copy_eq rfl _ _ 211 211 rfl _ _ rfl rfl (hcp2 _ _ _) ?_
  refine hK.out _ _ trivial (fun hHeld => ?_)
  clear hK K
  refine no_ 54 ?_
  refine done_ (by kernel_rfl) ?_
  go_wp2_with fail
  go_ret
  refine ⟨_, rfl, ⟨?_, .inr ⟨w.heap.size, G, cur2.toArray, rfl, hb, ?_, HGN.out, HGM.out, ?_, ?_⟩⟩, ?_, .inr ⟨_, rfl, Nat.le_refl _⟩⟩
  · rw [← HL3.out, List.length_take, HL2.out, HL0.out]; have := HGN.out; omega
  · exact setRow_heap W2.drew _ cur1.toArray _ _ _ HG2.out
  · rw [List.size_toArray, HL2.out, HL0.out]
  · exact HL3.out
  · refine grown_setRow (w' := W2.drew) ?_ (.inr (Nat.le_refl _)) _
    have h2 : w.grownBy W2 (Row0 (some ⟨g, 0, none⟩)) := by
      rw [HW2.out]
      refine grown_setRow ?_ (.inr (Nat.le_refl _)) _
      rw [HW1.out]
      have h3 := World.grownBy_alloc w.drew (.cells cur0.toArray 246) (Row0 (some ⟨g, 0, none⟩))
      exact ⟨h3.os, h3.tape, h3.output, h3.size, h3.block⟩
    exact ⟨h2.os, h2.tape, h2.output, h2.size, h2.block⟩
/-- slices.Insert of one run into a row of the call's own. -/
theorem insert_own (A0 : Option Addr) (c0 n i : Nat) (base : Nat) (xs : List Value) (vb : Nat) (y0 y1 : Value) (w : World) (hown : w.ownsRow base 246 2 (.slice A0 n c0) n xs) (hbase : base ≤ w.heap.size) (h1x : ∀ u ∈ xs, u.oneCell' = true) (hi : i ≤ n)
    (hvb : some vb ≠ Row0 A0) (hy : w.heap[vb]? = some (.cells #[y0, y1] 246 (0, 0))) (h0 : y0.oneCell' = true) (h1 : y1.oneCell' = true) (hbig : (n + 1) * 16 ≤ 140737488355328) :
    Calls Tryz.prog 172 #[.slice A0 n c0, .int .i64 i, .slice (some ⟨vb, 0, none⟩) 1 1] w fun e w' => Ins w base A0 (n + 1) (xs.take (i * 2) ++ [y0, y1] ++ xs.drop (i * 2)) e w' := by
  rcases Nat.lt_or_ge i n with hlt | hge
  · rcases hown.2 with ⟨h, hn⟩ | ⟨g, cap, cur, h, hb, hg, hnc, hcm, hcs, hx⟩
    · omega
    · injection h with ha _ hc
      subst ha; subst hc
      have hvb' : vb ≠ g := fun e => hvb (by rw [e]; rfl)
      rcases Nat.lt_or_ge c0 (n + 1) with hr | hr
      · exact ins_grow g c0 n i base cur xs vb y0 y1 w hbase hg hcs hx h1x hlt hnc hr hbig hy h0 h1
      · exact ins_shift g c0 n i base cur xs vb y0 y1 w hb hg hcm hcs hx h1x hlt hr hvb' hy h0 h1
  · obtain rfl : i = n := by omega
    have hxl : xs.length = i * 2 := hown.1
    have := ins_end A0 c0 i base xs vb y0 y1 w hown hbase hy h0 h1 hbig
    rw [List.take_of_length_le (by omega), List.drop_of_length_le (by omega), List.append_nil]
    exact this
end Go.Proofs.YtenkdmloolbdaaaGreatDoor.TS
end
section
namespace Go.Proofs.YtenkdmloolbdaaaGreatDoor.TS
open Go.RowKit Go.Proofs.YtenkdmloolbdaaaGreatDoorW.PrintWords Go.Proofs.YtenkdmloolbdaaaGreatDoorW.PrintLast Go.Proofs.YtenkdmloolbdaaaGreatDoorW.PrintMore
set_option linter.unusedVariables false
set_option linter.unusedSimpArgs false
section
variable {P : Program}
theorem step_append_eq {ops : Array Oper} {o : Oper} {a : Act} {w : World} {K : Act → World → Prop} {Q : Exit → Act → World → Prop} {E : Prop}
    (hg : o.guard = none) (d x : Operand) (dT sT : TypeId) (hop : o.op = Op.call { callee := Callee.builtin Builtin.append, args := #[d, x], argTypes := #[dT, sT] })
    (v u : Value) (hd : a.eval d = v) (hx : a.eval x = u) {v' : Value} {w' : World} (hr : (Builtin.append_ #[dT, sT] o.type #[v, u]).run P w = .ok v' w') (hK : K (a.put o.dst v') w') :
    if Region.wanted o (yielded ops a.tmps) = true then Oper.wp P o a w K Q else E := by
  have hw : Region.wanted o (yielded ops a.tmps) = true := by simp [Region.wanted, hg]
  rw [if_pos hw]
  exact Lib.wp_append_run w d x dT sT hop v u hd hx v' w' hr hK
/-- clear of a part of a row of the call's own. -/
theorem run_clear_row (w : World) (t e ty : TypeId) (z : Value) (zs : List Value) (ht : P.underlying t = some (.slice e)) (hv : ∀ w, (zeroValue e).run P w = .ok z w) (g o n c : Nat) (cur : Array Value) (te : TypeId) (hn : 0 < n)
    (hzs : (Builtin.zeroCells z.cells n).toList = zs) (h1 : ∀ u ∈ zs, u.oneCell' = true) (hg : w.heap[g]? = some (.cells cur te (0, 0))) (hfit : o + zs.length ≤ cur.size) :
    (Builtin.clear_ #[t] ty #[.slice (some ⟨g, o, none⟩) n c]).run P w = .ok (.tuple #[]) (w.setRow g (cur.toList.take o ++ zs ++ cur.toList.drop (o + zs.length)).toArray) := by
  have hst := run_storeCells_at P g o te zs 0 cur w hg (by simpa using hfit) h1
  simp only [Nat.add_zero] at hst
  obtain ⟨m, rfl⟩ : ∃ m, n = m + 1 := ⟨n - 1, by omega⟩
  simp [Builtin.clear_, run_underlying ht, hv, hzs, hst]
end
theorem zero2 : (Builtin.zeroCells (Value.agg #[Value.int .i64 0, Value.int .i64 0]).cells 1).toList = [Value.int .i64 0, Value.int .i64 0] := by
  apply List.ext_getElem
  · simp [Builtin.zeroCells, Value.cells]
  · intro i h1 h2
    rcases i with _ | _ | i
    · simp [Builtin.zeroCells, Value.cells]
    · simp [Builtin.zeroCells, Value.cells]
    · simp at h2; omega
def Del (w : World) (base : Nat) (A : Option Addr) (n : Nat) (zs : List Value) (e : Ending) (w' : World) : Prop :=
  ∃ c, e = .returned (.slice A n c) ∧ w'.ownsRow base 246 2 (.slice A n c) n zs ∧ w.grownBy w' (Row0 A)
set_option maxHeartbeats 4000000 in
set_option maxRecDepth 100000 in
theorem delete_own (A0 : Option Addr) (c0 n i j : Nat) (base : Nat) (xs : List Value) (w : World) (hown : w.ownsRow base 246 2 (.slice A0 n c0) n xs) (h1x : ∀ u ∈ xs, u.oneCell' = true) (hi : i < n) (hj : j = i + 1) :
    Calls Tryz.prog 166 #[.slice A0 n c0, .int .i64 i, .int .i64 j] w fun e w' => Del w base A0 (n - 1) (xs.take (i * 2) ++ xs.drop ((i + 1) * 2)) e w' := by
  rcases hown.2 with ⟨h, hn⟩ | ⟨g, cap, cur, h, hb, hg, hnc, hcm, hcs, hx⟩
  · omega
  injection h with ha _ hc
  subst ha; subst hc
  obtain ⟨i0, hi0, hz0, hzs, hzb⟩ := info_parts info_run
  have hxl : xs.length = n * 2 := hown.1
  have hdl : (xs.drop ((i + 1) * 2)).length = (n - j) * 2 := by rw [List.length_drop, hxl]; omega
  obtain ⟨cur1, hc1⟩ : ∃ c, c = cur.toList.take (i * 2) ++ xs.drop ((i + 1) * 2) ++ cur.toList.drop (i * 2 + (xs.drop ((i + 1) * 2)).length) := ⟨_, rfl⟩
  obtain ⟨l1, l2⟩ := list_unshift cur.toList xs n i 2 hx hi (by rw [Array.length_toList]; omega) cur1 hc1
  obtain ⟨A1, hA1, hsrc⟩ : ∃ A : Addr, (if c0 = j then some (⟨g, 0, none⟩ : Addr) else some ⟨g, j * 2, none⟩) = some A ∧ (∀ t u, (xs.drop ((i + 1) * 2))[t]? = some u → w.cell? (A.add t) = some u) := by
    by_cases h : c0 = j
    · refine ⟨⟨g, 0, none⟩, by simp [h], fun t u hu => ?_⟩
      have h0 : (xs.drop ((i + 1) * 2)).length = 0 := by rw [hdl]; omega
      rw [List.length_eq_zero_iff.1 h0] at hu
      simp at hu
    · refine ⟨⟨g, j * 2, none⟩, by simp [h], fun t u hu => ?_⟩
      rw [Addr.add_lit]
      rw [List.getElem?_drop, ← hx, List.getElem?_take] at hu
      split at hu
      · rw [Array.getElem?_toList] at hu
        simp only [World.cell?, hg, hj]; exact hu
      · cases hu
  have happ : ∀ ty cc, (Builtin.append_ #[211, 211] ty #[.slice (some ⟨g, 0, none⟩) i c0, .slice (some A1) (n - j) cc]).run Tryz.prog w.drew = .ok (.slice (some ⟨g, 0, none⟩) (i + (n - j)) c0) (w.drew.setRow g cur1.toArray) := fun ty cc => by
    have := run_append_room (P := Tryz.prog) w.drew 211 ty 246 i0 Tryz.underlying211 hi0 g i c0 cur hg A1 (n - j) cc (xs.drop ((i + 1) * 2)) (by rw [hdl, hzs]) hsrc (fun u hu => h1x u (List.mem_of_mem_drop hu)) (by omega) (by rw [hdl, hzs, hcs]; omega)
    rw [hzs] at this
    rw [hc1]; exact this
  obtain ⟨W1, hW1⟩ : ∃ W1, W1 = w.drew.setRow g cur1.toArray := ⟨_, rfl⟩
  rw [← hW1] at happ
  have hg1 : W1.heap[g]? = some (.cells cur1.toArray 246 (0, 0)) := by rw [hW1]; exact setRow_heap w.drew g cur _ _ _ hg
  have hnm : i + (n - j) = n - 1 := by omega
  obtain ⟨cur2, hc2⟩ : ∃ c, c = cur1.take ((n - 1) * 2) ++ [Value.int .i64 0, Value.int .i64 0] ++ cur1.drop ((n - 1) * 2 + [Value.int .i64 0, Value.int .i64 0].length) := ⟨_, rfl⟩
  have hcl : ∀ ty cc, (Builtin.clear_ #[211] ty #[.slice (some ⟨g, (i + (n - j)) * 2, none⟩) (n - (i + (n - j))) cc]).run Tryz.prog W1 = .ok (.tuple #[]) (W1.setRow g cur2.toArray) := fun ty cc => by
    rw [hnm, show n - (n - 1) = 1 by omega, hc2]
    exact run_clear_row W1 211 246 ty _ _ Tryz.underlying211 Tryz.zeroValue246 g ((n - 1) * 2) 1 cc cur1.toArray 246 (by decide) zero2 (by simp [Value.oneCell']) hg1 (by simp only [List.size_toArray, List.length_cons, List.length_nil]; rw [l1, Array.length_toList]; omega)
  have l3 : cur2.length = cur.size := by
    rw [hc2]; simp only [List.length_append, List.length_take, List.length_drop, List.length_cons, List.length_nil, l1, Array.length_toList]; omega
  have l4 : cur2.take ((n - 1) * 2) = xs.take (i * 2) ++ xs.drop ((i + 1) * 2) := by
    rw [← l2, hc2, List.append_assoc, List.take_append_of_le_length (by rw [List.length_take, l1, Array.length_toList]; omega), List.take_take, Nat.min_self]
  have HJ := Aside0.mk hj
  have hij : ((i : Int) == (j : Int)) = false := by simp; omega
  have hijI : ¬ ((i : Int) = (j : Int)) := by omega
  have e1 : i ≤ j := by omega
  have e2 : j ≤ n := by omega
  have e3 : i ≤ c0 := by omega
  have e4 : j ≤ c0 := by omega
  have e5 : (i : Int) ≤ (j : Int) := by omega
  have e6 : (j : Int) ≤ (n : Int) := by omega
  have e7 : ¬ (c0 = i) := by omega
  have e8 : i + (n - j) ≤ n := by omega
  have e9 : ¬ (c0 = i + (n - j)) := by omega
  have e10 : ¬ (n = i) := by omega
  have e11 : i + (n - j) ≤ c0 := by omega
  have e12 : ((i + (n - j) : Nat) : Int) ≤ (n : Int) := by omega
  have HAPP := Aside0.mk happ
  have HCL := Aside0.mk hcl
  have HA1 := Aside0.mk hA1
  have HG1 := Aside0.mk hg1
  have HW1 := Aside0.mk hW1
  have HL3 := Aside0.mk l3
  have HL4 := Aside0.mk l4
  have HNM := Aside0.mk hnm
  have HCS := Aside0.mk hcs
  have HCM := Aside0.mk hcm
  clear hown h1x hi0 hz0 hzs hzb hxl hdl hc1 l1 l2 hsrc happ hW1 hg1 hnm hc2 hcl l3 l4 hg hcs hx hcm hA1 hj
  go_enter Tryz.func166, Tryz.ntmps166
  go_wp2_with fail
  have hA1 := HA1.out
  have happ := HAPP.out
  refine st_ 8 (fun w' => True) [] trivial (fun hHeld => ?_)
  refine pu_ 0 20 1 ?_
  refine pu_ 1 21 3 ?_
  refine pu_ 2 22 7 ?_
  refine pu_ 3 23 15 ?_
  refine pu_ 4 24 31 ?_
  refine pu_ 5 25 63 ?_
  refine one_ (i := 6) (N := some 26) (bz 8 127) rfl rfl (by kernel_rfl) (by decide) (fun K hK => ?_)
  refine step_append_eq rfl _ _ 211 211 rfl _ _ rfl rfl (happ _ _) ?_
  refine hK.out _ _ trivial (fun hHeld => ?_)
  clear hK K
  refine no_ 26 ?_
  refine pu_ 7 0 255 ?_
  refine done_ (by kernel_rfl) ?_
  clear hA1 happ
  have hcl := HCL.out
  go_wp2_with fail
  go_ret
  have hcs := HCS.out
  have hcm := HCM.out
  refine ⟨c0, by rw [← HNM.out]; rfl, ⟨?_, .inr ⟨g, c0, cur2.toArray, rfl, hb, setRow_heap W1 g cur1.toArray _ _ _ HG1.out, by omega, hcm, ?_, HL4.out⟩⟩, ?_⟩
  · rw [← HL4.out, List.length_take, HL3.out]; omega
  · rw [List.size_toArray, HL3.out, hcs]
  · refine grown_setRow ?_ (.inl rfl) _
    rw [HW1.out]
    exact grown_setRow (grown_drew w _) (.inl rfl) _
end Go.Proofs.YtenkdmloolbdaaaGreatDoor.TS
end
