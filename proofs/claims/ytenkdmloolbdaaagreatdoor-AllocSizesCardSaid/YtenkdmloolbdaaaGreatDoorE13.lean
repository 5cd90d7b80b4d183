import Derived.Laws.CopyRow
import Derived.Laws.AppendOwn
import Derived.Lib.Overlaps
import Derived.Lib.AppendZerosOnto
import Derived.Laws.NewBlocks
import Derived.Laws.Externs
import Derived.Test.YtenkdmloolbdaaaGreatDoorE02
import Derived.Test.YtenkdmloolbdaaaGreatDoorProg
import Derived.Test.YtenkdmloolbdaaaGreatDoorE04
import Derived.Shelf.RegionOpenPlain
import Derived.WalkKit
import Derived.Lib.Walk
import Derived.Outline
import Derived.Deep.DeepCutAuto
import Derived.Deep.DeepMust
set_option linter.unusedVariables false
set_option linter.unusedSimpArgs false
set_option maxHeartbeats 8000000
set_option maxRecDepth 100000
section
namespace Go.Proofs.YtenkdmloolbdaaaGreatDoor.TS
open Go.RowKit
section
variable {P : Program}
theorem run_copy_rowK (k : Nat) (w : World) (dT sT ty elem : TypeId) (g o dLen dCap : Nat) (a : Addr) (sLen sCap : Nat) (cur : Array Value) (t : TypeId) (cs : List Value)
 (hu : P.underlying dT = some (.slice elem)) (hs : (P.info? elem).map (·.size) = some k)
 (hg : w.heap[g]? = some (.cells cur t (0, 0))) (hn : cs.length = Nat.min sLen dLen * k)
 (hsrc : ∀ j v, cs[j]? = some v → w.cell? (a.add j) = some v) (hfit : o + cs.length ≤ cur.size) (h1 : ∀ v ∈ cs, v.oneCell' = true) :
 (Builtin.copy_ #[dT, sT] ty #[.slice (some ⟨g, o, none⟩) dLen dCap, .slice (some a) sLen sCap]).run P w =
  .ok (goInt (Nat.min sLen dLen)) (w.setRow g (cur.toList.take o ++ cs ++ cur.toList.drop (o + cs.length)).toArray) := by
 have hl := run_loadCells_list (P := P) w a cs hsrc
 have hst := run_storeCells_at P g o t cs 0 cur w hg (by simpa using hfit) h1
 cases hq : P.info? elem with
 | none => simp [hq] at hs
 | some i =>
  have hi : i.size = k := by simpa [hq] using hs
  simp [Builtin.copy_, run_underlying hu, Builtin.lenOf, Builtin.firstCells, sizeOf, typeInfo, hq, hi, ← hn, hl, hst]
theorem wp_copy_eq (w : World) {o : Oper} {a : Act} {K : Act → World → Prop} {Q : Exit → Act → World → Prop} (d s : Operand) (t t' : TypeId)
 (ho : o.op = .call { callee := .builtin .copy, args := #[d, s], argTypes := #[t, t'] }) (v u : Value) (hd : a.eval d = v) (hs : a.eval s = u) {v' : Value} {w' : World}
 (hr : (Builtin.copy_ #[t, t'] o.type #[v, u]).run P w = .ok v' w') (h : K (a.put o.dst v') w') : o.wp P a w K Q := by
 unfold Oper.wp execOp
 simp only [ho, resolve, invoke, builtin, Sem.run_bind, Sem.run_pure, Result.andThen_ok, List.map_toArray, List.map_cons, List.map_nil, hd, hs, hr]
 exact h
theorem step_copy_eq {ops : Array Oper} {o : Oper} {a : Act} {w : World} {K : Act → World → Prop} {Q : Exit → Act → World → Prop} {E : Prop}
 (hg : o.guard = none) (d x : Operand) (dT sT : TypeId) (hop : o.op = Op.call { callee := Callee.builtin Builtin.copy, args := #[d, x], argTypes := #[dT, sT] })
 (v u : Value) (hd : a.eval d = v) (hx : a.eval x = u) {v' : Value} {w' : World} (hr : (Builtin.copy_ #[dT, sT] o.type #[v, u]).run P w = .ok v' w') (hK : K (a.put o.dst v') w') :
 if Region.wanted o (yielded ops a.tmps) = true then Oper.wp P o a w K Q else E := by
 have hw : Region.wanted o (yielded ops a.tmps) = true := by simp [Region.wanted, hg]
 rw [if_pos hw]
 exact wp_copy_eq w d x dT sT hop v u hd hx hr hK
end
theorem list_shift (cur xs : List Value) (n i k : Nat) (y : List Value) (hy : y.length = k) (hxs : cur.take (n * k) = xs) (hi : i ≤ n) (hfit : (n + 1) * k ≤ cur.length) (cur1 cur2 : List Value)
 (h1 : cur1 = cur.take ((i + 1) * k) ++ xs.drop (i * k) ++ cur.drop ((i + 1) * k + (xs.drop (i * k)).length)) (h2 : cur2 = cur1.take (i * k) ++ y ++ cur1.drop (i * k + y.length)) :
 cur1.length = cur.length ∧ cur2.length = cur.length ∧ cur2.take ((n + 1) * k) = xs.take (i * k) ++ y ++ xs.drop (i * k) := by
 obtain ⟨N, hN⟩ : ∃ N, n * k = N := ⟨_, rfl⟩
 obtain ⟨I, hI⟩ : ∃ I, i * k = I := ⟨_, rfl⟩
 have hIN : I ≤ N := by rw [← hN, ← hI]; exact Nat.mul_le_mul_right _ hi
 have e1 : (i + 1) * k = I + k := by rw [Nat.add_mul, hI, Nat.one_mul]
 have e2 : (n + 1) * k = N + k := by rw [Nat.add_mul, hN, Nat.one_mul]
 rw [e1, hI] at h1
 rw [hI] at h2
 rw [e2] at hfit ⊢
 rw [hI]
 rw [hN] at hxs
 have hxl : xs.length = N := by rw [← hxs, List.length_take]; omega
 have hdl : (xs.drop I).length = N - I := by rw [List.length_drop, hxl]
 have l1 : cur1.length = cur.length := by
  rw [h1]; simp only [List.length_append, List.length_take, List.length_drop]; omega
 have l2 : cur2.length = cur.length := by
  rw [h2]; simp only [List.length_append, List.length_take, List.length_drop, l1, hy]; omega
 refine ⟨l1, l2, ?_⟩
 have hc1 : cur1.take I = xs.take I := by
  rw [h1, List.append_assoc, List.take_append_of_le_length (by rw [List.length_take]; omega), List.take_take, ← hxs, List.take_take]
  congr 1; omega
 have hd1 : cur1.drop (I + y.length) = xs.drop I ++ cur.drop (I + k + (xs.drop I).length) := by
  have hq : (cur.take (I + k)).length = I + y.length := by rw [List.length_take, hy]; omega
  rw [h1, List.append_assoc, ← hq, List.drop_left]
 rw [h2, hc1, hd1]
 have hl : (xs.take I ++ y ++ xs.drop I).length = N + k := by
  rw [List.length_append, List.length_append, List.length_take, hdl, hxl, hy]; omega
 rw [← List.append_assoc, ← hl, List.take_left]
theorem list_unshift (cur xs : List Value) (n i k : Nat) (hxs : cur.take (n * k) = xs) (hi : i < n) (hfit : n * k ≤ cur.length) (cur1 : List Value)
 (h1 : cur1 = cur.take (i * k) ++ xs.drop ((i + 1) * k) ++ cur.drop (i * k + (xs.drop ((i + 1) * k)).length)) :
 cur1.length = cur.length ∧ cur1.take ((n - 1) * k) = xs.take (i * k) ++ xs.drop ((i + 1) * k) := by
 obtain ⟨I, hI⟩ : ∃ I, i * k = I := ⟨_, rfl⟩
 obtain ⟨M, hM⟩ : ∃ M, (n - 1) * k = M := ⟨_, rfl⟩
 have e1 : (i + 1) * k = I + k := by rw [Nat.add_mul, hI, Nat.one_mul]
 have e2 : n * k = M + k := by
  have : n = (n - 1) + 1 := by omega
  rw [this, Nat.add_mul, hM, Nat.one_mul]
 have hIM : I ≤ M := by rw [← hM, ← hI]; exact Nat.mul_le_mul_right _ (by omega)
 rw [e2] at hxs hfit
 rw [e1, hI] at h1
 rw [e1, hI, hM]
 have hxl : xs.length = M + k := by rw [← hxs, List.length_take]; omega
 have hdl : (xs.drop (I + k)).length = M - I := by rw [List.length_drop, hxl]; omega
 have hti : cur.take I = xs.take I := by rw [← hxs, List.take_take]; congr 1; omega
 refine ⟨by rw [h1]; simp only [List.length_append, List.length_take, List.length_drop]; omega, ?_⟩
 rw [h1, hti]
 have hl : (xs.take I ++ xs.drop (I + k)).length = M := by rw [List.length_append, List.length_take, hdl, hxl]; omega
 rw [← hl, List.take_left]
end Go.Proofs.YtenkdmloolbdaaaGreatDoor.TS
end
section
namespace Go.Proofs.YtenkdmloolbdaaaGreatDoor.TS
open Go.RowKit Go.Proofs.YtenkdmloolbdaaaGreatDoorW.PrintWords Go.Proofs.YtenkdmloolbdaaaGreatDoorW.PrintLast Go.Proofs.YtenkdmloolbdaaaGreatDoorW.PrintMore
theorem info_run : (Tryz.prog.info? 246).map (fun i => (i.zero, i.size, i.bytes)) = some (some (.agg #[.int .i64 0, .int .i64 0]), 2, 16) := by kernel_rfl
theorem size_run : (Tryz.prog.info? 246).map (·.size) = some 2 := by kernel_rfl
theorem grown_setRow {w w' : World} {g : Nat} {row : Option Nat} (h : w.grownBy w' row) (hr : row = some g ∨ w.heap.size ≤ g) (cs : Array Value) : w.grownBy (w'.setRow g cs) row := by
 refine ⟨h.os, h.tape, h.output, by simpa using h.size, fun k hk hne => ?_⟩
 rw [setRow_other w' g k cs (fun e => ?_)]
 ·exact h.block k hk hne
 ·subst e
  rcases hr with hr | hr
  ·exact hne hr.symm
  ·omega
theorem grown_drew (w : World) (row : Option Nat) : w.grownBy w.drew row := ⟨rfl, rfl, rfl, Nat.le_refl _, fun _ _ _ => rfl⟩
def Row0 (A : Option Addr) : Option Nat := A.map (·.block)
theorem own_slice (A : Option Addr) (n c : Nat) : (Value.slice A n c).ownBlock = Row0 A := by cases A <;> rfl
def Ins (w : World) (base : Nat) (A : Option Addr) (n : Nat) (zs : List Value) (e : Ending) (w' : World) : Prop :=
 ∃ v', e = .returned v' ∧ w'.ownsRow base 246 2 v' n zs ∧ w.grownBy w' (Row0 A) ∧ (v'.ownBlock = Row0 A ∨ ∃ b, v'.ownBlock = some b ∧ w.heap.size ≤ b)
theorem ins_end (A0 : Option Addr) (c0 n : Nat) (base : Nat) (xs : List Value) (vb : Nat) (y0 y1 : Value) (w : World) (hown : w.ownsRow base 246 2 (.slice A0 n c0) n xs) (hbase : base ≤ w.heap.size)
 (hy : w.heap[vb]? = some (.cells #[y0, y1] 246 (0, 0))) (h0 : y0.oneCell' = true) (h1 : y1.oneCell' = true) (hbig : (n + 1) * 16 ≤ 140737488355328) :
 Calls Tryz.prog 172 #[.slice A0 n c0, .int .i64 n, .slice (some ⟨vb, 0, none⟩) 1 1] w fun e w' => Ins w base A0 (n + 1) (xs ++ [y0, y1]) e w' := by
 obtain ⟨i0, hi0, hz0, hzs, hzb⟩ := info_parts info_run
 have hnews : ∀ j u, [y0, y1][j]? = some u → w.cell? ((⟨vb, 0, none⟩ : Addr).add j) = some u := by
  intro j u hj
  rw [Addr.add_lit]
  rcases j with _ | _ | j
  ·simp at hj; subst hj; simp [World.cell?, hy]
  ·simp at hj; subst hj; simp [World.cell?, hy]
  ·simp at hj
 have hone : ∀ u ∈ [y0, y1], u.oneCell' = true := by simp [h0, h1]
 have HO := ak hown
 have HNE := ak hnews
 have HON := ak hone
 have hnc : n ≤ c0 := by
  rcases hown.2 with ⟨h, hn⟩ | ⟨g, cap, cur, h, _, _, hnc, _⟩
  ·omega
  ·injection h with _ _ hc; omega
 clear hown hnews hone
 go_enter Tryz.func172, Tryz.ntmps172
 go_wp2_with (at_builtin; refine wpList_append_own_at (w := w) rfl (.tmp 23) (.tmp 24) 211 rfl base 246 i0 _ 2 16 Tryz.underlying211 hi0 hz0 hzs hzb rfl (by decide) _ n xs rfl HO.1 ⟨vb, 0, none⟩ 1 1 [y0, y1] rfl rfl HNE.1 HON.1 (by unfold maxLen; omega) hbig hbase ?_; intro v' w1 ho hgr hnil hat; have HO1 := ak ho; have HG1 := ak hgr; have HA1 := ak hat; clear ho hgr hnil hat)
 all_goals (go_ret; refine ⟨_, rfl, HO1.1, ?_, ?_⟩)
 all_goals (first | (have h := HG1.1; change w.grownBy w1 (Value.slice A0 n _).ownBlock at h; rw [own_slice] at h; exact h) | exact (HA1.1).imp (fun h => Eq.trans h (own_slice A0 n _)) (fun h => ⟨_, h, Nat.le_refl _⟩))
theorem ins_shift (g cap n i : Nat) (base : Nat) (cur : Array Value) (xs : List Value) (vb : Nat) (y0 y1 : Value) (w : World) (hb : base ≤ g) (hg : w.heap[g]? = some (.cells cur 246 (0, 0))) (hcm : cap ≤ maxLen) (hcs : cur.size = cap * 2) (hx : cur.toList.take (n * 2) = xs) (h1x : ∀ u ∈ xs, u.oneCell' = true)
 (hi : i < n) (hroom : n + 1 ≤ cap) (hvb : vb ≠ g)
 (hy : w.heap[vb]? = some (.cells #[y0, y1] 246 (0, 0))) (h0 : y0.oneCell' = true) (h1 : y1.oneCell' = true) :
 Calls Tryz.prog 172 #[.slice (some ⟨g, 0, none⟩) n cap, .int .i64 i, .slice (some ⟨vb, 0, none⟩) 1 1] w fun e w' => Ins w base (some ⟨g, 0, none⟩) (n + 1) (xs.take (i * 2) ++ [y0, y1] ++ xs.drop (i * 2)) e w' := by
 have hov : ∀ lb cb, (callFunc 210 #[.slice (some ⟨vb, 0, none⟩) 1 1, .slice (some ⟨g, (i + 1) * 2, none⟩) lb cb]).run Tryz.prog w = .ok (.value (.bool false)) w := fun lb cb => by
  rw [run_callFunc_extern Tryz.func210 (by kernel_rfl) (by kernel_rfl) (by kernel_rfl) (e := Extern.SlicesOverlaps.overlaps #[211, 211] #[4]) (by kernel_rfl),
   Lib.run_overlaps_apart w 211 4 246 Tryz.underlying211 2 Tryz.sizeOf246 ⟨vb, 0, none⟩ ⟨g, (i + 1) * 2, none⟩ 1 1 lb cb hvb 246 246 2 cur.size (by simp [World.shape?, hy]) (by simp [World.shape?, hg]) (by omega) (by simp [World.frozen?, hy]) (by simp [World.frozen?, hy])]
  rfl
 have hxl : xs.length = n * 2 := by rw [← hx, List.length_take, Array.length_toList]; omega
 have hdl : (xs.drop (i * 2)).length = (n - i) * 2 := by rw [List.length_drop, hxl]; omega
 obtain ⟨cur1, hc1⟩ : ∃ c, c = cur.toList.take ((i + 1) * 2) ++ xs.drop (i * 2) ++ cur.toList.drop ((i + 1) * 2 + (xs.drop (i * 2)).length) := ⟨_, rfl⟩
 obtain ⟨cur2, hc2⟩ : ∃ c, c = cur1.take (i * 2) ++ [y0, y1] ++ cur1.drop (i * 2 + [y0, y1].length) := ⟨_, rfl⟩
 obtain ⟨l1, l2, l3⟩ := list_shift cur.toList xs n i 2 [y0, y1] rfl hx (by omega) (by rw [Array.length_toList]; omega) cur1 cur2 hc1 hc2
 have hc63 : cap ≤ 9223372036854775807 := by unfold maxLen at hcm; omega
 have hz2 : ¬ ((i : Int) = (n : Int)) := by omega
 have hi0 : (0 : Int) ≤ (i : Int) + 1 := by omega
 have hi0b : (0 : Int) ≤ (i : Int) := by omega
 have hi1 : (i : Int) ≤ (n : Int) + 1 := by omega
 have hi2 : (i : Int) ≤ (n : Int) := by omega
 have hin : i ≤ n := by omega
 have hb2 : ¬ (cap = i + 1) := by omega
 have hb4 : ¬ (cap = i) := by omega
 have hic : i ≤ cap := by omega
 have hcapb : ¬ ((cap : Int) < (n : Int) + 1) := by omega
 have hcp1 : ∀ ty dc sc, (Builtin.copy_ #[211, 211] ty #[.slice (some ⟨g, (i + 1) * 2, none⟩) (n - i) dc, .slice (some ⟨g, i * 2, none⟩) (n + 1 - i) sc]).run Tryz.prog w.drew = .ok (goInt (Nat.min (n + 1 - i) (n - i))) (w.drew.setRow g cur1.toArray) := fun ty dc sc => by
  rw [hc1]
  refine run_copy_rowK 2 w.drew _ _ ty 246 g ((i + 1) * 2) (n - i) dc ⟨g, i * 2, none⟩ (n + 1 - i) sc cur 246 (xs.drop (i * 2)) Tryz.underlying211 size_run hg ?_ ?_ ?_ ?_
  ·rw [hdl]; simp only [Nat.min_def]; split <;> omega
  ·intro j u hj
   rw [Addr.add_lit]
   rw [List.getElem?_drop, ← hx, List.getElem?_take] at hj
   split at hj
   ·rw [Array.getElem?_toList] at hj
    show w.cell? _ = _
    simp only [World.cell?, hg]; exact hj
   ·cases hj
  ·rw [hdl, hcs]; omega
  ·exact fun u hu => h1x u (List.mem_of_mem_drop hu)
 obtain ⟨W1, hW1⟩ : ∃ W1, W1 = w.drew.setRow g cur1.toArray := ⟨_, rfl⟩
 have hg1 : W1.heap[g]? = some (.cells cur1.toArray 246 (0, 0)) := by rw [hW1]; exact setRow_heap w.drew g cur _ _ _ hg
 have hy1 : W1.heap[vb]? = some (.cells #[y0, y1] 246 (0, 0)) := by rw [hW1, setRow_other _ g vb _ hvb]; exact hy
 have hcp2 : ∀ (W : World), W.heap = W1.heap → ∀ ty dc, (Builtin.copy_ #[211, 211] ty #[.slice (some ⟨g, i * 2, none⟩) (n + 1 - i) dc, .slice (some ⟨vb, 0, none⟩) 1 1]).run Tryz.prog W = .ok (goInt (Nat.min 1 (n + 1 - i))) (W.setRow g cur2.toArray) := fun W hWh ty dc => by
  have := run_copy_rowK (P := Tryz.prog) 2 W 211 211 ty 246 g (i * 2) (n + 1 - i) dc ⟨vb, 0, none⟩ 1 1 cur1.toArray 246 [y0, y1] Tryz.underlying211 size_run (by rw [hWh]; exact hg1) (by simp only [Nat.min_def, List.length_cons, List.length_nil]; split <;> omega)
   (by
    intro j u hj
    rw [Addr.add_lit]
    rcases j with _ | _ | j
    ·simp at hj; subst hj; simp [World.cell?, hWh, hy1]
    ·simp at hj; subst hj; simp [World.cell?, hWh, hy1]
    ·simp at hj)
   (by simp only [List.size_toArray, List.length_cons, List.length_nil]; rw [l1, Array.length_toList]; omega) (by simp [h0, h1])
  rw [hc2]
  exact this
 rw [← hW1] at hcp1
 have hq1 := ak (show wrap64 ((i : Int) + 1) = (i : Int) + 1 from IntWalk.wrap64_in _ ⟨by omega, by omega⟩)
 have hz3 : ((i : Int) == (n : Int)) = false := by simp; omega
 have hd1 : decide ((cap : Int) < (n : Int) + 1) = false := decide_eq_false (by omega)
 have hw2 : wrap64 ((n : Int) + 1) = (n : Int) + 1 := IntWalk.wrap64_in _ ⟨by omega, by omega⟩
 have HOV := ak hov
 have HCP1 := ak hcp1
 have HCP2 := ak hcp2
 have HG1 := ak hg1
 have HW1 := ak hW1
 have HL2 := ak l2
 have HL3 := ak l3
 have HG := ak hg
 have HCS := ak hcs
 have HCM := ak hcm
 clear hov hcp1 hcp2 hg1 hy1 hW1 l1 l2 l3 hc1 hc2 hx hg hcs hcm h1x hxl hdl hy h0 h1
 go_enter Tryz.func172, Tryz.ntmps172
 go_upto_region 14 with (fail)
 clear hw2
 have hw1 := hq1.out
 have hov := HOV.1
 go_wp2_with fail
 clear hov
 have hcp1 := HCP1.1
 refine st_ 9 (fun w' => True) [] trivial (fun hHeld => ?_)
 refine pu_ 0 69 1 ?_
 refine pu_ 1 70 3 ?_
 refine pu_ 2 71 7 ?_
 refine pu_ 3 72 15 ?_
 refine pu_ 4 73 31 ?_
 refine pu_ 5 74 63 ?_
 refine pu_ 6 75 127 ?_
 refine pu_ 7 76 255 ?_
 refine one_ (i := 8) (N := some 77) (bz 9 511) rfl rfl (by kernel_rfl) (by decide) (fun K hK => ?_)
 refine step_copy_eq rfl _ _ 211 211 rfl _ _ rfl rfl (hcp1 _ _ _) ?_
 refine hK.out _ _ trivial (fun hHeld => ?_)
 clear hK K
 refine no_ 77 ?_
 refine done_ (by kernel_rfl) ?_
 have hcp2 := HCP2.1 W1 rfl
 go_wp2_with fail
 go_ret
 have hcs := HCS.1
 have hcm := HCM.1
 refine ⟨_, rfl, ⟨?_, .inr ⟨g, cap, cur2.toArray, rfl, hb, ?_, hroom, hcm, ?_, ?_⟩⟩, ?_, .inl rfl⟩
 ·rw [← HL3.1, List.length_take, HL2.1, Array.length_toList]; omega
 ·exact setRow_heap W1 g cur1.toArray _ _ _ HG1.1
 ·rw [List.size_toArray, HL2.1, Array.length_toList, hcs]
 ·exact HL3.1
 ·refine grown_setRow ?_ (.inl rfl) _
  rw [HW1.1]
  exact grown_setRow (grown_drew w _) (.inl rfl) _
theorem list_grow (cur xs zs : List Value) (n i k : Nat) (y : List Value) (hy : y.length = k) (hxl : xs.length = n * k) (hi : i ≤ n) (cur0 cur1 cur2 : List Value) (h0 : cur0 = xs.take (i * k) ++ zs) (hz : (n + 1 - i) * k ≤ zs.length)
 (h1 : cur1 = cur0.take (i * k) ++ y ++ cur0.drop (i * k + y.length)) (h2 : cur2 = cur1.take ((i + 1) * k) ++ xs.drop (i * k) ++ cur1.drop ((i + 1) * k + (xs.drop (i * k)).length)) :
 cur1.length = cur0.length ∧ cur2.length = cur0.length ∧ cur2.take ((n + 1) * k) = xs.take (i * k) ++ y ++ xs.drop (i * k) := by
 obtain ⟨N, hN⟩ : ∃ N, n * k = N := ⟨_, rfl⟩
 obtain ⟨I, hI⟩ : ∃ I, i * k = I := ⟨_, rfl⟩
 have hIN : I ≤ N := by rw [← hN, ← hI]; exact Nat.mul_le_mul_right _ hi
 have e1 : (i + 1) * k = I + k := by rw [Nat.add_mul, hI, Nat.one_mul]
 have e2 : (n + 1) * k = N + k := by rw [Nat.add_mul, hN, Nat.one_mul]
 have e3 : (n + 1 - i) * k = N + k - I := by rw [Nat.sub_mul, e2, hI]
 rw [e3] at hz
 rw [hI] at h0 h1
 rw [e1, hI] at h2
 rw [e2, hI]
 rw [hN] at hxl
 have htl : (xs.take I).length = I := by rw [List.length_take]; omega
 have l0 : cur0.length = I + zs.length := by rw [h0, List.length_append, htl]
 have hc0 : cur0.take I = xs.take I := by rw [h0, List.take_append_of_le_length (by omega), List.take_take, Nat.min_self]
 have l1 : cur1.length = cur0.length := by
  rw [h1]; simp only [List.length_append, List.length_take, List.length_drop, hy]; omega
 have hdl : (xs.drop I).length = N - I := by rw [List.length_drop, hxl]
 have l2 : cur2.length = cur0.length := by
  rw [h2]; simp only [List.length_append, List.length_take, List.length_drop, l1]; omega
 refine ⟨l1, l2, ?_⟩
 have hc1 : cur1.take (I + k) = xs.take I ++ y := by
  have hq : (xs.take I ++ y).length = I + k := by rw [List.length_append, htl, hy]
  rw [h1, hc0, ← hq, List.take_left]
 rw [h2, hc1]
 have hl : (xs.take I ++ y ++ xs.drop I).length = N + k := by
  rw [List.length_append, List.length_append, htl, hdl, hy]; omega
 rw [← hl, List.take_left]
theorem ins_grow (g cap n i : Nat) (base : Nat) (cur : Array Value) (xs : List Value) (vb : Nat) (y0 y1 : Value) (w : World) (hb : base ≤ w.heap.size) (hg : w.heap[g]? = some (.cells cur 246 (0, 0))) (hcs : cur.size = cap * 2) (hx : cur.toList.take (n * 2) = xs) (h1x : ∀ u ∈ xs, u.oneCell' = true)
 (hi : i < n) (hnc : n ≤ cap) (hroom : cap < n + 1) (hbig : (n + 1) * 16 ≤ 140737488355328)
 (hy : w.heap[vb]? = some (.cells #[y0, y1] 246 (0, 0))) (h0 : y0.oneCell' = true) (h1 : y1.oneCell' = true) :
 Calls Tryz.prog 172 #[.slice (some ⟨g, 0, none⟩) n cap, .int .i64 i, .slice (some ⟨vb, 0, none⟩) 1 1] w fun e w' => Ins w base (some ⟨g, 0, none⟩) (n + 1) (xs.take (i * 2) ++ [y0, y1] ++ xs.drop (i * 2)) e w' := by
 obtain ⟨i0, hi0, hz0, hzs, hzb⟩ := info_parts info_run
 have hgl := (Array.getElem?_eq_some_iff.1 hg).1
 have hvl := (Array.getElem?_eq_some_iff.1 hy).1
 have hxl : xs.length = n * 2 := by rw [← hx, List.length_take, Array.length_toList]; omega
 have hdl : (xs.drop (i * 2)).length = (n - i) * 2 := by rw [List.length_drop, hxl]; omega
 have hold : (Builtin.firstCells i0.size i (.slice (some ⟨g, 0, none⟩) i cap)).run Tryz.prog w.drew = .ok (xs.take (i * 2)).toArray w.drew := by
  rw [hzs]
  exact run_firstCells_some w.drew 2 i ⟨g, 0, none⟩ i cap (xs.take (i * 2)) (by rw [List.length_take]; omega) (fun j v hj => by
   rw [Addr.add_lit]
   rw [List.getElem?_take] at hj
   split at hj
   ·rw [← hx, List.getElem?_take] at hj
    split at hj
    ·rw [Array.getElem?_toList] at hj
     show w.cell? _ = _
     simp only [World.cell?, hg, Nat.zero_add]; exact hj
    ·cases hj
   ·cases hj)
 obtain ⟨G, hG⟩ : ∃ G, G = grownCap w (n + 1) cap 246 := ⟨_, rfl⟩
 have hik : i + (n + 1 - i) = n + 1 := by omega
 have hkk : (n : Int) + 1 - (i : Int) = ((n + 1 - i : Nat) : Int) := by omega
 obtain ⟨zs, hzz⟩ : ∃ zs : Array Value, zs = Builtin.zeroCells (Value.agg #[.int .i64 0, .int .i64 0]).cells (n + 1 - i) ++ Builtin.zeroCells (Value.agg #[.int .i64 0, .int .i64 0]).cells (G - (n + 1)) := ⟨_, rfl⟩
 have hGn : n + 1 ≤ G := by rw [hG]; exact grownCap_ge w _ _ _
 have hzl : zs.size = (n + 1 - i) * 2 + (G - (n + 1)) * 2 := by rw [hzz, Array.size_append, size_zeroCells, size_zeroCells]; rfl
 obtain ⟨cur0, hc0⟩ : ∃ c, c = xs.take (i * 2) ++ zs.toList := ⟨_, rfl⟩
 have hrz : ∀ ty, (Builtin.append_ #[211, 3] ty #[.slice (some ⟨g, 0, none⟩) i cap, .int .i64 ((n : Int) + 1 - (i : Int))]).run Tryz.prog w =
  .ok (.slice (some ⟨w.heap.size, 0, none⟩) (n + 1) G) (w.drew.alloc (.cells cur0.toArray 246)) := fun ty => by
  have h := Lib.run_append_grow_zeros w 211 3 ty 246 i0 _ .i64 .i64 Tryz.underlying211 Tryz.underlying3 hi0 hz0 (some ⟨g, 0, none⟩) i cap (xs.take (i * 2)) hold (n + 1 - i) (by omega) (by omega) (by omega) (by omega) (by rw [hzb]; omega) (by rw [hzb, hik]; exact growslice_fits hroom hbig)
  rw [hik, ← hG] at h
  rw [hkk, h, hc0, hzz]
  congr 3
  apply Array.ext'
  simp
 obtain ⟨cur1, hc1⟩ : ∃ c, c = cur0.take (i * 2) ++ [y0, y1] ++ cur0.drop (i * 2 + [y0, y1].length) := ⟨_, rfl⟩
 obtain ⟨cur2, hc2⟩ : ∃ c, c = cur1.take ((i + 1) * 2) ++ xs.drop (i * 2) ++ cur1.drop ((i + 1) * 2 + (xs.drop (i * 2)).length) := ⟨_, rfl⟩
 obtain ⟨l1, l2, l3⟩ := list_grow cur.toList xs zs.toList n i 2 [y0, y1] rfl hxl (by omega) cur0 cur1 cur2 hc0 (by rw [Array.length_toList, hzl]; omega) hc1 hc2
 have l0 : cur0.length = G * 2 := by rw [hc0, List.length_append, List.length_take, hxl, Array.length_toList, hzl]; omega
 obtain ⟨W1, hW1⟩ : ∃ W1, W1 = w.drew.alloc (.cells cur0.toArray 246) := ⟨_, rfl⟩
 rw [← hW1] at hrz
 have hg1 : W1.heap[w.heap.size]? = some (.cells cur0.toArray 246 (0, 0)) := by rw [hW1]; exact heap_alloc_new w.drew _
 have hold1 : ∀ k, k < w.heap.size → W1.heap[k]? = w.heap[k]? := fun k hk => by rw [hW1]; exact heap_alloc_old w.drew _ hk
 have hcp1 : ∀ ty dc, (Builtin.copy_ #[211, 211] ty #[.slice (some ⟨w.heap.size, i * 2, none⟩) (n + 1 - i) dc, .slice (some ⟨vb, 0, none⟩) 1 1]).run Tryz.prog W1 = .ok (goInt (Nat.min 1 (n + 1 - i))) (W1.setRow w.heap.size cur1.toArray) := fun ty dc => by
  have := run_copy_rowK (P := Tryz.prog) 2 W1 211 211 ty 246 w.heap.size (i * 2) (n + 1 - i) dc ⟨vb, 0, none⟩ 1 1 cur0.toArray 246 [y0, y1] Tryz.underlying211 size_run hg1 (by simp only [Nat.min_def, List.length_cons, List.length_nil]; split <;> omega)
   (by
    have hyy := (hold1 vb hvl).trans hy
    intro j u hj
    rw [Addr.add_lit]
    rcases j with _ | _ | j
    ·simp at hj; subst hj; simp [World.cell?, hyy]
    ·simp at hj; subst hj; simp [World.cell?, hyy]
    ·simp at hj)
   (by simp only [List.size_toArray, List.length_cons, List.length_nil]; omega) (by simp [h0, h1])
  rw [hc1]
  exact this
 obtain ⟨W2, hW2⟩ : ∃ W2, W2 = W1.setRow w.heap.size cur1.toArray := ⟨_, rfl⟩
 rw [← hW2] at hcp1
 have hg2 : W2.heap[w.heap.size]? = some (.cells cur1.toArray 246 (0, 0)) := by rw [hW2]; exact setRow_heap W1 _ cur0.toArray _ _ _ hg1
 have hold2 : ∀ k, k < w.heap.size → W2.heap[k]? = w.heap[k]? := fun k hk => by rw [hW2, setRow_other _ _ _ _ (by omega)]; exact hold1 k hk
 have hcp2 : ∀ ty dc sc, (Builtin.copy_ #[211, 211] ty #[.slice (some ⟨w.heap.size, (i + 1) * 2, none⟩) (n - i) dc, .slice (some ⟨g, i * 2, none⟩) (n - i) sc]).run Tryz.prog W2.drew = .ok (goInt (Nat.min (n - i) (n - i))) (W2.drew.setRow w.heap.size cur2.toArray) := fun ty dc sc => by
  rw [hc2]
  have := run_copy_rowK (P := Tryz.prog) 2 W2.drew 211 211 ty 246 w.heap.size ((i + 1) * 2) (n - i) dc ⟨g, i * 2, none⟩ (n - i) sc cur1.toArray 246 (xs.drop (i * 2)) Tryz.underlying211 size_run hg2 (by rw [hdl]; simp only [Nat.min_def]; split <;> omega)
   (by
    have hgg := (hold2 g hgl).trans hg
    intro j u hj
    rw [Addr.add_lit]
    rw [List.getElem?_drop, ← hx, List.getElem?_take] at hj
    split at hj
    ·rw [Array.getElem?_toList] at hj
     show W2.cell? _ = _
     simp only [World.cell?, hgg]; exact hj
    ·cases hj)
   (by rw [hdl, List.size_toArray, l1, l0]; omega) (fun u hu => h1x u (List.mem_of_mem_drop hu))
  exact this
 have hc63 : n + 1 ≤ 9223372036854775807 := by omega
 have hGm : G ≤ maxLen := by rw [hG]; exact grownCap_le_maxLen w (n + 1) cap 246 (by unfold maxLen; omega)
 have hGb : ¬ (G = i) := by omega
 have hGi : ¬ (G = i + 1) := by omega
 have hci : ¬ (cap = i) := by omega
 have hin : i ≤ n := by omega
 have hic : i ≤ cap := by omega
 have hz2 : ¬ ((i : Int) = (n : Int)) := by omega
 have hz3 : ((i : Int) == (n : Int)) = false := by simp; omega
 have hi0' : (0 : Int) ≤ (i : Int) + 1 := by omega
 have hi0b : (0 : Int) ≤ (i : Int) := by omega
 have hi1 : (i : Int) ≤ (n : Int) + 1 := by omega
 have hi2 : (i : Int) ≤ (n : Int) := by omega
 have hd1 : decide ((cap : Int) < (n : Int) + 1) = true := decide_eq_true (by omega)
 have hd1' : (cap : Int) < (n : Int) + 1 := by omega
 have hq1 := ak (show wrap64 ((i : Int) + 1) = (i : Int) + 1 from IntWalk.wrap64_in _ ⟨by omega, by omega⟩)
 have hq3 := ak (show wrap64 ((n : Int) + 1 - (i : Int)) = (n : Int) + 1 - (i : Int) from IntWalk.wrap64_in _ ⟨by omega, by omega⟩)
 have hw2 : wrap64 ((n : Int) + 1) = (n : Int) + 1 := IntWalk.wrap64_in _ ⟨by omega, by omega⟩
 have HRZ := ak hrz
 have HCP1 := ak hcp1
 have HCP2 := ak hcp2
 have HG2 := ak hg2
 have HW1 := ak hW1
 have HW2 := ak hW2
 have HL0 := ak l0
 have HL2 := ak l2
 have HL3 := ak l3
 have HGN := ak hGn
 have HGM := ak hGm
 clear hrz hcp1 hcp2 hg1 hg2 hW1 hW2 l0 l1 l2 l3 hc0 hc1 hc2 hx hg hcs h1x hxl hdl hy h0 h1 hold hold1 hold2 hG hik hkk hzz hzl hi0 hz0 hzs hzb hgl hvl hGn hGm
 go_enter Tryz.func172, Tryz.ntmps172
 go_upto_region 9 with (fail)
 have hw3 := hq3.out
 go_wp2_with (at_builtin; refine Lib.wpList_append_run _ rfl _ _ _ _ rfl _ _ rfl rfl _ _ (HRZ.1 _) ?_; clear hw2 hw3; have hcp1 := HCP1.1; have hw1 := hq1.out)
 clear hcp1
 have hcp2 := HCP2.1
 refine st_ 9 (fun w' => True) [] trivial (fun hHeld => ?_)
 refine pu_ 0 46 1 ?_
 refine pu_ 1 47 3 ?_
 refine pu_ 2 48 7 ?_
 refine pu_ 3 49 15 ?_
 refine pu_ 4 50 31 ?_
 refine pu_ 5 51 63 ?_
 refine pu_ 6 52 127 ?_
 refine pu_ 7 53 255 ?_
 refine one_ (i := 8) (N := some 54) (bz 9 511) rfl rfl (by kernel_rfl) (by decide) (fun K hK => ?_)
 refine step_copy_eq rfl _ _ 211 211 rfl _ _ rfl rfl (hcp2 _ _ _) ?_
 refine hK.out _ _ trivial (fun hHeld => ?_)
 clear hK K
 refine no_ 54 ?_
 refine done_ (by kernel_rfl) ?_
 go_wp2_with fail
 go_ret
 refine ⟨_, rfl, ⟨?_, .inr ⟨w.heap.size, G, cur2.toArray, rfl, hb, ?_, HGN.1, HGM.1, ?_, ?_⟩⟩, ?_, .inr ⟨_, rfl, Nat.le_refl _⟩⟩
 ·rw [← HL3.1, List.length_take, HL2.1, HL0.1]; have := HGN.1; omega
 ·exact setRow_heap W2.drew _ cur1.toArray _ _ _ HG2.1
 ·rw [List.size_toArray, HL2.1, HL0.1]
 ·exact HL3.1
 ·refine grown_setRow (w' := W2.drew) ?_ (.inr (Nat.le_refl _)) _
  have h2 : w.grownBy W2 (Row0 (some ⟨g, 0, none⟩)) := by
   rw [HW2.1]
   refine grown_setRow ?_ (.inr (Nat.le_refl _)) _
   rw [HW1.1]
   have h3 := World.grownBy_alloc w.drew (.cells cur0.toArray 246) (Row0 (some ⟨g, 0, none⟩))
   exact ⟨h3.os, h3.tape, h3.output, h3.size, h3.block⟩
  exact ⟨h2.os, h2.tape, h2.output, h2.size, h2.block⟩
theorem insert_own (A0 : Option Addr) (c0 n i : Nat) (base : Nat) (xs : List Value) (vb : Nat) (y0 y1 : Value) (w : World) (hown : w.ownsRow base 246 2 (.slice A0 n c0) n xs) (hbase : base ≤ w.heap.size) (h1x : ∀ u ∈ xs, u.oneCell' = true) (hi : i ≤ n)
 (hvb : some vb ≠ Row0 A0) (hy : w.heap[vb]? = some (.cells #[y0, y1] 246 (0, 0))) (h0 : y0.oneCell' = true) (h1 : y1.oneCell' = true) (hbig : (n + 1) * 16 ≤ 140737488355328) :
 Calls Tryz.prog 172 #[.slice A0 n c0, .int .i64 i, .slice (some ⟨vb, 0, none⟩) 1 1] w fun e w' => Ins w base A0 (n + 1) (xs.take (i * 2) ++ [y0, y1] ++ xs.drop (i * 2)) e w' := by
 rcases Nat.lt_or_ge i n with hlt | hge
 ·rcases hown.2 with ⟨h, hn⟩ | ⟨g, cap, cur, h, hb, hg, hnc, hcm, hcs, hx⟩
  ·omega
  ·injection h with ha _ hc
   subst ha; subst hc
   have hvb' : vb ≠ g := fun e => hvb (by rw [e]; rfl)
   rcases Nat.lt_or_ge c0 (n + 1) with hr | hr
   ·exact ins_grow g c0 n i base cur xs vb y0 y1 w hbase hg hcs hx h1x hlt hnc hr hbig hy h0 h1
   ·exact ins_shift g c0 n i base cur xs vb y0 y1 w hb hg hcm hcs hx h1x hlt hr hvb' hy h0 h1
 ·obtain rfl : i = n := by omega
  have hxl : xs.length = i * 2 := hown.1
  have := ins_end A0 c0 i base xs vb y0 y1 w hown hbase hy h0 h1 hbig
  rw [List.take_of_length_le (by omega), List.drop_of_length_le (by omega), List.append_nil]
  exact this
section
variable {P : Program}
theorem step_append_eq {ops : Array Oper} {o : Oper} {a : Act} {w : World} {K : Act → World → Prop} {Q : Exit → Act → World → Prop} {E : Prop}
 (hg : o.guard = none) (d x : Operand) (dT sT : TypeId) (hop : o.op = Op.call { callee := Callee.builtin Builtin.append, args := #[d, x], argTypes := #[dT, sT] })
 (v u : Value) (hd : a.eval d = v) (hx : a.eval x = u) {v' : Value} {w' : World} (hr : (Builtin.append_ #[dT, sT] o.type #[v, u]).run P w = .ok v' w') (hK : K (a.put o.dst v') w') :
 if Region.wanted o (yielded ops a.tmps) = true then Oper.wp P o a w K Q else E := by
 have hw : Region.wanted o (yielded ops a.tmps) = true := by simp [Region.wanted, hg]
 rw [if_pos hw]
 exact Lib.wp_append_run w d x dT sT hop v u hd hx v' w' hr hK
theorem run_clear_row (w : World) (t e ty : TypeId) (z : Value) (zs : List Value) (ht : P.underlying t = some (.slice e)) (hv : ∀ w, (zeroValue e).run P w = .ok z w) (g o n c : Nat) (cur : Array Value) (te : TypeId) (hn : 0 < n)
 (hzs : (Builtin.zeroCells z.cells n).toList = zs) (h1 : ∀ u ∈ zs, u.oneCell' = true) (hg : w.heap[g]? = some (.cells cur te (0, 0))) (hfit : o + zs.length ≤ cur.size) :
 (Builtin.clear_ #[t] ty #[.slice (some ⟨g, o, none⟩) n c]).run P w = .ok (.tuple #[]) (w.setRow g (cur.toList.take o ++ zs ++ cur.toList.drop (o + zs.length)).toArray) := by
 have hst := run_storeCells_at P g o te zs 0 cur w hg (by simpa using hfit) h1
 simp only [Nat.add_zero] at hst
 obtain ⟨m, rfl⟩ : ∃ m, n = m + 1 := ⟨n - 1, by omega⟩
 simp [Builtin.clear_, run_underlying ht, hv, hzs, hst]
end
theorem zero2 : (Builtin.zeroCells (Value.agg #[Value.int .i64 0, Value.int .i64 0]).cells 1).toList = [Value.int .i64 0, Value.int .i64 0] := by
 apply List.ext_getElem
 ·simp [Builtin.zeroCells, Value.cells]
 ·intro i h1 h2
  rcases i with _ | _ | i
  ·simp [Builtin.zeroCells, Value.cells]
  ·simp [Builtin.zeroCells, Value.cells]
  ·simp at h2; omega
def Del (w : World) (base : Nat) (A : Option Addr) (n : Nat) (zs : List Value) (e : Ending) (w' : World) : Prop :=
 ∃ c, e = .returned (.slice A n c) ∧ w'.ownsRow base 246 2 (.slice A n c) n zs ∧ w.grownBy w' (Row0 A)
theorem delete_own (A0 : Option Addr) (c0 n i j : Nat) (base : Nat) (xs : List Value) (w : World) (hown : w.ownsRow base 246 2 (.slice A0 n c0) n xs) (h1x : ∀ u ∈ xs, u.oneCell' = true) (hi : i < n) (hj : j = i + 1) :
 Calls Tryz.prog 166 #[.slice A0 n c0, .int .i64 i, .int .i64 j] w fun e w' => Del w base A0 (n - 1) (xs.take (i * 2) ++ xs.drop ((i + 1) * 2)) e w' := by
 rcases hown.2 with ⟨h, hn⟩ | ⟨g, cap, cur, h, hb, hg, hnc, hcm, hcs, hx⟩
 ·omega
 injection h with ha _ hc
 subst ha; subst hc
 obtain ⟨i0, hi0, hz0, hzs, hzb⟩ := info_parts info_run
 have hxl : xs.length = n * 2 := hown.1
 have hdl : (xs.drop ((i + 1) * 2)).length = (n - j) * 2 := by rw [List.length_drop, hxl]; omega
 obtain ⟨cur1, hc1⟩ : ∃ c, c = cur.toList.take (i * 2) ++ xs.drop ((i + 1) * 2) ++ cur.toList.drop (i * 2 + (xs.drop ((i + 1) * 2)).length) := ⟨_, rfl⟩
 obtain ⟨l1, l2⟩ := list_unshift cur.toList xs n i 2 hx hi (by rw [Array.length_toList]; omega) cur1 hc1
 obtain ⟨A1, hA1, hsrc⟩ : ∃ A : Addr, (if c0 = j then some (⟨g, 0, none⟩ : Addr) else some ⟨g, j * 2, none⟩) = some A ∧ (∀ t u, (xs.drop ((i + 1) * 2))[t]? = some u → w.cell? (A.add t) = some u) := by
  by_cases h : c0 = j
  ·refine ⟨⟨g, 0, none⟩, by simp [h], fun t u hu => ?_⟩
   have h0 : (xs.drop ((i + 1) * 2)).length = 0 := by rw [hdl]; omega
   rw [List.length_eq_zero_iff.1 h0] at hu
   simp at hu
  ·refine ⟨⟨g, j * 2, none⟩, by simp [h], fun t u hu => ?_⟩
   rw [Addr.add_lit]
   rw [List.getElem?_drop, ← hx, List.getElem?_take] at hu
   split at hu
   ·rw [Array.getElem?_toList] at hu
    simp only [World.cell?, hg, hj]; exact hu
   ·cases hu
 have happ : ∀ ty cc, (Builtin.append_ #[211, 211] ty #[.slice (some ⟨g, 0, none⟩) i c0, .slice (some A1) (n - j) cc]).run Tryz.prog w.drew = .ok (.slice (some ⟨g, 0, none⟩) (i + (n - j)) c0) (w.drew.setRow g cur1.toArray) := fun ty cc => by
  have := run_append_room (P := Tryz.prog) w.drew 211 ty 246 i0 Tryz.underlying211 hi0 g i c0 cur hg A1 (n - j) cc (xs.drop ((i + 1) * 2)) (by rw [hdl, hzs]) hsrc (fun u hu => h1x u (List.mem_of_mem_drop hu)) (by omega) (by rw [hdl, hzs, hcs]; omega)
  rw [hzs] at this
  rw [hc1]; exact this
 obtain ⟨W1, hW1⟩ : ∃ W1, W1 = w.drew.setRow g cur1.toArray := ⟨_, rfl⟩
 rw [← hW1] at happ
 have hg1 : W1.heap[g]? = some (.cells cur1.toArray 246 (0, 0)) := by rw [hW1]; exact setRow_heap w.drew g cur _ _ _ hg
 have hnm : i + (n - j) = n - 1 := by omega
 obtain ⟨cur2, hc2⟩ : ∃ c, c = cur1.take ((n - 1) * 2) ++ [Value.int .i64 0, Value.int .i64 0] ++ cur1.drop ((n - 1) * 2 + [Value.int .i64 0, Value.int .i64 0].length) := ⟨_, rfl⟩
 have hcl : ∀ ty cc, (Builtin.clear_ #[211] ty #[.slice (some ⟨g, (i + (n - j)) * 2, none⟩) (n - (i + (n - j))) cc]).run Tryz.prog W1 = .ok (.tuple #[]) (W1.setRow g cur2.toArray) := fun ty cc => by
  rw [hnm, show n - (n - 1) = 1 by omega, hc2]
  exact run_clear_row W1 211 246 ty _ _ Tryz.underlying211 Tryz.zeroValue246 g ((n - 1) * 2) 1 cc cur1.toArray 246 (by decide) zero2 (by simp [Value.oneCell']) hg1 (by simp only [List.size_toArray, List.length_cons, List.length_nil]; rw [l1, Array.length_toList]; omega)
 have l3 : cur2.length = cur.size := by
  rw [hc2]; simp only [List.length_append, List.length_take, List.length_drop, List.length_cons, List.length_nil, l1, Array.length_toList]; omega
 have l4 : cur2.take ((n - 1) * 2) = xs.take (i * 2) ++ xs.drop ((i + 1) * 2) := by
  rw [← l2, hc2, List.append_assoc, List.take_append_of_le_length (by rw [List.length_take, l1, Array.length_toList]; omega), List.take_take, Nat.min_self]
 have HJ := ak hj
 have hij : ((i : Int) == (j : Int)) = false := by simp; omega
 have hijI : ¬ ((i : Int) = (j : Int)) := by omega
 have e1 : i ≤ j := by omega
 have e2 : j ≤ n := by omega
 have e3 : i ≤ c0 := by omega
 have e4 : j ≤ c0 := by omega
 have e5 : (i : Int) ≤ (j : Int) := by omega
 have e6 : (j : Int) ≤ (n : Int) := by omega
 have e7 : ¬ (c0 = i) := by omega
 have e8 : i + (n - j) ≤ n := by omega
 have e9 : ¬ (c0 = i + (n - j)) := by omega
 have e10 : ¬ (n = i) := by omega
 have e11 : i + (n - j) ≤ c0 := by omega
 have e12 : ((i + (n - j) : Nat) : Int) ≤ (n : Int) := by omega
 have HAPP := ak happ
 have HCL := ak hcl
 have HA1 := ak hA1
 have HG1 := ak hg1
 have HW1 := ak hW1
 have HL3 := ak l3
 have HL4 := ak l4
 have HNM := ak hnm
 have HCS := ak hcs
 have HCM := ak hcm
 clear hown h1x hi0 hz0 hzs hzb hxl hdl hc1 l1 l2 hsrc happ hW1 hg1 hnm hc2 hcl l3 l4 hg hcs hx hcm hA1 hj
 go_enter Tryz.func166, Tryz.ntmps166
 go_wp2_with fail
 have hA1 := HA1.1
 have happ := HAPP.1
 refine st_ 8 (fun w' => True) [] trivial (fun hHeld => ?_)
 refine pu_ 0 20 1 ?_
 refine pu_ 1 21 3 ?_
 refine pu_ 2 22 7 ?_
 refine pu_ 3 23 15 ?_
 refine pu_ 4 24 31 ?_
 refine pu_ 5 25 63 ?_
 refine one_ (i := 6) (N := some 26) (bz 8 127) rfl rfl (by kernel_rfl) (by decide) (fun K hK => ?_)
 refine step_append_eq rfl _ _ 211 211 rfl _ _ rfl rfl (happ _ _) ?_
 refine hK.out _ _ trivial (fun hHeld => ?_)
 clear hK K
 refine no_ 26 ?_
 refine pu_ 7 0 255 ?_
 refine done_ (by kernel_rfl) ?_
 clear hA1 happ
 have hcl := HCL.1
 go_wp2_with fail
 go_ret
 have hcs := HCS.1
 have hcm := HCM.1
 refine ⟨c0, by rw [← HNM.1]; rfl, ⟨?_, .inr ⟨g, c0, cur2.toArray, rfl, hb, setRow_heap W1 g cur1.toArray _ _ _ HG1.1, by omega, hcm, ?_, HL4.1⟩⟩, ?_⟩
 ·rw [← HL4.1, List.length_take, HL3.1]; omega
 ·rw [List.size_toArray, HL3.1, hcs]
 ·refine grown_setRow ?_ (.inl rfl) _
  rw [HW1.1]
  exact grown_setRow (grown_drew w _) (.inl rfl) _
def cells2 (r : Int × Int) : List Value := [.int .i64 r.1, .int .i64 r.2]
def flat2 (rs : List (Int × Int)) : List Value := rs.flatMap cells2
theorem flat2_len (rs : List (Int × Int)) : (flat2 rs).length = rs.length * 2 := by
 induction rs with
 | nil => rfl
 | cons r rs ih =>
  have e : flat2 (r :: rs) = cells2 r ++ flat2 rs := List.flatMap_cons ..
  rw [e, List.length_append, ih, List.length_cons]; simp only [cells2, List.length_cons, List.length_nil]; omega
theorem flat2_append (a b : List (Int × Int)) : flat2 (a ++ b) = flat2 a ++ flat2 b := List.flatMap_append ..
theorem flat2_take (rs : List (Int × Int)) (i : Nat) (hi : i ≤ rs.length) : (flat2 rs).take (i * 2) = flat2 (rs.take i) := by
 have h := flat2_append (rs.take i) (rs.drop i)
 rw [List.take_append_drop] at h
 have hl : (flat2 (rs.take i)).length = i * 2 := by rw [flat2_len, List.length_take]; omega
 rw [h, ← hl, List.take_left]
theorem flat2_drop (rs : List (Int × Int)) (i : Nat) (hi : i ≤ rs.length) : (flat2 rs).drop (i * 2) = flat2 (rs.drop i) := by
 have h := flat2_append (rs.take i) (rs.drop i)
 rw [List.take_append_drop] at h
 have hl : (flat2 (rs.take i)).length = i * 2 := by rw [flat2_len, List.length_take]; omega
 rw [h, ← hl, List.drop_left]
theorem flat2_one (rs : List (Int × Int)) : ∀ u ∈ flat2 rs, u.oneCell' = true := by
 intro u hu
 obtain ⟨r, _, hr⟩ := List.mem_flatMap.1 hu
 simp only [cells2, List.mem_cons, List.not_mem_nil, or_false] at hr
 rcases hr with rfl | rfl <;> rfl
theorem flat2_get (rs : List (Int × Int)) (h : Nat) (hl : h < rs.length) : (flat2 rs)[h * 2]? = some (.int .i64 rs[h].1) ∧ (flat2 rs)[h * 2 + 1]? = some (.int .i64 rs[h].2) := by
 have e : (flat2 rs).drop (h * 2) = cells2 rs[h] ++ flat2 (rs.drop (h + 1)) := by
  rw [flat2_drop rs h (by omega), List.drop_eq_getElem_cons hl]
  exact List.flatMap_cons ..
 have e0 : ((flat2 rs).drop (h * 2))[0]? = some (.int .i64 rs[h].1) := by rw [e]; rfl
 have e1 : ((flat2 rs).drop (h * 2))[1]? = some (.int .i64 rs[h].2) := by rw [e]; rfl
 rw [List.getElem?_drop] at e0 e1
 exact ⟨e0, e1⟩
def Own2 (w : World) (base : Nat) (A : Option Addr) (c : Nat) (rs : List (Int × Int)) : Prop := w.ownsRow base 246 2 (.slice A rs.length c) rs.length (flat2 rs)
theorem Own2.at_ {w : World} {base : Nat} {A : Option Addr} {c : Nat} {rs : List (Int × Int)} (h : Own2 w base A c rs) (i : Nat) (hi : i < rs.length) :
 ∃ g, A = some ⟨g, 0, none⟩ ∧ w.cell? ⟨g, i * 2, none⟩ = some (.int .i64 rs[i].1) ∧ w.cell? ⟨g, i * 2 + 1, none⟩ = some (.int .i64 rs[i].2) := by
 rcases h.2 with ⟨hn, hl⟩ | ⟨g, cap, cur, hs, _, hg, hnc, _, hcs, hx⟩
 ·omega
 ·injection hs with ha _ _
  refine ⟨g, ha, ?_, ?_⟩
  ·have e := (flat2_get rs i hi).1
   rw [← hx, List.getElem?_take] at e
   split at e
   ·rw [Array.getElem?_toList] at e
    simp only [World.cell?, hg]; exact e
   ·cases e
  ·have e := (flat2_get rs i hi).2
   rw [← hx, List.getElem?_take] at e
   split at e
   ·rw [Array.getElem?_toList] at e
    simp only [World.cell?, hg]; exact e
   ·cases e
theorem Own2.below {w w' : World} {base : Nat} {A : Option Addr} {c : Nat} {rs : List (Int × Int)} (h : Own2 w base A c rs) (hb : Below w.heap.size w w') : Own2 w' base A c rs := by
 refine ⟨h.1, ?_⟩
 rcases h.2 with hn | ⟨g, cap, cur, hs, hbb, hg, rest⟩
 ·exact .inl hn
 ·exact .inr ⟨g, cap, cur, hs, hbb, (hb.block g (Array.getElem?_eq_some_iff.1 hg).1).trans hg, rest⟩
def cmp3 (a p : Int) : Int := if a < p then -1 else if p < a then 1 else 0
theorem closure23 (a m p : Int) (w : World) :
 Calls Tryz.prog 203 #[.agg #[.int .i64 a, .int .i64 m], .int .i64 p] w fun e w' => e = .returned (.int .i64 (cmp3 a p)) ∧ Below w.heap.size w w' := by
 have hne : (a != a) = false := by simp
 have hnp : (p != p) = false := by simp
 by_cases h1 : a < p
 ·have d1 : decide (a < p) = true := decide_eq_true h1
  have HC := ak (show cmp3 a p = -1 from if_pos h1)
  go_enter Tryz.func203, Tryz.ntmps203
  go_wp2
  go_ret
  exact ⟨by rw [HC.1]; rfl, below_alloc (Below.refl _ _) _⟩
 ·have d1 : decide (a < p) = false := decide_eq_false h1
  by_cases h2 : p < a
  ·have d2 : decide (p < a) = true := decide_eq_true h2
   have HC := ak (show cmp3 a p = 1 from by rw [cmp3, if_neg h1, if_pos h2])
   go_enter Tryz.func203, Tryz.ntmps203
   go_wp2
   go_ret
   exact ⟨by rw [HC.1]; rfl, below_alloc (Below.refl _ _) _⟩
  ·have d2 : decide (p < a) = false := decide_eq_false h2
   have HC := ak (show cmp3 a p = 0 from by rw [cmp3, if_neg h1, if_neg h2])
   go_enter Tryz.func203, Tryz.ntmps203
   go_wp2
   go_ret
   exact ⟨by rw [HC.1]; rfl, below_alloc (Below.refl _ _) _⟩
def Place (rs : List (Int × Int)) (p : Int) (k : Nat) : Prop := k ≤ rs.length ∧ (∀ q, (h : q < rs.length) → q < k → rs[q].1 < p) ∧ (∀ q, (h : q < rs.length) → k ≤ q → p ≤ rs[q].1)
def hitAt (rs : List (Int × Int)) (p : Int) (k : Nat) : Bool := match rs[k]? with | some r => r.1 == p | none => false
def Rising (rs : List (Int × Int)) : Prop := ∀ i j, (hi : i < rs.length) → (hj : j < rs.length) → i < j → rs[i].1 < rs[j].1
def RelF (w : World) (base : Nat) (A : Option Addr) (c : Nat) (rs : List (Int × Int)) (p : Int) (v9 v10 : Value) (wr : World) : Prop :=
 ∃ i j : Nat, v9 = .int .i64 i ∧ v10 = .int .i64 j ∧ i ≤ j ∧ j ≤ rs.length ∧ (∀ q, (h : q < rs.length) → q < i → rs[q].1 < p) ∧ (∀ q, (h : q < rs.length) → j ≤ q → p ≤ rs[q].1) ∧ Own2 wr base A c rs ∧ Below w.heap.size w wr
theorem search_own (A : Option Addr) (c base : Nat) (rs : List (Int × Int)) (p : Int) (w : World) (hown : Own2 w base A c rs) (hris : Rising rs) (hlen : rs.length ≤ 100000) :
 Calls Tryz.prog 202 #[.slice A rs.length c, .int .i64 p, .func (.func 203) #[] #[]] w fun e w' => ∃ k : Nat, e = .returned (.tuple #[.int .i64 k, .bool (hitAt rs p k)]) ∧ Place rs p k ∧ Below w.heap.size w w' := by
 have H0 := ak (show RelF w base A c rs p (.int .i64 0) (.int .i64 rs.length) w from ⟨0, rs.length, rfl, rfl, by omega, by omega, fun _ _ h => by omega, fun _ h h2 => by omega, hown, Below.refl _ _⟩)
 have HRIS := ak hris
 clear hown hris
 go_enter Tryz.func202, Tryz.ntmps202
 go_wp2_with fail
 go_loopw [9, 10] (fun v9 v10 wr => RelF w base A c rs p v9 v10 wr) (fun v9 v10 _ => (intOf v10).toNat - (intOf v9).toNat)
 case atStart => exact H0.1
 case round =>
  obtain ⟨i, j, rfl, rfl, hij, hj, hlo, hhi, hown, hB⟩ := hrel
  have HLO := ak hlo
  have HHI := ak hhi
  have HOWN := ak hown
  have HB := ak hB
  clear hlo hhi hown hB
  by_cases hlt : i < j
  ·have hltb : decide ((i : Int) < (j : Int)) = true := decide_eq_true (by omega)
   have hltI : (i : Int) < (j : Int) := by omega
   have hm1 : i ≤ (i + j) / 2 := by omega
   have hm2 : (i + j) / 2 < j := by omega
   have hml : (i + j) / 2 < rs.length := by omega
   obtain ⟨g, rfl, c0, c1⟩ := HOWN.1.at_ ((i + j) / 2) hml
   obtain ⟨⟨a, mm⟩, hr⟩ : ∃ r, rs[(i + j) / 2] = r := ⟨_, rfl⟩
   rw [hr] at c0 c1
   simp only at c0 c1
   have HR := ak hr
   clear hr
   by_cases hap : a < p
   ·have hc : cmp3 a p = -1 := if_pos hap
    have HAP := ak hap
    clear hap
    go_wp2_with (go_at_call 203; (with_reducible refine (closure23 a mm p _).mono ?_); rintro e_ w1 ⟨rfl, hb⟩; have HB1 := ak hb; clear hb)
    go_roundw
    case rel => exact ⟨(i + j) / 2 + 1, j, by go_num, rfl, by omega, by omega, fun q hq hlt2 => by
     have hx := HR.1
     rcases Nat.lt_or_ge q ((i + j) / 2) with h | h
     ·have := HRIS.1 q ((i + j) / 2) hq (by omega) h; rw [hx] at this; have := HAP.1; omega
     ·obtain rfl : q = (i + j) / 2 := by omega
      rw [hx]; exact HAP.1, HHI.1, HOWN.1.below HB1.1, below_then HB.1 HB.1.size HB1.1⟩
    case measure => simp [intOf]; omega
   ·have hc : decide (cmp3 a p < 0) = false := decide_eq_false (by unfold cmp3; rw [if_neg hap]; split <;> omega)
    have hc2 : ¬ (cmp3 a p < 0) := by unfold cmp3; rw [if_neg hap]; split <;> omega
    have HAP := ak hap
    clear hap
    go_wp2_with (go_at_call 203; (with_reducible refine (closure23 a mm p _).mono ?_); rintro e_ w1 ⟨rfl, hb⟩; have HB1 := ak hb; clear hb)
    go_roundw
    case rel => exact ⟨i, (i + j) / 2, rfl, by go_num, by omega, by omega, HLO.1, fun q hq hle => by
     have hx := HR.1
     rcases Nat.lt_or_ge ((i + j) / 2) q with h | h
     ·have := HRIS.1 ((i + j) / 2) q (by omega) hq h; rw [hx] at this; have := HAP.1; omega
     ·obtain rfl : q = (i + j) / 2 := by omega
      rw [hx]; have := HAP.1; omega, HOWN.1.below HB1.1, below_then HB.1 HB.1.size HB1.1⟩
    case measure => simp [intOf]; omega
  ·obtain rfl : i = j := by omega
   have hltI : ¬ ((i : Int) < (i : Int)) := by omega
   have hp : Place rs p i := ⟨hj, HLO.1, HHI.1⟩
   have HP := ak hp
   clear hp
   by_cases hil : i < rs.length
   ·have hil1 : (i : Int) < (rs.length : Int) := by omega
    have hil2 : decide ((i : Int) < (rs.length : Int)) = true := decide_eq_true hil1
    obtain ⟨g, rfl, c0, c1⟩ := HOWN.1.at_ i hil
    obtain ⟨⟨a, mm⟩, hr⟩ : ∃ r, rs[i] = r := ⟨_, rfl⟩
    rw [hr] at c0 c1
    simp only at c0 c1
    have hge : p ≤ a := by have := HHI.1 i hil (Nat.le_refl _); rw [hr] at this; exact this
    have hh : hitAt rs p i = (cmp3 a p == 0) := by
     unfold hitAt cmp3
     rw [List.getElem?_eq_getElem hil, hr]
     simp only
     rw [if_neg (by omega)]
     by_cases h : a = p
     ·subst h; simp
     ·rw [if_pos (by omega)]; simp [h]
    have HH := ak hh
    clear hh hr hge
    go_wp2_with (first | (go_at_call 203; (with_reducible refine (closure23 a mm p _).mono ?_); rintro e_ w1 ⟨rfl, hb⟩; have HB1 := ak hb; clear hb))
    go_ret2
    exact ⟨i, by rw [HH.1]; rfl, HP.1, below_then HB.1 HB.1.size HB1.1⟩
   ·have hil1 : ¬ ((i : Int) < (rs.length : Int)) := by omega
    have hil2 : decide ((i : Int) < (rs.length : Int)) = false := decide_eq_false hil1
    have hh : hitAt rs p i = false := by
     unfold hitAt
     rw [List.getElem?_eq_none (by omega)]
    have HH := ak hh
    clear hh
    go_wp2_with fail
    go_ret2
    exact ⟨i, by rw [HH.1]; rfl, HP.1, HB.1⟩
def From (lo : Int) : List (Int × Int) → Prop
 | [] => True
 | r :: rs => lo ≤ r.1 ∧ 1 ≤ r.2 ∧ r.1 + r.2 ≤ 4096 ∧ From (r.1 + r.2) rs
theorem From.mono {rs : List (Int × Int)} {lo lo' : Int} (h : From lo rs) (hl : lo' ≤ lo) : From lo' rs := by
 cases rs with
 | nil => trivial
 | cons r rs => exact ⟨by have := h.1; omega, h.2⟩
theorem From.all : ∀ {rs : List (Int × Int)} {lo : Int}, From lo rs → ∀ r ∈ rs, lo ≤ r.1 ∧ 1 ≤ r.2 ∧ r.1 + r.2 ≤ 4096
 | [], _, _, r, hr => by cases hr
 | x :: rs, lo, h, r, hr => by
  rcases List.mem_cons.1 hr with rfl | hr
  ·exact ⟨h.1, h.2.1, h.2.2.1⟩
  ·have := From.all h.2.2.2 r hr
   have := h.1; have := h.2.1
   omega
theorem From.len : ∀ {rs : List (Int × Int)} {lo : Int}, From lo rs → rs = [] ∨ (rs.length : Int) ≤ 4096 - lo
 | [], _, _ => .inl rfl
 | x :: rs, lo, h => by
  refine .inr ?_
  have h1 := h.1; have h2 := h.2.1; have h3 := h.2.2.1
  rcases From.len h.2.2.2 with rfl | hl
  ·simp; omega
  ·rw [List.length_cons]; omega
theorem From.rising : ∀ {rs : List (Int × Int)} {lo : Int}, From lo rs → Rising rs
 | [], _, _, i, j, hi, _, _ => absurd hi (by simp)
 | x :: rs, lo, h, i, j, hi, hj, hij => by
  rcases j with _ | j
  ·omega
  ·rcases i with _ | i
   ·have := From.all h.2.2.2 (rs[j]'(by simpa using hj)) (List.getElem_mem _)
    have h2 := h.2.1
    simp only [List.getElem_cons_zero, List.getElem_cons_succ]; omega
   ·simp only [List.getElem_cons_succ]
    exact From.rising h.2.2.2 i j (by simpa using hi) (by simpa using hj) (by omega)
structure Sp (w : World) (base g : Nat) (A : Option Addr) (c : Nat) (rs : List (Int × Int)) : Prop where
 lo : base ≤ g
 cell : w.heap[g]? = some (.cells #[.slice A rs.length c] 213 (0, 0))
 row : Own2 w base A c rs
 ne : Row0 A ≠ some g
 good : From 1 rs
theorem Sp.at0 {w : World} {base g : Nat} {A : Option Addr} {c : Nat} {rs : List (Int × Int)} (h : Sp w base g A c rs) : w.cell? ⟨g, 0, none⟩ = some (.slice A rs.length c) := by
 simp only [World.cell?, h.cell]; rfl
theorem Sp.len {w : World} {base g : Nat} {A : Option Addr} {c : Nat} {rs : List (Int × Int)} (h : Sp w base g A c rs) : rs.length ≤ 4095 := by
 rcases h.good.len with h0 | h0
 ·rw [h0]; simp
 ·omega
theorem Sp.below {w w' : World} {base g : Nat} {A : Option Addr} {c : Nat} {rs : List (Int × Int)} (h : Sp w base g A c rs) (hb : Below w.heap.size w w') : Sp w' base g A c rs :=
 ⟨h.lo, (hb.block g (Array.getElem?_eq_some_iff.1 h.cell).1).trans h.cell, h.row.below hb, h.ne, h.good⟩
theorem find_own (base g : Nat) (A : Option Addr) (c : Nat) (rs : List (Int × Int)) (p : Int) (w : World) (h : Sp w base g A c rs) :
 Calls Tryz.prog 165 #[.pointer (some ⟨g, 0, none⟩), .int .i64 p] w fun e w' => ∃ k : Nat, e = .returned (.tuple #[.int .i64 k, .bool (hitAt rs p k)]) ∧ Place rs p k ∧ Below w.heap.size w w' := by
 have c0 := h.at0
 have HS := ak h
 clear h
 go_enter Tryz.func165, Tryz.ntmps165
 go_wp2_with (go_at_call 202; (with_reducible refine (search_own A c base rs p _ HS.1.row HS.1.good.rising (Nat.le_trans HS.1.len (by omega))).mono ?_); rintro e_ w1 ⟨k, rfl, hp, hb⟩; have HP := ak hp; have HB := ak hb; clear hp hb)
 go_ret2
 exact ⟨k, rfl, HP.1, HB.1⟩
structure Chg (w w' : World) (g : Nat) (row : Option Nat) : Prop where
 os : w'.os = w.os
 tape : w'.tape = w.tape
 output : w'.output = w.output
 size : w.heap.size ≤ w'.heap.size
 block : ∀ k, k < w.heap.size → k ≠ g → some k ≠ row → w'.heap[k]? = w.heap[k]?
theorem Chg.refl (w : World) (g : Nat) (row : Option Nat) : Chg w w g row := ⟨rfl, rfl, rfl, Nat.le_refl _, fun _ _ _ _ => rfl⟩
theorem Chg.of_below {w w' : World} (h : Below w.heap.size w w') (g : Nat) (row : Option Nat) : Chg w w' g row := ⟨h.os, h.tape, h.output, h.size, fun k hk _ _ => h.block k hk⟩
theorem Chg.below {w w' : World} {g : Nat} {row : Option Nat} (h : Chg w w' g row) {B : Nat} (hB : B ≤ w.heap.size) (hg : B ≤ g) (hr : ∀ k, row = some k → B ≤ k) : Below B w w' :=
 ⟨h.os, h.tape, h.output, h.size, fun k hk => h.block k (by omega) (by omega) (fun e => by have := hr k e.symm; omega)⟩
theorem Chg.before {w w1 w2 : World} {g : Nat} {row : Option Nat} (hb : Below w.heap.size w w1) (h : Chg w1 w2 g row) : Chg w w2 g row :=
 ⟨h.os.trans hb.os, h.tape.trans hb.tape, h.output.trans hb.output, Nat.le_trans hb.size h.size, fun k hk hg hr => (h.block k (Nat.lt_of_lt_of_le hk hb.size) hg hr).trans (hb.block k hk)⟩
theorem Own2.rowlt {w : World} {base : Nat} {A : Option Addr} {c : Nat} {rs : List (Int × Int)} (h : Own2 w base A c rs) : ∀ k, Row0 A = some k → base ≤ k ∧ k < w.heap.size := by
 intro k hk
 exact World.ownsRow.lt h k (by rw [own_slice]; exact hk)
def ofR (rs : List (Int × Int)) (p : Int) : Int × Int × Bool := match rs.find? (fun r => decide (r.1 ≤ p) && decide (p < r.1 + r.2)) with | some r => (r.1, r.2, true) | none => (0, 0, false)
theorem ofR_none (rs : List (Int × Int)) (p : Int) (h : ∀ i, (hi : i < rs.length) → ¬ (rs[i].1 ≤ p ∧ p < rs[i].1 + rs[i].2)) : ofR rs p = (0, 0, false) := by
 unfold ofR
 have e : rs.find? (fun r => decide (r.1 ≤ p) && decide (p < r.1 + r.2)) = none := by
  rw [List.find?_eq_none]
  intro r hr hc
  obtain ⟨i, hi, rfl⟩ := List.getElem_of_mem hr
  simp only [Bool.and_eq_true, decide_eq_true_eq] at hc
  exact h i hi hc
 rw [e]
theorem ofR_some : ∀ {rs : List (Int × Int)} {lo : Int} (p : Int) (i : Nat) (hi : i < rs.length), From lo rs → rs[i].1 ≤ p → p < rs[i].1 + rs[i].2 → ofR rs p = (rs[i].1, rs[i].2, true)
 | [], _, _, i, hi, _, _, _ => absurd hi (by simp)
 | x :: rs, lo, p, 0, hi, h, h1, h2 => by
  simp only [List.getElem_cons_zero] at h1 h2 ⊢
  unfold ofR
  rw [List.find?_cons_of_pos (by simp only [Bool.and_eq_true, decide_eq_true_eq]; exact ⟨h1, h2⟩)]
 | x :: rs, lo, p, i + 1, hi, h, h1, h2 => by
  simp only [List.getElem_cons_succ] at h1 h2 ⊢
  have hi' : i < rs.length := by simpa using hi
  have ha := From.all h.2.2.2 rs[i] (List.getElem_mem _)
  have ih := ofR_some p i hi' h.2.2.2 h1 h2
  unfold ofR at ih ⊢
  rw [List.find?_cons_of_neg (by simp only [Bool.and_eq_true, decide_eq_true_eq]; omega)]
  exact ih
theorem Sp.behind {w : World} {base g : Nat} {A : Option Addr} {c : Nat} {rs : List (Int × Int)} (h : Sp w base g A c rs) (i : Nat) (hi : i < rs.length) : 1 ≤ rs[i].1 ∧ 1 ≤ rs[i].2 ∧ rs[i].1 + rs[i].2 ≤ 4096 := h.good.all _ (List.getElem_mem hi)
theorem From.apart : ∀ {rs : List (Int × Int)} {lo : Int} (i j : Nat) (hi : i < rs.length) (hj : j < rs.length), From lo rs → i < j → rs[i].1 + rs[i].2 ≤ rs[j].1
 | [], _, i, _, hi, _, _, _ => absurd hi (by simp)
 | x :: rs, lo, 0, j + 1, hi, hj, h, hij => by
  simp only [List.getElem_cons_zero, List.getElem_cons_succ]
  exact (From.all h.2.2.2 _ (List.getElem_mem _)).1
 | x :: rs, lo, i + 1, j + 1, hi, hj, h, hij => by
  simp only [List.getElem_cons_succ]
  exact From.apart i j (by simpa using hi) (by simpa using hj) h.2.2.2 (by omega)
theorem of_own (base g : Nat) (A : Option Addr) (c : Nat) (rs : List (Int × Int)) (p : Int) (w : World) (h : Sp w base g A c rs) :
 Calls Tryz.prog 145 #[.pointer (some ⟨g, 0, none⟩), .int .i64 p] w fun e w' => e = .returned (.tuple #[.int .i64 (ofR rs p).1, .int .i64 (ofR rs p).2.1, .bool (ofR rs p).2.2]) ∧ Below w.heap.size w w' := by
 have hlen := h.len
 have HS := ak h
 clear h
 go_enter Tryz.func145, Tryz.ntmps145
 go_upto_region 4 with (go_at_call 165; (with_reducible refine (find_own base g A c rs p _ HS.1).mono ?_); rintro e_ w1 ⟨k, rfl, hp, hb⟩; have HP := ak hp; have HB := ak hb; have HS1 := ak (HS.1.below hb); clear hp hb)
 obtain ⟨hk, hlo, hhi⟩ := HP.1
 have HLO := ak hlo
 have HHI := ak hhi
 clear hlo hhi
 have c0 := HS1.1.at0
 cases hh : hitAt rs p k with
 | true =>
  have hkl : k < rs.length := by
   refine Classical.byContradiction fun hn => ?_
   unfold hitAt at hh
   rw [List.getElem?_eq_none (by omega)] at hh
   cases hh
  obtain ⟨gr, rfl, d0, d1⟩ := HS1.1.row.at_ k hkl
  have hb1 := HS1.1.behind k hkl
  have hat : rs[k].1 = p := by
   unfold hitAt at hh
   rw [List.getElem?_eq_getElem hkl] at hh
   simpa using hh
  have hof := ofR_some p k hkl HS.1.good (by omega) (by omega)
  obtain ⟨⟨a, m⟩, hr⟩ : ∃ r, rs[k] = r := ⟨_, rfl⟩
  rw [hr] at d0 d1 hb1 hat hof
  simp only at d0 d1 hb1 hat hof
  have HOF := ak hof
  clear hof hr hh
  have hk0 : (0 : Int) ≤ (k : Int) := by omega
  have hk1 : (k : Int) < (rs.length : Int) := by omega
  have hkb : decide ((k : Int) < 0) = false := decide_eq_false (by omega)
  have hpb : decide (a + m ≤ p) = false := decide_eq_false (by omega)
  have hw : wrap64 (a + m) = a + m := IntWalk.wrap64_in _ ⟨by omega, by omega⟩
  clear hb1 hat
  go_upto_region 6 with (fail)
  refine st_ 23 (fun w' => w'.cell? ⟨g, 0, none⟩ = some (.slice (some ⟨gr, 0, none⟩) rs.length c) ∧ w'.cell? ⟨gr, k * 2, none⟩ = some (.int .i64 a) ∧ w'.cell? ⟨gr, k * 2 + 1, none⟩ = some (.int .i64 m)) [] ⟨c0, d0, d1⟩ (fun hHeld => ?_)
  refine pu_ 0 21 1 ?_
  refine pu_ 1 22 3 ?_
  refine pu_ 2 23 7 ?_
  refine pu_ 3 24 15 ?_
  refine pu_ 4 25 31 ?_
  refine pu_ 5 26 63 ?_
  refine pu_ 6 27 127 ?_
  refine pu_ 8 29 383 ?_
  refine pu_ 12 33 4479 ?_
  refine pu_ 13 34 12671 ?_
  refine pu_ 14 35 29055 ?_
  refine pu_ 16 37 94591 ?_
  refine ta_ 7 28 94719 hHeld ?_
  refine pu_ 9 30 95231 ?_
  refine pu_ 10 31 96255 ?_
  refine ta_ 11 32 98303 hHeld ?_
  refine ta_ 15 36 131071 hHeld ?_
  refine pu_ 17 38 262143 ?_
  refine pu_ 18 39 524287 ?_
  refine ta_ 19 40 1048575 hHeld ?_
  refine pu_ 20 41 2097151 ?_
  refine pu_ 21 42 4194303 ?_
  refine pu_ 22 43 8388607 ?_
  refine done_ (by kernel_rfl) ?_
  go_upto_region 8 with (fail)
  refine st_ 19 (fun w' => w'.cell? ⟨g, 0, none⟩ = some (.slice (some ⟨gr, 0, none⟩) rs.length c) ∧ w'.cell? ⟨gr, k * 2, none⟩ = some (.int .i64 a) ∧ w'.cell? ⟨gr, k * 2 + 1, none⟩ = some (.int .i64 m)) [] ⟨c0, d0, d1⟩ (fun hHeld => ?_)
  refine pu_ 0 44 1 ?_
  refine pu_ 1 45 3 ?_
  refine pu_ 2 46 7 ?_
  refine pu_ 4 48 23 ?_
  refine pu_ 8 52 279 ?_
  refine pu_ 9 53 791 ?_
  refine pu_ 10 54 1815 ?_
  refine pu_ 12 56 5911 ?_
  refine ta_ 3 47 5919 hHeld ?_
  refine pu_ 5 49 5951 ?_
  refine pu_ 6 50 6015 ?_
  refine ta_ 7 51 6143 hHeld ?_
  refine pu_ 16 4 71679 ?_
  refine ta_ 11 55 73727 hHeld ?_
  refine pu_ 13 57 81919 ?_
  refine pu_ 14 58 98303 ?_
  refine ta_ 15 59 131071 hHeld ?_
  refine pu_ 17 5 262143 ?_
  refine pu_ 18 6 524287 ?_
  refine done_ (by kernel_rfl) ?_
  go_wp2_with fail
  go_ret3
  exact ⟨by rw [HOF.1]; rfl, below_drew (below_drew HB.1)⟩
 | false =>
  have hne : ∀ i, (hi : i < rs.length) → k ≤ i → p < rs[i].1 := by
   intro i hi hki
   have h1 := HHI.1 i hi hki
   rcases Nat.lt_or_ge k i with h | h
   ·have h2 := HS.1.good.rising k i (by omega) hi h
    have h3 := HHI.1 k (by omega) (Nat.le_refl _)
    omega
   ·obtain rfl : k = i := by omega
    unfold hitAt at hh
    rw [List.getElem?_eq_getElem hi] at hh
    have : rs[k].1 ≠ p := by simpa using hh
    omega
  rcases Nat.eq_zero_or_pos k with h0 | h0
  ·have hof := ofR_none rs p (fun i hi hc => by have := hne i hi (by omega); omega)
   have HOF := ak hof
   clear hof hne hh
   have hm1 : (k : Int) - 1 = -1 := by omega
   clear h0
   go_upto_region 6 with (fail)
   refine st_ 23 (fun w' => True) [] trivial (fun hHeld => ?_)
   refine pu_ 0 21 1 ?_
   refine pu_ 1 22 3 ?_
   refine pu_ 2 23 7 ?_
   refine po_ 3 24 15 ?_
   refine po_ 4 25 31 ?_
   refine po_ 5 26 63 ?_
   refine po_ 6 27 127 ?_
   refine po_ 7 28 255 ?_
   refine po_ 8 29 511 ?_
   refine po_ 9 30 1023 ?_
   refine po_ 10 31 2047 ?_
   refine po_ 11 32 4095 ?_
   refine po_ 12 33 8191 ?_
   refine po_ 13 34 16383 ?_
   refine po_ 14 35 32767 ?_
   refine po_ 15 36 65535 ?_
   refine po_ 16 37 131071 ?_
   refine po_ 17 38 262143 ?_
   refine po_ 18 39 524287 ?_
   refine po_ 19 40 1048575 ?_
   refine po_ 20 41 2097151 ?_
   refine po_ 21 42 4194303 ?_
   refine pu_ 22 43 8388607 ?_
   refine done_ (by kernel_rfl) ?_
   go_wp2_with fail
   go_ret3
   exact ⟨by rw [HOF.1]; rfl, below_drew HB.1⟩
  ·obtain ⟨q, hq⟩ : ∃ q, k = q + 1 := ⟨k - 1, by omega⟩
   have hql : q < rs.length := by omega
   obtain ⟨gr, rfl, d0, d1⟩ := HS1.1.row.at_ q hql
   have hb1 := HS1.1.behind q hql
   have hlt := HLO.1 q hql (by omega)
   have hne2 : ∀ i, (hi : i < rs.length) → q < i → p < rs[i].1 := fun i hi h => hne i hi (by omega)
   have hin : p < rs[q].1 + rs[q].2 → ofR rs p = (rs[q].1, rs[q].2, true) := fun h => ofR_some p q hql HS.1.good (by omega) h
   have hout : ¬ p < rs[q].1 + rs[q].2 → ofR rs p = (0, 0, false) := by
    intro h
    refine ofR_none rs p (fun i hi hc => ?_)
    rcases Nat.lt_trichotomy i q with h2 | h2 | h2
    ·have := HS.1.good.apart i q hi hql h2; omega
    ·subst h2; omega
    ·have := hne2 i hi h2; omega
   obtain ⟨⟨a, m⟩, hr⟩ : ∃ r, rs[q] = r := ⟨_, rfl⟩
   rw [hr] at d0 d1 hb1 hin hout
   simp only at d0 d1 hb1 hin hout
   clear hr hh hne hne2 hlt
   have hk0 : (0 : Int) ≤ (q : Int) := by omega
   have hk1 : (q : Int) < (rs.length : Int) := by omega
   have hkb : decide ((q : Int) < 0) = false := decide_eq_false (by omega)
   have hwk := ak (show (k : Int) - 1 = (q : Int) from by omega)
   have hwp := ak (show wrap64 (a + m) = a + m from IntWalk.wrap64_in _ ⟨by omega, by omega⟩)
   by_cases hpe : p < a + m
   ·have hpb : decide (a + m ≤ p) = false := decide_eq_false (by omega)
    have HOF := ak (hin hpe)
    clear hin hout hb1 hpe hq
    have hw := hwp.out
    have hw2 := hwk.out
    go_upto_region 6 with (fail)
    refine st_ 23 (fun w' => w'.cell? ⟨g, 0, none⟩ = some (.slice (some ⟨gr, 0, none⟩) rs.length c) ∧ w'.cell? ⟨gr, q * 2, none⟩ = some (.int .i64 a) ∧ w'.cell? ⟨gr, q * 2 + 1, none⟩ = some (.int .i64 m)) [] ⟨c0, d0, d1⟩ (fun hHeld => ?_)
    refine pu_ 0 21 1 ?_
    refine pu_ 1 22 3 ?_
    refine pu_ 2 23 7 ?_
    refine pu_ 3 24 15 ?_
    refine pu_ 4 25 31 ?_
    refine pu_ 5 26 63 ?_
    refine pu_ 6 27 127 ?_
    refine pu_ 8 29 383 ?_
    refine pu_ 12 33 4479 ?_
    refine pu_ 13 34 12671 ?_
    refine pu_ 14 35 29055 ?_
    refine pu_ 16 37 94591 ?_
    refine ta_ 7 28 94719 hHeld ?_
    refine pu_ 9 30 95231 ?_
    refine pu_ 10 31 96255 ?_
    refine ta_ 11 32 98303 hHeld ?_
    refine ta_ 15 36 131071 hHeld ?_
    refine pu_ 17 38 262143 ?_
    refine pu_ 18 39 524287 ?_
    refine ta_ 19 40 1048575 hHeld ?_
    refine pu_ 20 41 2097151 ?_
    refine pu_ 21 42 4194303 ?_
    refine pu_ 22 43 8388607 ?_
    refine done_ (by kernel_rfl) ?_
    go_upto_region 8 with (fail)
    refine st_ 19 (fun w' => w'.cell? ⟨g, 0, none⟩ = some (.slice (some ⟨gr, 0, none⟩) rs.length c) ∧ w'.cell? ⟨gr, q * 2, none⟩ = some (.int .i64 a) ∧ w'.cell? ⟨gr, q * 2 + 1, none⟩ = some (.int .i64 m)) [] ⟨c0, d0, d1⟩ (fun hHeld => ?_)
    refine pu_ 0 44 1 ?_
    refine pu_ 1 45 3 ?_
    refine pu_ 2 46 7 ?_
    refine pu_ 4 48 23 ?_
    refine pu_ 8 52 279 ?_
    refine pu_ 9 53 791 ?_
    refine pu_ 10 54 1815 ?_
    refine pu_ 12 56 5911 ?_
    refine ta_ 3 47 5919 hHeld ?_
    refine pu_ 5 49 5951 ?_
    refine pu_ 6 50 6015 ?_
    refine ta_ 7 51 6143 hHeld ?_
    refine pu_ 16 4 71679 ?_
    refine ta_ 11 55 73727 hHeld ?_
    refine pu_ 13 57 81919 ?_
    refine pu_ 14 58 98303 ?_
    refine ta_ 15 59 131071 hHeld ?_
    refine pu_ 17 5 262143 ?_
    refine pu_ 18 6 524287 ?_
    refine done_ (by kernel_rfl) ?_
    go_wp2_with fail
    go_ret3
    exact ⟨by rw [HOF.1]; rfl, below_drew (below_drew HB.1)⟩
   ·have hpb : decide (a + m ≤ p) = true := decide_eq_true (by omega)
    have HOF := ak (hout hpe)
    clear hin hout hb1 hpe hq
    have hw := hwp.out
    have hw2 := hwk.out
    go_upto_region 6 with (fail)
    refine st_ 23 (fun w' => w'.cell? ⟨g, 0, none⟩ = some (.slice (some ⟨gr, 0, none⟩) rs.length c) ∧ w'.cell? ⟨gr, q * 2, none⟩ = some (.int .i64 a) ∧ w'.cell? ⟨gr, q * 2 + 1, none⟩ = some (.int .i64 m)) [] ⟨c0, d0, d1⟩ (fun hHeld => ?_)
    refine pu_ 0 21 1 ?_
    refine pu_ 1 22 3 ?_
    refine pu_ 2 23 7 ?_
    refine pu_ 3 24 15 ?_
    refine pu_ 4 25 31 ?_
    refine pu_ 5 26 63 ?_
    refine pu_ 6 27 127 ?_
    refine pu_ 8 29 383 ?_
    refine pu_ 12 33 4479 ?_
    refine pu_ 13 34 12671 ?_
    refine pu_ 14 35 29055 ?_
    refine pu_ 16 37 94591 ?_
    refine ta_ 7 28 94719 hHeld ?_
    refine pu_ 9 30 95231 ?_
    refine pu_ 10 31 96255 ?_
    refine ta_ 11 32 98303 hHeld ?_
    refine ta_ 15 36 131071 hHeld ?_
    refine pu_ 17 38 262143 ?_
    refine pu_ 18 39 524287 ?_
    refine ta_ 19 40 1048575 hHeld ?_
    refine pu_ 20 41 2097151 ?_
    refine pu_ 21 42 4194303 ?_
    refine pu_ 22 43 8388607 ?_
    refine done_ (by kernel_rfl) ?_
    go_wp2_with fail
    go_ret3
    exact ⟨by rw [HOF.1]; rfl, below_drew HB.1⟩
def giveL (p : Int) : List (Int × Int) → Option (Int × List (Int × Int))
 | [] => none
 | r :: rs => if r.1 = p then some (r.2, rs) else (giveL p rs).map (fun x => (x.1, r :: x.2))
theorem giveL_at : ∀ (p : Int) (rs : List (Int × Int)) (k : Nat) (hk : k < rs.length), rs[k].1 = p → (∀ q, (h : q < rs.length) → q < k → rs[q].1 ≠ p) → giveL p rs = some (rs[k].2, rs.take k ++ rs.drop (k + 1))
 | p, [], k, hk, _, _ => absurd hk (by simp)
 | p, r :: rs, 0, hk, h, _ => by
  simp only [List.getElem_cons_zero] at h ⊢
  rw [giveL, if_pos h]; simp
 | p, r :: rs, k + 1, hk, h, hq => by
  simp only [List.getElem_cons_succ] at h ⊢
  have h0 := hq 0 (by simp) (by omega)
  simp only [List.getElem_cons_zero] at h0
  rw [giveL, if_neg h0, giveL_at p rs k (by simpa using hk) h (fun q hh hlt => by have := hq (q + 1) (by simpa using hh) (by omega); simpa using this)]
  simp
theorem giveL_none : ∀ (p : Int) (rs : List (Int × Int)), (∀ q, (h : q < rs.length) → rs[q].1 ≠ p) → giveL p rs = none
 | p, [], _ => rfl
 | p, r :: rs, h => by
  have h0 := h 0 (by simp)
  simp only [List.getElem_cons_zero] at h0
  rw [giveL, if_neg h0, giveL_none p rs (fun q hh => by have := h (q + 1) (by simpa using hh); simpa using this)]
  rfl
theorem From.give : ∀ {rs : List (Int × Int)} {lo : Int} (p n : Int) (l : List (Int × Int)), From lo rs → giveL p rs = some (n, l) → From lo l
 | [], _, _, _, _, _, h => by cases h
 | r :: rs, lo, p, n, l, h, hg => by
  rw [giveL] at hg
  split at hg
  ·cases hg
   exact h.2.2.2.mono (by have := h.1; have := h.2.1; omega)
  ·cases hx : giveL p rs with
   | none => rw [hx] at hg; cases hg
   | some x =>
    rw [hx] at hg
    cases hg
    exact ⟨h.1, h.2.1, h.2.2.1, From.give p x.1 x.2 h.2.2.2 hx⟩
def takeL (n : Int) : Int → List (Int × Int) → Int × List (Int × Int)
 | a, [] => (a, [(a, n)])
 | a, r :: rs => if r.1 - a < n then ((takeL n (r.1 + r.2) rs).1, r :: (takeL n (r.1 + r.2) rs).2) else (a, (a, n) :: r :: rs)
theorem takeL_good : ∀ {rs : List (Int × Int)} {lo : Int} (n : Int), From lo rs → 1 ≤ n → (takeL n lo rs).1 + n ≤ 4096 → From lo (takeL n lo rs).2
 | [], lo, n, _, hn, h => ⟨Int.le_refl _, hn, h, trivial⟩
 | r :: rs, lo, n, h, hn, hs => by
  rw [takeL] at hs ⊢
  split at hs
  ·rename_i hlt
   rw [if_pos hlt]
   exact ⟨h.1, h.2.1, h.2.2.1, takeL_good n h.2.2.2 hn hs⟩
  ·rename_i hlt
   rw [if_neg hlt]
   exact ⟨Int.le_refl _, hn, hs, by omega, h.2.1, h.2.2.1, h.2.2.2⟩
def Given (w : World) (base g : Nat) (A : Option Addr) (rs : List (Int × Int)) (p : Int) (e : Ending) (w' : World) : Prop :=
 match giveL p rs with
 | none => e = .returned (.tuple #[.int .i64 0, .int .i64 13]) ∧ Below w.heap.size w w'
 | some (n, l) => ∃ c, e = .returned (.tuple #[.int .i64 n, .int .i64 0]) ∧ Sp w' base g A c l ∧ Chg w w' g (Row0 A)
theorem Below.grown {w w' : World} {row : Option Nat} (h : w.grownBy w' row) (g : Nat) : Chg w w' g row := ⟨h.os, h.tape, h.output, h.size, fun k hk _ hr => h.block k hk hr⟩
theorem Chg.set {w w' : World} {g : Nat} {row : Option Nat} (h : Chg w w' g row) (j : Nat) (u : Value) : Chg w (w'.setCell ⟨g, j, none⟩ u) g row :=
 ⟨h.os, h.tape, h.output, by simpa [World.setCell] using h.size, fun k hk hg hr => (Below.heap_setCell w' ⟨g, j, none⟩ u k hg).trans (h.block k hk hg hr)⟩
theorem Own2.setOther {w : World} {base : Nat} {A : Option Addr} {c : Nat} {rs : List (Int × Int)} (h : Own2 w base A c rs) {g : Nat} (hne : Row0 A ≠ some g) (j : Nat) (u : Value) : Own2 (w.setCell ⟨g, j, none⟩ u) base A c rs := by
 refine ⟨h.1, ?_⟩
 rcases h.2 with hn | ⟨b, cap, cur, hs, hbb, hg, rest⟩
 ·exact .inl hn
 ·injection hs with ha _ hc
  subst ha; subst hc
  refine .inr ⟨b, c, cur, rfl, hbb, ?_, rest⟩
  rw [Below.heap_setCell w ⟨g, j, none⟩ u b (fun e => hne (by have e' : b = g := e; rw [← e']; rfl))]
  exact hg
theorem heap_set0 {w : World} {g : Nat} {v u : Value} {t : TypeId} (h : w.heap[g]? = some (.cells #[v] t (0, 0))) : (w.setCell ⟨g, 0, none⟩ u).heap[g]? = some (.cells #[u] t (0, 0)) := by
 have hl := (Array.getElem?_eq_some_iff.1 h).1
 have he := (Array.getElem?_eq_some_iff.1 h).2
 simp only [World.setCell, Array.getElem?_modify, if_pos rfl, h]
 rfl
theorem give_own (base g : Nat) (A : Option Addr) (c : Nat) (rs : List (Int × Int)) (p : Int) (w : World) (h : Sp w base g A c rs) :
 Calls Tryz.prog 114 #[.pointer (some ⟨g, 0, none⟩), .int .i64 p] w fun e w' => Given w base g A rs p e w' := by
 have hlen := h.len
 have HS := ak h
 clear h
 go_enter Tryz.func114, Tryz.ntmps114
 go_upto_region 4 with (go_at_call 165; (with_reducible refine (find_own base g A c rs p _ HS.1).mono ?_); rintro e_ w1 ⟨k, rfl, hp, hb⟩; have HP := ak hp; have HB := ak hb; have HS1 := ak (HS.1.below hb); clear hp hb)
 obtain ⟨hk, hlo, hhi⟩ := HP.1
 have HLO := ak hlo
 have HHI := ak hhi
 clear hlo hhi
 have c0 := HS1.1.at0
 cases hh : hitAt rs p k with
 | true =>
  have hkl : k < rs.length := by
   refine Classical.byContradiction fun hn => ?_
   unfold hitAt at hh
   rw [List.getElem?_eq_none (by omega)] at hh
   cases hh
  obtain ⟨gr, rfl, d0, d1⟩ := HS1.1.row.at_ k hkl
  have hat : rs[k].1 = p := by
   unfold hitAt at hh
   rw [List.getElem?_eq_getElem hkl] at hh
   simpa using hh
  have hg := giveL_at p rs k hkl hat (fun q hq hlt => by have := HLO.1 q hq hlt; omega)
  obtain ⟨⟨a, m⟩, hr⟩ : ∃ r, rs[k] = r := ⟨_, rfl⟩
  rw [hr] at d0 d1 hg
  simp only at d0 d1 hg
  have HG := ak hg
  clear hg hr hh hat
  have hk0 : (0 : Int) ≤ (k : Int) := by omega
  have hk1 : (k : Int) < (rs.length : Int) := by omega
  have hkk : ((k : Int) + 1) = ((k + 1 : Nat) : Int) := by omega
  have HKK := ak hkk
  have hrow : w1.ownsRow base 246 2 (.slice (some ⟨gr, 0, none⟩) rs.length c) rs.length (flat2 rs) := HS1.1.row
  have HROW := ak hrow
  clear hrow
  clear hkk
  go_wp2_with (go_at_call 166; rw [HKK.1]; (with_reducible refine (delete_own (some ⟨gr, 0, none⟩) c rs.length k (k + 1) base (flat2 rs) _ HROW.1 (flat2_one rs) hkl rfl).mono ?_); rintro e_ w2 ⟨c2, rfl, ho, hgr⟩; have HO := ak ho; have HGR := ak hgr; clear ho hgr; have hg2 := (HGR.1.block g (Array.getElem?_eq_some_iff.1 HS1.1.cell).1 (fun e => HS1.1.ne e.symm)).trans HS1.1.cell; have c2_ : w2.cell? ⟨g, 0, none⟩ = some (.slice (some ⟨gr, 0, none⟩) rs.length c) := (by simp only [World.cell?, hg2]; rfl); have hf2 : w2.frozen? ⟨g, 0, none⟩ = false := (by simp [World.frozen?, hg2]); have HG2 := ak hg2; clear hg2)
  go_ret2
  have hll : (rs.take k ++ rs.drop (k + 1)).length = rs.length - 1 := by
   rw [List.length_append, List.length_take, List.length_drop]; omega
  have hfl : flat2 (rs.take k ++ rs.drop (k + 1)) = (flat2 rs).take (k * 2) ++ (flat2 rs).drop ((k + 1) * 2) := by
   rw [flat2_append, flat2_take rs k (by omega), flat2_drop rs (k + 1) (by omega)]
  have hown : Own2 w2 base (some ⟨gr, 0, none⟩) c2 (rs.take k ++ rs.drop (k + 1)) := by
   unfold Own2; rw [hll, hfl]; exact HO.1
  have hgood := HS.1.good.give p m _ HG.1
  unfold Given
  rw [HG.1]
  refine ⟨c2, rfl, ⟨HS.1.lo, ?_, hown.setOther HS1.1.ne 0 _, HS1.1.ne, hgood⟩, ?_⟩
  ·rw [hll]; exact heap_set0 HG2.1
  ·exact (Chg.before HB.1 (Below.grown HGR.1 g)).set 0 _
 | false =>
  have hne : ∀ i, (hi : i < rs.length) → rs[i].1 ≠ p := by
   intro i hi
   rcases Nat.lt_or_ge i k with h | h
   ·have := HLO.1 i hi h; omega
   ·have h1 := HHI.1 i hi h
    rcases Nat.lt_or_ge k i with h' | h'
    ·have h2 := HS.1.good.rising k i (by omega) hi h'
     have h3 := HHI.1 k (by omega) (Nat.le_refl _)
     omega
    ·obtain rfl : k = i := by omega
     unfold hitAt at hh
     rw [List.getElem?_eq_getElem hi] at hh
     simpa using hh
  have HG := ak (giveL_none p rs hne)
  clear hne hh
  go_wp2_with fail
  go_ret2
  unfold Given
  rw [HG.1]
  exact ⟨rfl, HB.1⟩
end Go.Proofs.YtenkdmloolbdaaaGreatDoor.TS
end
