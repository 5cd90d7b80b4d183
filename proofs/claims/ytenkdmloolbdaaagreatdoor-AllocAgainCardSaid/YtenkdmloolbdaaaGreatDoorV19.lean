/- slices.Delete of one run (two cells). slices.BinarySearchFunc over runs, and (*Space).find. (*Space).find, Take, Give, Of, Runs, Free: what they do to a row of runs. -/
import Derived.Test.YtenkdmloolbdaaaGreatDoorV18
import Derived.Outline
import Derived.Deep.DeepCutAuto
import Derived.Deep.DeepMust
section
namespace Go.Proofs.YtenkdmloolbdaaaGreatDoor.TS
open Go.RowKit Go.Proofs.YtenkdmloolbdaaaGreatDoorW.PrintWords Go.Proofs.YtenkdmloolbdaaaGreatDoorW.PrintLast Go.Proofs.YtenkdmloolbdaaaGreatDoorW.PrintMore
set_option linter.unusedVariables false
set_option linter.unusedSimpArgs false
section
variable {P : Program}
theorem step_append_eq {ops : Array Oper} {o : Oper} {a : Act} {w : World} {K : Act → World → Prop} {Q : Exit → Act → World → Prop} {E : Prop}
    (hg : o.guard = none) (d x : Operand) (dT sT : TypeId) (hop : o.op = Op.call { callee := Callee.builtin Builtin.append, args := #[d, x], argTypes := #[dT, sT] })
    (v u : Value) (hd : a.eval d = v) (hx : a.eval x = u) {v' : Value} {w' : World} (hr : (Builtin.append_ #[dT, sT] o.type #[v, u]).run P w = .ok v' w') (hK : K (a.put o.dst v') w') :
    if Region.wanted o (yielded ops a.tmps) = true then Oper.wp P o a w K Q else E := by
  have hw : Region.wanted o (yielded ops a.tmps) = true := by simp [Region.wanted, hg]
  rw [if_pos hw]
  exact Lib.wp_append_run w d x dT sT hop v u hd hx v' w' hr hK
/-- clear of a part of a row of the call's own. -/
theorem run_clear_row (w : World) (t e ty : TypeId) (z : Value) (zs : List Value) (ht : P.underlying t = some (.slice e)) (hv : ∀ w, (zeroValue e).run P w = .ok z w) (g o n c : Nat) (cur : Array Value) (te : TypeId) (hn : 0 < n)
    (hzs : (Builtin.zeroCells z.cells n).toList = zs) (h1 : ∀ u ∈ zs, u.oneCell' = true) (hg : w.heap[g]? = some (.cells cur te (0, 0))) (hfit : o + zs.length ≤ cur.size) :
    (Builtin.clear_ #[t] ty #[.slice (some ⟨g, o, none⟩) n c]).run P w = .ok (.tuple #[]) (w.setRow g (cur.toList.take o ++ zs ++ cur.toList.drop (o + zs.length)).toArray) := by
  have hst := run_storeCells_at P g o te zs 0 cur w hg (by simpa using hfit) h1
  simp only [Nat.add_zero] at hst
  obtain ⟨m, rfl⟩ : ∃ m, n = m + 1 := ⟨n - 1, by omega⟩
  simp [Builtin.clear_, run_underlying ht, hv, hzs, hst]
end
theorem zero2 : (Builtin.zeroCells (Value.agg #[Value.int .i64 0, Value.int .i64 0]).cells 1).toList = [Value.int .i64 0, Value.int .i64 0] := by
  apply List.ext_getElem
  · simp [Builtin.zeroCells, Value.cells]
  · intro i h1 h2
    rcases i with _ | _ | i
    · simp [Builtin.zeroCells, Value.cells]
    · simp [Builtin.zeroCells, Value.cells]
    · simp at h2; omega
def Del (w : World) (base : Nat) (A : Option Addr) (n : Nat) (zs : List Value) (e : Ending) (w' : World) : Prop :=
  ∃ c, e = .returned (.slice A n c) ∧ w'.ownsRow base 246 2 (.slice A n c) n zs ∧ w.grownBy w' (Row0 A)
set_option maxHeartbeats 4000000 in
set_option maxRecDepth 100000 in
theorem delete_own (A0 : Option Addr) (c0 n i j : Nat) (base : Nat) (xs : List Value) (w : World) (hown : w.ownsRow base 246 2 (.slice A0 n c0) n xs) (h1x : ∀ u ∈ xs, u.oneCell' = true) (hi : i < n) (hj : j = i + 1) :
    Calls Tryz.prog 166 #[.slice A0 n c0, .int .i64 i, .int .i64 j] w fun e w' => Del w base A0 (n - 1) (xs.take (i * 2) ++ xs.drop ((i + 1) * 2)) e w' := by
  rcases hown.2 with ⟨h, hn⟩ | ⟨g, cap, cur, h, hb, hg, hnc, hcm, hcs, hx⟩
  · omega
  injection h with ha _ hc
  subst ha; subst hc
  obtain ⟨i0, hi0, hz0, hzs, hzb⟩ := info_parts info_run
  have hxl : xs.length = n * 2 := hown.1
  have hdl : (xs.drop ((i + 1) * 2)).length = (n - j) * 2 := by rw [List.length_drop, hxl]; omega
  obtain ⟨cur1, hc1⟩ : ∃ c, c = cur.toList.take (i * 2) ++ xs.drop ((i + 1) * 2) ++ cur.toList.drop (i * 2 + (xs.drop ((i + 1) * 2)).length) := ⟨_, rfl⟩
  obtain ⟨l1, l2⟩ := list_unshift cur.toList xs n i 2 hx hi (by rw [Array.length_toList]; omega) cur1 hc1
  obtain ⟨A1, hA1, hsrc⟩ : ∃ A : Addr, (if c0 = j then some (⟨g, 0, none⟩ : Addr) else some ⟨g, j * 2, none⟩) = some A ∧ (∀ t u, (xs.drop ((i + 1) * 2))[t]? = some u → w.cell? (A.add t) = some u) := by
    by_cases h : c0 = j
    · refine ⟨⟨g, 0, none⟩, by simp [h], fun t u hu => ?_⟩
      have h0 : (xs.drop ((i + 1) * 2)).length = 0 := by rw [hdl]; omega
      rw [List.length_eq_zero_iff.1 h0] at hu
      simp at hu
    · refine ⟨⟨g, j * 2, none⟩, by simp [h], fun t u hu => ?_⟩
      rw [Addr.add_lit]
      rw [List.getElem?_drop, ← hx, List.getElem?_take] at hu
      split at hu
      · rw [Array.getElem?_toList] at hu
        simp only [World.cell?, hg, hj]; exact hu
      · cases hu
  have happ : ∀ ty cc, (Builtin.append_ #[211, 211] ty #[.slice (some ⟨g, 0, none⟩) i c0, .slice (some A1) (n - j) cc]).run Tryz.prog w.drew = .ok (.slice (some ⟨g, 0, none⟩) (i + (n - j)) c0) (w.drew.setRow g cur1.toArray) := fun ty cc => by
    have := run_append_room (P := Tryz.prog) w.drew 211 ty 246 i0 Tryz.underlying211 hi0 g i c0 cur hg A1 (n - j) cc (xs.drop ((i + 1) * 2)) (by rw [hdl, hzs]) hsrc (fun u hu => h1x u (List.mem_of_mem_drop hu)) (by omega) (by rw [hdl, hzs, hcs]; omega)
    rw [hzs] at this
    rw [hc1]; exact this
  obtain ⟨W1, hW1⟩ : ∃ W1, W1 = w.drew.setRow g cur1.toArray := ⟨_, rfl⟩
  rw [← hW1] at happ
  have hg1 : W1.heap[g]? = some (.cells cur1.toArray 246 (0, 0)) := by rw [hW1]; exact setRow_heap w.drew g cur _ _ _ hg
  have hnm : i + (n - j) = n - 1 := by omega
  obtain ⟨cur2, hc2⟩ : ∃ c, c = cur1.take ((n - 1) * 2) ++ [Value.int .i64 0, Value.int .i64 0] ++ cur1.drop ((n - 1) * 2 + [Value.int .i64 0, Value.int .i64 0].length) := ⟨_, rfl⟩
  have hcl : ∀ ty cc, (Builtin.clear_ #[211] ty #[.slice (some ⟨g, (i + (n - j)) * 2, none⟩) (n - (i + (n - j))) cc]).run Tryz.prog W1 = .ok (.tuple #[]) (W1.setRow g cur2.toArray) := fun ty cc => by
    rw [hnm, show n - (n - 1) = 1 by omega, hc2]
    exact run_clear_row W1 211 246 ty _ _ Tryz.underlying211 Tryz.zeroValue246 g ((n - 1) * 2) 1 cc cur1.toArray 246 (by decide) zero2 (by simp [Value.oneCell']) hg1 (by simp only [List.size_toArray, List.length_cons, List.length_nil]; rw [l1, Array.length_toList]; omega)
  have l3 : cur2.length = cur.size := by
    rw [hc2]; simp only [List.length_append, List.length_take, List.length_drop, List.length_cons, List.length_nil, l1, Array.length_toList]; omega
  have l4 : cur2.take ((n - 1) * 2) = xs.take (i * 2) ++ xs.drop ((i + 1) * 2) := by
    rw [← l2, hc2, List.append_assoc, List.take_append_of_le_length (by rw [List.length_take, l1, Array.length_toList]; omega), List.take_take, Nat.min_self]
  have HJ := Aside0.mk hj
  have hij : ((i : Int) == (j : Int)) = false := by simp; omega
  have hijI : ¬ ((i : Int) = (j : Int)) := by omega
  have e1 : i ≤ j := by omega
  have e2 : j ≤ n := by omega
  have e3 : i ≤ c0 := by omega
  have e4 : j ≤ c0 := by omega
  have e5 : (i : Int) ≤ (j : Int) := by omega
  have e6 : (j : Int) ≤ (n : Int) := by omega
  have e7 : ¬ (c0 = i) := by omega
  have e8 : i + (n - j) ≤ n := by omega
  have e9 : ¬ (c0 = i + (n - j)) := by omega
  have e10 : ¬ (n = i) := by omega
  have e11 : i + (n - j) ≤ c0 := by omega
  have e12 : ((i + (n - j) : Nat) : Int) ≤ (n : Int) := by omega
  have HAPP := Aside0.mk happ
  have HCL := Aside0.mk hcl
  have HA1 := Aside0.mk hA1
  have HG1 := Aside0.mk hg1
  have HW1 := Aside0.mk hW1
  have HL3 := Aside0.mk l3
  have HL4 := Aside0.mk l4
  have HNM := Aside0.mk hnm
  have HCS := Aside0.mk hcs
  have HCM := Aside0.mk hcm
  clear hown h1x hi0 hz0 hzs hzb hxl hdl hc1 l1 l2 hsrc happ hW1 hg1 hnm hc2 hcl l3 l4 hg hcs hx hcm hA1 hj
  go_enter Tryz.func166, Tryz.ntmps166
  go_wp2_with fail
  have hA1 := HA1.out
  have happ := HAPP.out
  refine start_ (n := 8) (S := fun w' => True) (ds := []) #[false, false, false, false, false, false, false, false] (by kernel_rfl) rfl rfl trivial (fun hHeld => ?_)
  refine pure_ (i := 0) (N := some 20) (v := ?_) (a' := ?_) #[true, false, false, false, false, false, false, false] rfl rfl (by kernel_rfl) (fun _ _ _ h => h) (Or.inl ⟨by rfl, ?_⟩) ?_ ?_
  rotate_left
  · intro w'
    go_simp
    with_reducible rfl
  rotate_left
  · simp only [Act.put, List.setIfInBounds_toArray, List.set_cons_zero, List.set_cons_succ, i64_w, i32_w]
    rfl
  refine pure_ (i := 1) (N := some 21) (v := ?_) (a' := ?_) #[true, true, false, false, false, false, false, false] rfl rfl (by kernel_rfl) (fun _ _ _ h => h) (Or.inl ⟨by rfl, ?_⟩) ?_ ?_
  rotate_left
  · intro w'
    go_simp
    with_reducible rfl
  rotate_left
  · simp only [Act.put, List.setIfInBounds_toArray, List.set_cons_zero, List.set_cons_succ, i64_w, i32_w]
    rfl
  refine pure_ (i := 2) (N := some 22) (v := ?_) (a' := ?_) #[true, true, true, false, false, false, false, false] rfl rfl (by kernel_rfl) (fun _ _ _ h => h) (Or.inl ⟨by rfl, ?_⟩) ?_ ?_
  rotate_left
  · intro w'
    go_simp
    with_reducible rfl
  rotate_left
  · simp only [Act.put, List.setIfInBounds_toArray, List.set_cons_zero, List.set_cons_succ, i64_w, i32_w]
    rfl
  refine pure_ (i := 3) (N := some 23) (v := ?_) (a' := ?_) #[true, true, true, true, false, false, false, false] rfl rfl (by kernel_rfl) (fun _ _ _ h => h) (Or.inl ⟨by rfl, ?_⟩) ?_ ?_
  rotate_left
  · intro w'
    go_simp
    with_reducible rfl
  rotate_left
  · simp only [Act.put, List.setIfInBounds_toArray, List.set_cons_zero, List.set_cons_succ, i64_w, i32_w]
    rfl
  refine pure_ (i := 4) (N := some 24) (v := ?_) (a' := ?_) #[true, true, true, true, true, false, false, false] rfl rfl (by kernel_rfl) (fun _ _ _ h => h) (Or.inl ⟨by rfl, ?_⟩) ?_ ?_
  rotate_left
  · intro w'
    go_simp
    with_reducible rfl
  rotate_left
  · simp only [Act.put, List.setIfInBounds_toArray, List.set_cons_zero, List.set_cons_succ, i64_w, i32_w]
    rfl
  refine pure_ (i := 5) (N := some 25) (v := ?_) (a' := ?_) #[true, true, true, true, true, true, false, false] rfl rfl (by kernel_rfl) (fun _ _ _ h => h) (Or.inl ⟨by rfl, ?_⟩) ?_ ?_
  rotate_left
  · intro w'
    go_simp
    with_reducible rfl
  rotate_left
  · simp only [Act.put, List.setIfInBounds_toArray, List.set_cons_zero, List.set_cons_succ, i64_w, i32_w]
    rfl
  refine one_ (i := 6) (N := some 26) #[true, true, true, true, true, true, true, false] rfl rfl (by kernel_rfl) (by decide) (fun K hK => ?_)
  refine step_append_eq rfl _ _ 211 211 rfl _ _ rfl rfl (happ _ _) ?_
  refine hK.out _ _ trivial (fun hHeld => ?_)
  clear hK K
  refine norm_ (a' := ?_) ?_ ?_
  rotate_left
  · show Act.put _ (some 26) _ = _
    simp only [Act.put, List.setIfInBounds_toArray, List.set_cons_zero, List.set_cons_succ, i64_w, i32_w]
    rfl
  refine pure_ (i := 7) (N := some 0) (v := ?_) (a' := ?_) #[true, true, true, true, true, true, true, true] rfl rfl (by kernel_rfl) (fun _ _ _ h => h) (Or.inl ⟨by rfl, ?_⟩) ?_ ?_
  rotate_left
  · intro w'
    go_simp
    with_reducible rfl
  rotate_left
  · simp only [Act.put, List.setIfInBounds_toArray, List.set_cons_zero, List.set_cons_succ, i64_w, i32_w]
    rfl
  refine done_ (by kernel_rfl) ?_
  clear hA1 happ
  have hcl := HCL.out
  go_wp2_with fail
  go_ret
  have hcs := HCS.out
  have hcm := HCM.out
  refine ⟨c0, by rw [← HNM.out]; rfl, ⟨?_, .inr ⟨g, c0, cur2.toArray, rfl, hb, setRow_heap W1 g cur1.toArray _ _ _ HG1.out, by omega, hcm, ?_, HL4.out⟩⟩, ?_⟩
  · rw [← HL4.out, List.length_take, HL3.out]; omega
  · rw [List.size_toArray, HL3.out, hcs]
  · refine grown_setRow ?_ (.inl rfl) _
    rw [HW1.out]
    exact grown_setRow (grown_drew w _) (.inl rfl) _
end Go.Proofs.YtenkdmloolbdaaaGreatDoor.TS
end
section
namespace Go.Proofs.YtenkdmloolbdaaaGreatDoor.TS
open Go.RowKit Go.Proofs.YtenkdmloolbdaaaGreatDoorW.PrintWords Go.Proofs.YtenkdmloolbdaaaGreatDoorW.PrintLast Go.Proofs.YtenkdmloolbdaaaGreatDoorW.PrintMore
set_option linter.unusedVariables false
set_option linter.unusedSimpArgs false
def cells2 (r : Int × Int) : List Value := [.int .i64 r.1, .int .i64 r.2]
def flat2 (rs : List (Int × Int)) : List Value := rs.flatMap cells2
theorem flat2_len (rs : List (Int × Int)) : (flat2 rs).length = rs.length * 2 := by
  induction rs with
  | nil => rfl
  | cons r rs ih =>
    have e : flat2 (r :: rs) = cells2 r ++ flat2 rs := List.flatMap_cons ..
    rw [e, List.length_append, ih, List.length_cons]; simp only [cells2, List.length_cons, List.length_nil]; omega
theorem flat2_append (a b : List (Int × Int)) : flat2 (a ++ b) = flat2 a ++ flat2 b := List.flatMap_append ..
theorem flat2_take (rs : List (Int × Int)) (i : Nat) (hi : i ≤ rs.length) : (flat2 rs).take (i * 2) = flat2 (rs.take i) := by
  have h := flat2_append (rs.take i) (rs.drop i)
  rw [List.take_append_drop] at h
  have hl : (flat2 (rs.take i)).length = i * 2 := by rw [flat2_len, List.length_take]; omega
  rw [h, ← hl, List.take_left]
theorem flat2_drop (rs : List (Int × Int)) (i : Nat) (hi : i ≤ rs.length) : (flat2 rs).drop (i * 2) = flat2 (rs.drop i) := by
  have h := flat2_append (rs.take i) (rs.drop i)
  rw [List.take_append_drop] at h
  have hl : (flat2 (rs.take i)).length = i * 2 := by rw [flat2_len, List.length_take]; omega
  rw [h, ← hl, List.drop_left]
theorem flat2_one (rs : List (Int × Int)) : ∀ u ∈ flat2 rs, u.oneCell' = true := by
  intro u hu
  obtain ⟨r, _, hr⟩ := List.mem_flatMap.1 hu
  simp only [cells2, List.mem_cons, List.not_mem_nil, or_false] at hr
  rcases hr with rfl | rfl <;> rfl
theorem flat2_get (rs : List (Int × Int)) (h : Nat) (hl : h < rs.length) : (flat2 rs)[h * 2]? = some (.int .i64 rs[h].1) ∧ (flat2 rs)[h * 2 + 1]? = some (.int .i64 rs[h].2) := by
  have e : (flat2 rs).drop (h * 2) = cells2 rs[h] ++ flat2 (rs.drop (h + 1)) := by
    rw [flat2_drop rs h (by omega), List.drop_eq_getElem_cons hl]
    exact List.flatMap_cons ..
  have e0 : ((flat2 rs).drop (h * 2))[0]? = some (.int .i64 rs[h].1) := by rw [e]; rfl
  have e1 : ((flat2 rs).drop (h * 2))[1]? = some (.int .i64 rs[h].2) := by rw [e]; rfl
  rw [List.getElem?_drop] at e0 e1
  exact ⟨e0, e1⟩
/-- A row of runs of the call's own. -/
def Own2 (w : World) (base : Nat) (A : Option Addr) (c : Nat) (rs : List (Int × Int)) : Prop := w.ownsRow base 246 2 (.slice A rs.length c) rs.length (flat2 rs)
theorem Own2.at_ {w : World} {base : Nat} {A : Option Addr} {c : Nat} {rs : List (Int × Int)} (h : Own2 w base A c rs) (i : Nat) (hi : i < rs.length) :
    ∃ g, A = some ⟨g, 0, none⟩ ∧ w.cell? ⟨g, i * 2, none⟩ = some (.int .i64 rs[i].1) ∧ w.cell? ⟨g, i * 2 + 1, none⟩ = some (.int .i64 rs[i].2) := by
  rcases h.2 with ⟨hn, hl⟩ | ⟨g, cap, cur, hs, _, hg, hnc, _, hcs, hx⟩
  · omega
  · injection hs with ha _ _
    refine ⟨g, ha, ?_, ?_⟩
    · have e := (flat2_get rs i hi).1
      rw [← hx, List.getElem?_take] at e
      split at e
      · rw [Array.getElem?_toList] at e
        simp only [World.cell?, hg]; exact e
      · cases e
    · have e := (flat2_get rs i hi).2
      rw [← hx, List.getElem?_take] at e
      split at e
      · rw [Array.getElem?_toList] at e
        simp only [World.cell?, hg]; exact e
      · cases e
theorem Own2.below {w w' : World} {base : Nat} {A : Option Addr} {c : Nat} {rs : List (Int × Int)} (h : Own2 w base A c rs) (hb : Below w.heap.size w w') : Own2 w' base A c rs := by
  refine ⟨h.1, ?_⟩
  rcases h.2 with hn | ⟨g, cap, cur, hs, hbb, hg, rest⟩
  · exact .inl hn
  · exact .inr ⟨g, cap, cur, hs, hbb, (hb.block g (Array.getElem?_eq_some_iff.1 hg).1).trans hg, rest⟩
def cmp3 (a p : Int) : Int := if a < p then -1 else if p < a then 1 else 0
set_option maxHeartbeats 4000000 in
set_option maxRecDepth 100000 in
theorem closure23 (a m p : Int) (w : World) :
    Calls Tryz.prog 203 #[.agg #[.int .i64 a, .int .i64 m], .int .i64 p] w fun e w' => e = .returned (.int .i64 (cmp3 a p)) ∧ Below w.heap.size w w' := by
  have hne : (a != a) = false := by simp
  have hnp : (p != p) = false := by simp
  by_cases h1 : a < p
  · have d1 : decide (a < p) = true := decide_eq_true h1
    have HC := Aside0.mk (show cmp3 a p = -1 from if_pos h1)
    go_enter Tryz.func203, Tryz.ntmps203
    go_wp2
    go_ret
    exact ⟨by rw [HC.out]; rfl, below_alloc (Below.refl _ _) _⟩
  · have d1 : decide (a < p) = false := decide_eq_false h1
    by_cases h2 : p < a
    · have d2 : decide (p < a) = true := decide_eq_true h2
      have HC := Aside0.mk (show cmp3 a p = 1 from by rw [cmp3, if_neg h1, if_pos h2])
      go_enter Tryz.func203, Tryz.ntmps203
      go_wp2
      go_ret
      exact ⟨by rw [HC.out]; rfl, below_alloc (Below.refl _ _) _⟩
    · have d2 : decide (p < a) = false := decide_eq_false h2
      have HC := Aside0.mk (show cmp3 a p = 0 from by rw [cmp3, if_neg h1, if_neg h2])
      go_enter Tryz.func203, Tryz.ntmps203
      go_wp2
      go_ret
      exact ⟨by rw [HC.out]; rfl, below_alloc (Below.refl _ _) _⟩
/-- The place of a page among first pages: all ahead are lower, none behind is. -/
def Place (rs : List (Int × Int)) (p : Int) (k : Nat) : Prop := k ≤ rs.length ∧ (∀ q, (h : q < rs.length) → q < k → rs[q].1 < p) ∧ (∀ q, (h : q < rs.length) → k ≤ q → p ≤ rs[q].1)
def hitAt (rs : List (Int × Int)) (p : Int) (k : Nat) : Bool := match rs[k]? with | some r => r.1 == p | none => false
def Rising (rs : List (Int × Int)) : Prop := ∀ i j, (hi : i < rs.length) → (hj : j < rs.length) → i < j → rs[i].1 < rs[j].1
def RelF (w : World) (base : Nat) (A : Option Addr) (c : Nat) (rs : List (Int × Int)) (p : Int) (v9 v10 : Value) (wr : World) : Prop :=
  ∃ i j : Nat, v9 = .int .i64 i ∧ v10 = .int .i64 j ∧ i ≤ j ∧ j ≤ rs.length ∧ (∀ q, (h : q < rs.length) → q < i → rs[q].1 < p) ∧ (∀ q, (h : q < rs.length) → j ≤ q → p ≤ rs[q].1) ∧ Own2 wr base A c rs ∧ Below w.heap.size w wr
set_option maxHeartbeats 4000000 in
set_option maxRecDepth 100000 in
theorem search_own (A : Option Addr) (c base : Nat) (rs : List (Int × Int)) (p : Int) (w : World) (hown : Own2 w base A c rs) (hris : Rising rs) (hlen : rs.length ≤ 100000) :
    Calls Tryz.prog 202 #[.slice A rs.length c, .int .i64 p, .func (.func 203) #[] #[]] w fun e w' => ∃ k : Nat, e = .returned (.tuple #[.int .i64 k, .bool (hitAt rs p k)]) ∧ Place rs p k ∧ Below w.heap.size w w' := by
  have H0 := Aside0.mk (show RelF w base A c rs p (.int .i64 0) (.int .i64 rs.length) w from ⟨0, rs.length, rfl, rfl, by omega, by omega, fun _ _ h => by omega, fun _ h h2 => by omega, hown, Below.refl _ _⟩)
  have HRIS := Aside0.mk hris
  clear hown hris
  go_enter Tryz.func202, Tryz.ntmps202
  go_wp2_with fail
  go_loopw [9, 10] (fun v9 v10 wr => RelF w base A c rs p v9 v10 wr) (fun v9 v10 _ => (intOf v10).toNat - (intOf v9).toNat)
  case atStart => exact H0.out
  case round =>
    obtain ⟨i, j, rfl, rfl, hij, hj, hlo, hhi, hown, hB⟩ := hrel
    have HLO := Aside0.mk hlo
    have HHI := Aside0.mk hhi
    have HOWN := Aside0.mk hown
    have HB := Aside0.mk hB
    clear hlo hhi hown hB
    by_cases hlt : i < j
    · have hltb : decide ((i : Int) < (j : Int)) = true := decide_eq_true (by omega)
      have hltI : (i : Int) < (j : Int) := by omega
      have hm1 : i ≤ (i + j) / 2 := by omega
      have hm2 : (i + j) / 2 < j := by omega
      have hml : (i + j) / 2 < rs.length := by omega
      obtain ⟨g, rfl, c0, c1⟩ := HOWN.out.at_ ((i + j) / 2) hml
      obtain ⟨⟨a, mm⟩, hr⟩ : ∃ r, rs[(i + j) / 2] = r := ⟨_, rfl⟩
      rw [hr] at c0 c1
      simp only at c0 c1
      have HR := Aside0.mk hr
      clear hr
      by_cases hap : a < p
      · have hc : cmp3 a p = -1 := if_pos hap
        have HAP := Aside0.mk hap
        clear hap
        go_wp2_with (go_at_call 203; (with_reducible refine (closure23 a mm p _).mono ?_); rintro e_ w1 ⟨rfl, hb⟩; have HB1 := Aside0.mk hb; clear hb)
        go_roundw
        case rel => exact ⟨(i + j) / 2 + 1, j, by go_num, rfl, by omega, by omega, fun q hq hlt2 => by
          have hx := HR.out
          rcases Nat.lt_or_ge q ((i + j) / 2) with h | h
          · have := HRIS.out q ((i + j) / 2) hq (by omega) h; rw [hx] at this; have := HAP.out; omega
          · obtain rfl : q = (i + j) / 2 := by omega
            rw [hx]; exact HAP.out, HHI.out, HOWN.out.below HB1.out, below_then HB.out HB.out.size HB1.out⟩
        case measure => simp [intOf]; omega
      · have hc : decide (cmp3 a p < 0) = false := decide_eq_false (by unfold cmp3; rw [if_neg hap]; split <;> omega)
        have hc2 : ¬ (cmp3 a p < 0) := by unfold cmp3; rw [if_neg hap]; split <;> omega
        have HAP := Aside0.mk hap
        clear hap
        go_wp2_with (go_at_call 203; (with_reducible refine (closure23 a mm p _).mono ?_); rintro e_ w1 ⟨rfl, hb⟩; have HB1 := Aside0.mk hb; clear hb)
        go_roundw
        case rel => exact ⟨i, (i + j) / 2, rfl, by go_num, by omega, by omega, HLO.out, fun q hq hle => by
          have hx := HR.out
          rcases Nat.lt_or_ge ((i + j) / 2) q with h | h
          · have := HRIS.out ((i + j) / 2) q (by omega) hq h; rw [hx] at this; have := HAP.out; omega
          · obtain rfl : q = (i + j) / 2 := by omega
            rw [hx]; have := HAP.out; omega, HOWN.out.below HB1.out, below_then HB.out HB.out.size HB1.out⟩
        case measure => simp [intOf]; omega
    · obtain rfl : i = j := by omega
      have hltI : ¬ ((i : Int) < (i : Int)) := by omega
      have hp : Place rs p i := ⟨hj, HLO.out, HHI.out⟩
      have HP := Aside0.mk hp
      clear hp
      by_cases hil : i < rs.length
      · have hil1 : (i : Int) < (rs.length : Int) := by omega
        have hil2 : decide ((i : Int) < (rs.length : Int)) = true := decide_eq_true hil1
        obtain ⟨g, rfl, c0, c1⟩ := HOWN.out.at_ i hil
        obtain ⟨⟨a, mm⟩, hr⟩ : ∃ r, rs[i] = r := ⟨_, rfl⟩
        rw [hr] at c0 c1
        simp only at c0 c1
        have hge : p ≤ a := by have := HHI.out i hil (Nat.le_refl _); rw [hr] at this; exact this
        have hh : hitAt rs p i = (cmp3 a p == 0) := by
          unfold hitAt cmp3
          rw [List.getElem?_eq_getElem hil, hr]
          simp only
          rw [if_neg (by omega)]
          by_cases h : a = p
          · subst h; simp
          · rw [if_pos (by omega)]; simp [h]
        have HH := Aside0.mk hh
        clear hh hr hge
        go_wp2_with (first | (go_at_call 203; (with_reducible refine (closure23 a mm p _).mono ?_); rintro e_ w1 ⟨rfl, hb⟩; have HB1 := Aside0.mk hb; clear hb))
        go_ret2
        exact ⟨i, by rw [HH.out]; rfl, HP.out, below_then HB.out HB.out.size HB1.out⟩
      · have hil1 : ¬ ((i : Int) < (rs.length : Int)) := by omega
        have hil2 : decide ((i : Int) < (rs.length : Int)) = false := decide_eq_false hil1
        have hh : hitAt rs p i = false := by
          unfold hitAt
          rw [List.getElem?_eq_none (by omega)]
        have HH := Aside0.mk hh
        clear hh
        go_wp2_with fail
        go_ret2
        exact ⟨i, by rw [HH.out]; rfl, HP.out, HB.out⟩
end Go.Proofs.YtenkdmloolbdaaaGreatDoor.TS
end
section
namespace Go.Proofs.YtenkdmloolbdaaaGreatDoor.TS
open Go.RowKit Go.Proofs.YtenkdmloolbdaaaGreatDoorW.PrintWords Go.Proofs.YtenkdmloolbdaaaGreatDoorW.PrintLast Go.Proofs.YtenkdmloolbdaaaGreatDoorW.PrintMore
set_option linter.unusedVariables false
set_option linter.unusedSimpArgs false
/-- Runs, rising, apart, from a page on. -/
def From (lo : Int) : List (Int × Int) → Prop
  | [] => True
  | r :: rs => lo ≤ r.1 ∧ 1 ≤ r.2 ∧ r.1 + r.2 ≤ 4096 ∧ From (r.1 + r.2) rs
theorem From.all : ∀ {rs : List (Int × Int)} {lo : Int}, From lo rs → ∀ r ∈ rs, lo ≤ r.1 ∧ 1 ≤ r.2 ∧ r.1 + r.2 ≤ 4096
  | [], _, _, r, hr => by cases hr
  | x :: rs, lo, h, r, hr => by
    rcases List.mem_cons.1 hr with rfl | hr
    · exact ⟨h.1, h.2.1, h.2.2.1⟩
    · have := From.all h.2.2.2 r hr
      have := h.1; have := h.2.1
      omega
theorem From.len : ∀ {rs : List (Int × Int)} {lo : Int}, From lo rs → rs = [] ∨ (rs.length : Int) ≤ 4096 - lo
  | [], _, _ => .inl rfl
  | x :: rs, lo, h => by
    refine .inr ?_
    have h1 := h.1; have h2 := h.2.1; have h3 := h.2.2.1
    rcases From.len h.2.2.2 with rfl | hl
    · simp; omega
    · rw [List.length_cons]; omega
theorem From.rising : ∀ {rs : List (Int × Int)} {lo : Int}, From lo rs → Rising rs
  | [], _, _, i, j, hi, _, _ => absurd hi (by simp)
  | x :: rs, lo, h, i, j, hi, hj, hij => by
    rcases j with _ | j
    · omega
    · rcases i with _ | i
      · have := From.all h.2.2.2 (rs[j]'(by simpa using hj)) (List.getElem_mem _)
        have h2 := h.2.1
        simp only [List.getElem_cons_zero, List.getElem_cons_succ]; omega
      · simp only [List.getElem_cons_succ]
        exact From.rising h.2.2.2 i j (by simpa using hi) (by simpa using hj) (by omega)
/-- A space in memory: its block, and the row of its runs. -/
structure Sp (w : World) (base g : Nat) (A : Option Addr) (c : Nat) (rs : List (Int × Int)) : Prop where
  lo : base ≤ g
  cell : w.heap[g]? = some (.cells #[.slice A rs.length c] 213 (0, 0))
  row : Own2 w base A c rs
  ne : Row0 A ≠ some g
  good : From 1 rs
theorem Sp.at0 {w : World} {base g : Nat} {A : Option Addr} {c : Nat} {rs : List (Int × Int)} (h : Sp w base g A c rs) : w.cell? ⟨g, 0, none⟩ = some (.slice A rs.length c) := by
  simp only [World.cell?, h.cell]; rfl
theorem Sp.len {w : World} {base g : Nat} {A : Option Addr} {c : Nat} {rs : List (Int × Int)} (h : Sp w base g A c rs) : rs.length ≤ 4095 := by
  rcases h.good.len with h0 | h0
  · rw [h0]; simp
  · omega
theorem Sp.below {w w' : World} {base g : Nat} {A : Option Addr} {c : Nat} {rs : List (Int × Int)} (h : Sp w base g A c rs) (hb : Below w.heap.size w w') : Sp w' base g A c rs :=
  ⟨h.lo, (hb.block g (Array.getElem?_eq_some_iff.1 h.cell).1).trans h.cell, h.row.below hb, h.ne, h.good⟩
set_option maxHeartbeats 4000000 in
set_option maxRecDepth 100000 in
theorem find_own (base g : Nat) (A : Option Addr) (c : Nat) (rs : List (Int × Int)) (p : Int) (w : World) (h : Sp w base g A c rs) :
    Calls Tryz.prog 165 #[.pointer (some ⟨g, 0, none⟩), .int .i64 p] w fun e w' => ∃ k : Nat, e = .returned (.tuple #[.int .i64 k, .bool (hitAt rs p k)]) ∧ Place rs p k ∧ Below w.heap.size w w' := by
  have c0 := h.at0
  have HS := Aside0.mk h
  clear h
  go_enter Tryz.func165, Tryz.ntmps165
  go_wp2_with (go_at_call 202; (with_reducible refine (search_own A c base rs p _ HS.out.row HS.out.good.rising (Nat.le_trans HS.out.len (by omega))).mono ?_); rintro e_ w1 ⟨k, rfl, hp, hb⟩; have HP := Aside0.mk hp; have HB := Aside0.mk hb; clear hp hb)
  go_ret2
  exact ⟨k, rfl, HP.out, HB.out⟩
/-- What a call may turn: the space's block, and the row of its runs; and what is new. -/
structure Chg (w w' : World) (g : Nat) (row : Option Nat) : Prop where
  os : w'.os = w.os
  tape : w'.tape = w.tape
  output : w'.output = w.output
  size : w.heap.size ≤ w'.heap.size
  block : ∀ k, k < w.heap.size → k ≠ g → some k ≠ row → w'.heap[k]? = w.heap[k]?
theorem Chg.refl (w : World) (g : Nat) (row : Option Nat) : Chg w w g row := ⟨rfl, rfl, rfl, Nat.le_refl _, fun _ _ _ _ => rfl⟩
theorem Chg.of_below {w w' : World} (h : Below w.heap.size w w') (g : Nat) (row : Option Nat) : Chg w w' g row := ⟨h.os, h.tape, h.output, h.size, fun k hk _ _ => h.block k hk⟩
theorem Chg.below {w w' : World} {g : Nat} {row : Option Nat} (h : Chg w w' g row) {B : Nat} (hB : B ≤ w.heap.size) (hg : B ≤ g) (hr : ∀ k, row = some k → B ≤ k) : Below B w w' :=
  ⟨h.os, h.tape, h.output, h.size, fun k hk => h.block k (by omega) (by omega) (fun e => by have := hr k e.symm; omega)⟩
theorem Chg.before {w w1 w2 : World} {g : Nat} {row : Option Nat} (hb : Below w.heap.size w w1) (h : Chg w1 w2 g row) : Chg w w2 g row :=
  ⟨h.os.trans hb.os, h.tape.trans hb.tape, h.output.trans hb.output, Nat.le_trans hb.size h.size, fun k hk hg hr => (h.block k (Nat.lt_of_lt_of_le hk hb.size) hg hr).trans (hb.block k hk)⟩
theorem Own2.rowlt {w : World} {base : Nat} {A : Option Addr} {c : Nat} {rs : List (Int × Int)} (h : Own2 w base A c rs) : ∀ k, Row0 A = some k → base ≤ k ∧ k < w.heap.size := by
  intro k hk
  exact World.ownsRow.lt h k (by rw [own_slice]; exact hk)
end Go.Proofs.YtenkdmloolbdaaaGreatDoor.TS
end
