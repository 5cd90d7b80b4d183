/- slices.Delete of one run (two cells). -/
import Derived.Test.YtpnmbdhjmlidaaaB
namespace Go.Proofs.Ytpnmbdhjmlidaaa.T
open Go.RowKit Go.Proofs.YtpnmbdhjmlidaaaW.PrintWords Go.Proofs.YtpnmbdhjmlidaaaW.PrintLast Go.Proofs.YtpnmbdhjmlidaaaW.PrintMore
set_option linter.unusedVariables false
set_option linter.unusedSimpArgs false
section
variable {P : Program}
theorem step_append_eq {ops : Array Oper} {o : Oper} {a : Act} {w : World} {K : Act → World → Prop} {Q : Exit → Act → World → Prop} {E : Prop}
    (hg : o.guard = none) (d x : Operand) (dT sT : TypeId) (hop : o.op = Op.call { callee := Callee.builtin Builtin.append, args := #[d, x], argTypes := #[dT, sT] })
    (v u : Value) (hd : a.eval d = v) (hx : a.eval x = u) {v' : Value} {w' : World} (hr : (Builtin.append_ #[dT, sT] o.type #[v, u]).run P w = .ok v' w') (hK : K (a.put o.dst v') w') :
    if Region.wanted o (yielded ops a.tmps) = true then Oper.wp P o a w K Q else E := by
  have hw : Region.wanted o (yielded ops a.tmps) = true := by simp [Region.wanted, hg]
  rw [if_pos hw]
  exact Lib.wp_append_run w d x dT sT hop v u hd hx v' w' hr hK
/-- clear of a part of a row of the call's own. -/
theorem run_clear_row (w : World) (t e ty : TypeId) (z : Value) (zs : List Value) (ht : P.underlying t = some (.slice e)) (hv : ∀ w, (zeroValue e).run P w = .ok z w) (g o n c : Nat) (cur : Array Value) (te : TypeId) (hn : 0 < n)
    (hzs : (Builtin.zeroCells z.cells n).toList = zs) (h1 : ∀ u ∈ zs, u.oneCell' = true) (hg : w.heap[g]? = some (.cells cur te (0, 0))) (hfit : o + zs.length ≤ cur.size) :
    (Builtin.clear_ #[t] ty #[.slice (some ⟨g, o, none⟩) n c]).run P w = .ok (.tuple #[]) (w.setRow g (cur.toList.take o ++ zs ++ cur.toList.drop (o + zs.length)).toArray) := by
  have hst := run_storeCells_at P g o te zs 0 cur w hg (by simpa using hfit) h1
  simp only [Nat.add_zero] at hst
  obtain ⟨m, rfl⟩ : ∃ m, n = m + 1 := ⟨n - 1, by omega⟩
  simp [Builtin.clear_, run_underlying ht, hv, hzs, hst]
end
theorem zero2 : (Builtin.zeroCells (Value.agg #[Value.int .i64 0, Value.int .i64 0]).cells 1).toList = [Value.int .i64 0, Value.int .i64 0] := by
  apply List.ext_getElem
  · simp [Builtin.zeroCells, Value.cells]
  · intro i h1 h2
    rcases i with _ | _ | i
    · simp [Builtin.zeroCells, Value.cells]
    · simp [Builtin.zeroCells, Value.cells]
    · simp at h2; omega
def Del (w : World) (base : Nat) (A : Option Addr) (n : Nat) (zs : List Value) (e : Ending) (w' : World) : Prop :=
  ∃ c, e = .returned (.slice A n c) ∧ w'.ownsRow base 50 2 (.slice A n c) n zs ∧ w.grownBy w' (Row0 A)
set_option maxHeartbeats 4000000 in
set_option maxRecDepth 100000 in
theorem delete_own (A0 : Option Addr) (c0 n i j : Nat) (base : Nat) (xs : List Value) (w : World) (hown : w.ownsRow base 50 2 (.slice A0 n c0) n xs) (h1x : ∀ u ∈ xs, u.oneCell' = true) (hi : i < n) (hj : j = i + 1) :
    Calls Try.prog 19 #[.slice A0 n c0, .int .i64 i, .int .i64 j] w fun e w' => Del w base A0 (n - 1) (xs.take (i * 2) ++ xs.drop ((i + 1) * 2)) e w' := by
  rcases hown.2 with ⟨h, hn⟩ | ⟨g, cap, cur, h, hb, hg, hnc, hcm, hcs, hx⟩
  · omega
  injection h with ha _ hc
  subst ha; subst hc
  obtain ⟨i0, hi0, hz0, hzs, hzb⟩ := info_parts info_run
  have hxl : xs.length = n * 2 := hown.1
  have hdl : (xs.drop ((i + 1) * 2)).length = (n - j) * 2 := by rw [List.length_drop, hxl]; omega
  obtain ⟨cur1, hc1⟩ : ∃ c, c = cur.toList.take (i * 2) ++ xs.drop ((i + 1) * 2) ++ cur.toList.drop (i * 2 + (xs.drop ((i + 1) * 2)).length) := ⟨_, rfl⟩
  obtain ⟨l1, l2⟩ := list_unshift cur.toList xs n i 2 hx hi (by rw [Array.length_toList]; omega) cur1 hc1
  obtain ⟨A1, hA1, hsrc⟩ : ∃ A : Addr, (if c0 = j then some (⟨g, 0, none⟩ : Addr) else some ⟨g, j * 2, none⟩) = some A ∧ (∀ t u, (xs.drop ((i + 1) * 2))[t]? = some u → w.cell? (A.add t) = some u) := by
    by_cases h : c0 = j
    · refine ⟨⟨g, 0, none⟩, by simp [h], fun t u hu => ?_⟩
      have h0 : (xs.drop ((i + 1) * 2)).length = 0 := by rw [hdl]; omega
      rw [List.length_eq_zero_iff.1 h0] at hu
      simp at hu
    · refine ⟨⟨g, j * 2, none⟩, by simp [h], fun t u hu => ?_⟩
      rw [Addr.add_lit]
      rw [List.getElem?_drop, ← hx, List.getElem?_take] at hu
      split at hu
      · rw [Array.getElem?_toList] at hu
        simp only [World.cell?, hg, hj]; exact hu
      · cases hu
  have happ : ∀ ty cc, (Builtin.append_ #[46, 46] ty #[.slice (some ⟨g, 0, none⟩) i c0, .slice (some A1) (n - j) cc]).run Try.prog w.drew = .ok (.slice (some ⟨g, 0, none⟩) (i + (n - j)) c0) (w.drew.setRow g cur1.toArray) := fun ty cc => by
    have := run_append_room (P := Try.prog) w.drew 46 ty 50 i0 Try.underlying46 hi0 g i c0 cur hg A1 (n - j) cc (xs.drop ((i + 1) * 2)) (by rw [hdl, hzs]) hsrc (fun u hu => h1x u (List.mem_of_mem_drop hu)) (by omega) (by rw [hdl, hzs, hcs]; omega)
    rw [hzs] at this
    rw [hc1]; exact this
  obtain ⟨W1, hW1⟩ : ∃ W1, W1 = w.drew.setRow g cur1.toArray := ⟨_, rfl⟩
  rw [← hW1] at happ
  have hg1 : W1.heap[g]? = some (.cells cur1.toArray 50 (0, 0)) := by rw [hW1]; exact setRow_heap w.drew g cur _ _ _ hg
  have hnm : i + (n - j) = n - 1 := by omega
  obtain ⟨cur2, hc2⟩ : ∃ c, c = cur1.take ((n - 1) * 2) ++ [Value.int .i64 0, Value.int .i64 0] ++ cur1.drop ((n - 1) * 2 + [Value.int .i64 0, Value.int .i64 0].length) := ⟨_, rfl⟩
  have hcl : ∀ ty cc, (Builtin.clear_ #[46] ty #[.slice (some ⟨g, (i + (n - j)) * 2, none⟩) (n - (i + (n - j))) cc]).run Try.prog W1 = .ok (.tuple #[]) (W1.setRow g cur2.toArray) := fun ty cc => by
    rw [hnm, show n - (n - 1) = 1 by omega, hc2]
    exact run_clear_row W1 46 50 ty _ _ Try.underlying46 Try.zeroValue50 g ((n - 1) * 2) 1 cc cur1.toArray 50 (by decide) zero2 (by simp [Value.oneCell']) hg1 (by simp only [List.size_toArray, List.length_cons, List.length_nil]; rw [l1, Array.length_toList]; omega)
  have l3 : cur2.length = cur.size := by
    rw [hc2]; simp only [List.length_append, List.length_take, List.length_drop, List.length_cons, List.length_nil, l1, Array.length_toList]; omega
  have l4 : cur2.take ((n - 1) * 2) = xs.take (i * 2) ++ xs.drop ((i + 1) * 2) := by
    rw [← l2, hc2, List.append_assoc, List.take_append_of_le_length (by rw [List.length_take, l1, Array.length_toList]; omega), List.take_take, Nat.min_self]
  have HJ := Aside0.mk hj
  have hij : ((i : Int) == (j : Int)) = false := by simp; omega
  have hijI : ¬ ((i : Int) = (j : Int)) := by omega
  have e1 : i ≤ j := by omega
  have e2 : j ≤ n := by omega
  have e3 : i ≤ c0 := by omega
  have e4 : j ≤ c0 := by omega
  have e5 : (i : Int) ≤ (j : Int) := by omega
  have e6 : (j : Int) ≤ (n : Int) := by omega
  have e7 : ¬ (c0 = i) := by omega
  have e8 : i + (n - j) ≤ n := by omega
  have e9 : ¬ (c0 = i + (n - j)) := by omega
  have e10 : ¬ (n = i) := by omega
  have e11 : i + (n - j) ≤ c0 := by omega
  have e12 : ((i + (n - j) : Nat) : Int) ≤ (n : Int) := by omega
  have HAPP := Aside0.mk happ
  have HCL := Aside0.mk hcl
  have HA1 := Aside0.mk hA1
  have HG1 := Aside0.mk hg1
  have HW1 := Aside0.mk hW1
  have HL3 := Aside0.mk l3
  have HL4 := Aside0.mk l4
  have HNM := Aside0.mk hnm
  have HCS := Aside0.mk hcs
  have HCM := Aside0.mk hcm
  clear hown h1x hi0 hz0 hzs hzb hxl hdl hc1 l1 l2 hsrc happ hW1 hg1 hnm hc2 hcl l3 l4 hg hcs hx hcm hA1 hj
  go_enter Try.func19, Try.ntmps19
  go_wp2_with fail
  have hA1 := HA1.out
  have happ := HAPP.out
  refine start_ (n := 8) (S := fun w' => True) (ds := []) #[false, false, false, false, false, false, false, false] (by kernel_rfl) rfl rfl trivial (fun hHeld => ?_)
  refine pure_ (i := 0) (N := some 20) (v := ?_) (a' := ?_) #[true, false, false, false, false, false, false, false] rfl rfl (by kernel_rfl) (fun _ _ _ h => h) (Or.inl ⟨by rfl, ?_⟩) ?_ ?_
  rotate_left
  · intro w'
    go_simp
    with_reducible rfl
  rotate_left
  · simp only [Act.put, List.setIfInBounds_toArray, List.set_cons_zero, List.set_cons_succ, i64_w, i32_w]
    rfl
  refine pure_ (i := 1) (N := some 21) (v := ?_) (a' := ?_) #[true, true, false, false, false, false, false, false] rfl rfl (by kernel_rfl) (fun _ _ _ h => h) (Or.inl ⟨by rfl, ?_⟩) ?_ ?_
  rotate_left
  · intro w'
    go_simp
    with_reducible rfl
  rotate_left
  · simp only [Act.put, List.setIfInBounds_toArray, List.set_cons_zero, List.set_cons_succ, i64_w, i32_w]
    rfl
  refine pure_ (i := 2) (N := some 22) (v := ?_) (a' := ?_) #[true, true, true, false, false, false, false, false] rfl rfl (by kernel_rfl) (fun _ _ _ h => h) (Or.inl ⟨by rfl, ?_⟩) ?_ ?_
  rotate_left
  · intro w'
    go_simp
    with_reducible rfl
  rotate_left
  · simp only [Act.put, List.setIfInBounds_toArray, List.set_cons_zero, List.set_cons_succ, i64_w, i32_w]
    rfl
  refine pure_ (i := 3) (N := some 23) (v := ?_) (a' := ?_) #[true, true, true, true, false, false, false, false] rfl rfl (by kernel_rfl) (fun _ _ _ h => h) (Or.inl ⟨by rfl, ?_⟩) ?_ ?_
  rotate_left
  · intro w'
    go_simp
    with_reducible rfl
  rotate_left
  · simp only [Act.put, List.setIfInBounds_toArray, List.set_cons_zero, List.set_cons_succ, i64_w, i32_w]
    rfl
  refine pure_ (i := 4) (N := some 24) (v := ?_) (a' := ?_) #[true, true, true, true, true, false, false, false] rfl rfl (by kernel_rfl) (fun _ _ _ h => h) (Or.inl ⟨by rfl, ?_⟩) ?_ ?_
  rotate_left
  · intro w'
    go_simp
    with_reducible rfl
  rotate_left
  · simp only [Act.put, List.setIfInBounds_toArray, List.set_cons_zero, List.set_cons_succ, i64_w, i32_w]
    rfl
  refine pure_ (i := 5) (N := some 25) (v := ?_) (a' := ?_) #[true, true, true, true, true, true, false, false] rfl rfl (by kernel_rfl) (fun _ _ _ h => h) (Or.inl ⟨by rfl, ?_⟩) ?_ ?_
  rotate_left
  · intro w'
    go_simp
    with_reducible rfl
  rotate_left
  · simp only [Act.put, List.setIfInBounds_toArray, List.set_cons_zero, List.set_cons_succ, i64_w, i32_w]
    rfl
  refine one_ (i := 6) (N := some 26) #[true, true, true, true, true, true, true, false] rfl rfl (by kernel_rfl) (by decide) (fun K hK => ?_)
  refine step_append_eq rfl _ _ 46 46 rfl _ _ rfl rfl (happ _ _) ?_
  refine hK.out _ _ trivial (fun hHeld => ?_)
  clear hK K
  refine norm_ (a' := ?_) ?_ ?_
  rotate_left
  · show Act.put _ (some 26) _ = _
    simp only [Act.put, List.setIfInBounds_toArray, List.set_cons_zero, List.set_cons_succ, i64_w, i32_w]
    rfl
  refine pure_ (i := 7) (N := some 0) (v := ?_) (a' := ?_) #[true, true, true, true, true, true, true, true] rfl rfl (by kernel_rfl) (fun _ _ _ h => h) (Or.inl ⟨by rfl, ?_⟩) ?_ ?_
  rotate_left
  · intro w'
    go_simp
    with_reducible rfl
  rotate_left
  · simp only [Act.put, List.setIfInBounds_toArray, List.set_cons_zero, List.set_cons_succ, i64_w, i32_w]
    rfl
  refine done_ (by kernel_rfl) ?_
  clear hA1 happ
  have hcl := HCL.out
  go_wp2_with fail
  go_ret
  have hcs := HCS.out
  have hcm := HCM.out
  refine ⟨c0, by rw [← HNM.out]; rfl, ⟨?_, .inr ⟨g, c0, cur2.toArray, rfl, hb, setRow_heap W1 g cur1.toArray _ _ _ HG1.out, by omega, hcm, ?_, HL4.out⟩⟩, ?_⟩
  · rw [← HL4.out, List.length_take, HL3.out]; omega
  · rw [List.size_toArray, HL3.out, hcs]
  · refine grown_setRow ?_ (.inl rfl) _
    rw [HW1.out]
    exact grown_setRow (grown_drew w _) (.inl rfl) _
end Go.Proofs.Ytpnmbdhjmlidaaa.T
