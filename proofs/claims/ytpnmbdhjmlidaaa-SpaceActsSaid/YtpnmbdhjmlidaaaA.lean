/- Laws of no program: copy at k cells an element; lists of cells that are moved. -/
import Derived.Laws.CopyRow
import Derived.Laws.AppendOwn
import Derived.Lib.Overlaps
import Derived.Lib.AppendZerosOnto
import Derived.Laws.NewBlocks
import Derived.Laws.Externs
import Derived.Test.YtpnmbdhjmlidaaaWMore
import Derived.Test.YtpnmbdhjmlidaaaChecked
namespace Go.Proofs.Ytpnmbdhjmlidaaa.T
open Go.RowKit
set_option linter.unusedVariables false
set_option linter.unusedSimpArgs false
section
variable {P : Program}
/-- copy into a row of the call's own: all is read ahead of the writing. -/
theorem run_copy_rowK (k : Nat) (w : World) (dT sT ty elem : TypeId) (g o dLen dCap : Nat) (a : Addr) (sLen sCap : Nat) (cur : Array Value) (t : TypeId) (cs : List Value)
    (hu : P.underlying dT = some (.slice elem)) (hs : (P.info? elem).map (·.size) = some k)
    (hg : w.heap[g]? = some (.cells cur t (0, 0))) (hn : cs.length = Nat.min sLen dLen * k)
    (hsrc : ∀ j v, cs[j]? = some v → w.cell? (a.add j) = some v) (hfit : o + cs.length ≤ cur.size) (h1 : ∀ v ∈ cs, v.oneCell' = true) :
    (Builtin.copy_ #[dT, sT] ty #[.slice (some ⟨g, o, none⟩) dLen dCap, .slice (some a) sLen sCap]).run P w =
      .ok (goInt (Nat.min sLen dLen)) (w.setRow g (cur.toList.take o ++ cs ++ cur.toList.drop (o + cs.length)).toArray) := by
  have hl := run_loadCells_list (P := P) w a cs hsrc
  have hst := run_storeCells_at P g o t cs 0 cur w hg (by simpa using hfit) h1
  cases hq : P.info? elem with
  | none => simp [hq] at hs
  | some i =>
    have hi : i.size = k := by simpa [hq] using hs
    simp [Builtin.copy_, run_underlying hu, Builtin.lenOf, Builtin.firstCells, sizeOf, typeInfo, hq, hi, ← hn, hl, hst]
/-- The operation 'copy' where its run is known by an equation. -/
theorem wp_copy_eq (w : World) {o : Oper} {a : Act} {K : Act → World → Prop} {Q : Exit → Act → World → Prop} (d s : Operand) (t t' : TypeId)
    (ho : o.op = .call { callee := .builtin .copy, args := #[d, s], argTypes := #[t, t'] }) (v u : Value) (hd : a.eval d = v) (hs : a.eval s = u) {v' : Value} {w' : World}
    (hr : (Builtin.copy_ #[t, t'] o.type #[v, u]).run P w = .ok v' w') (h : K (a.put o.dst v') w') : o.wp P a w K Q := by
  unfold Oper.wp execOp
  simp only [ho, resolve, invoke, builtin, Sem.run_bind, Sem.run_pure, Result.andThen_ok, List.map_toArray, List.map_cons, List.map_nil, hd, hs, hr]
  exact h
theorem wpList_copy_eq (w : World) {ops : Array Oper} {rest : List Oper} {o : Oper} {a : Act} {Q : Exit → Act → World → Prop} (hgd : o.guard = none) (d s : Operand) (t t' : TypeId)
    (ho : o.op = .call { callee := .builtin .copy, args := #[d, s], argTypes := #[t, t'] }) (v u : Value) (hd : a.eval d = v) (hs : a.eval s = u) {v' : Value} {w' : World}
    (hr : (Builtin.copy_ #[t, t'] o.type #[v, u]).run P w = .ok v' w') (h : wpList P ops Q rest (a.put o.dst v') w') : wpList P ops Q (o :: rest) a w :=
  wpList_plain hgd fun _ hK => wp_copy_eq w d s t t' ho v u hd hs hr (hK _ _ h)
theorem step_copy_eq {ops : Array Oper} {o : Oper} {a : Act} {w : World} {K : Act → World → Prop} {Q : Exit → Act → World → Prop} {E : Prop}
    (hg : o.guard = none) (d x : Operand) (dT sT : TypeId) (hop : o.op = Op.call { callee := Callee.builtin Builtin.copy, args := #[d, x], argTypes := #[dT, sT] })
    (v u : Value) (hd : a.eval d = v) (hx : a.eval x = u) {v' : Value} {w' : World} (hr : (Builtin.copy_ #[dT, sT] o.type #[v, u]).run P w = .ok v' w') (hK : K (a.put o.dst v') w') :
    if Region.wanted o (yielded ops a.tmps) = true then Oper.wp P o a w K Q else E := by
  have hw : Region.wanted o (yielded ops a.tmps) = true := by simp [Region.wanted, hg]
  rw [if_pos hw]
  exact wp_copy_eq w d x dT sT hop v u hd hx hr hK
end
/-- One element moved into a row: what stood from i on goes one place up, then the new one is laid. -/
theorem list_shift (cur xs : List Value) (n i k : Nat) (y : List Value) (hy : y.length = k) (hxs : cur.take (n * k) = xs) (hi : i ≤ n) (hfit : (n + 1) * k ≤ cur.length) (cur1 cur2 : List Value)
    (h1 : cur1 = cur.take ((i + 1) * k) ++ xs.drop (i * k) ++ cur.drop ((i + 1) * k + (xs.drop (i * k)).length)) (h2 : cur2 = cur1.take (i * k) ++ y ++ cur1.drop (i * k + y.length)) :
    cur1.length = cur.length ∧ cur2.length = cur.length ∧ cur2.take ((n + 1) * k) = xs.take (i * k) ++ y ++ xs.drop (i * k) := by
  obtain ⟨N, hN⟩ : ∃ N, n * k = N := ⟨_, rfl⟩
  obtain ⟨I, hI⟩ : ∃ I, i * k = I := ⟨_, rfl⟩
  have hIN : I ≤ N := by rw [← hN, ← hI]; exact Nat.mul_le_mul_right _ hi
  have e1 : (i + 1) * k = I + k := by rw [Nat.add_mul, hI, Nat.one_mul]
  have e2 : (n + 1) * k = N + k := by rw [Nat.add_mul, hN, Nat.one_mul]
  rw [e1, hI] at h1
  rw [hI] at h2
  rw [e2] at hfit ⊢
  rw [hI]
  rw [hN] at hxs
  have hxl : xs.length = N := by rw [← hxs, List.length_take]; omega
  have hdl : (xs.drop I).length = N - I := by rw [List.length_drop, hxl]
  have l1 : cur1.length = cur.length := by
    rw [h1]; simp only [List.length_append, List.length_take, List.length_drop]; omega
  have l2 : cur2.length = cur.length := by
    rw [h2]; simp only [List.length_append, List.length_take, List.length_drop, l1, hy]; omega
  refine ⟨l1, l2, ?_⟩
  have hc1 : cur1.take I = xs.take I := by
    rw [h1, List.append_assoc, List.take_append_of_le_length (by rw [List.length_take]; omega), List.take_take, ← hxs, List.take_take]
    congr 1; omega
  have hd1 : cur1.drop (I + y.length) = xs.drop I ++ cur.drop (I + k + (xs.drop I).length) := by
    have hq : (cur.take (I + k)).length = I + y.length := by rw [List.length_take, hy]; omega
    rw [h1, List.append_assoc, ← hq, List.drop_left]
  rw [h2, hc1, hd1]
  have hl : (xs.take I ++ y ++ xs.drop I).length = N + k := by
    rw [List.length_append, List.length_append, List.length_take, hdl, hxl, hy]; omega
  rw [← List.append_assoc, ← hl, List.take_left]
/-- One element taken out of a row: what stood behind it goes one place down. -/
theorem list_unshift (cur xs : List Value) (n i k : Nat) (hxs : cur.take (n * k) = xs) (hi : i < n) (hfit : n * k ≤ cur.length) (cur1 : List Value)
    (h1 : cur1 = cur.take (i * k) ++ xs.drop ((i + 1) * k) ++ cur.drop (i * k + (xs.drop ((i + 1) * k)).length)) :
    cur1.length = cur.length ∧ cur1.take ((n - 1) * k) = xs.take (i * k) ++ xs.drop ((i + 1) * k) := by
  obtain ⟨I, hI⟩ : ∃ I, i * k = I := ⟨_, rfl⟩
  obtain ⟨M, hM⟩ : ∃ M, (n - 1) * k = M := ⟨_, rfl⟩
  have e1 : (i + 1) * k = I + k := by rw [Nat.add_mul, hI, Nat.one_mul]
  have e2 : n * k = M + k := by
    have : n = (n - 1) + 1 := by omega
    rw [this, Nat.add_mul, hM, Nat.one_mul]
  have hIM : I ≤ M := by rw [← hM, ← hI]; exact Nat.mul_le_mul_right _ (by omega)
  rw [e2] at hxs hfit
  rw [e1, hI] at h1
  rw [e1, hI, hM]
  have hxl : xs.length = M + k := by rw [← hxs, List.length_take]; omega
  have hdl : (xs.drop (I + k)).length = M - I := by rw [List.length_drop, hxl]; omega
  have hti : cur.take I = xs.take I := by rw [← hxs, List.take_take]; congr 1; omega
  refine ⟨by rw [h1]; simp only [List.length_append, List.length_take, List.length_drop]; omega, ?_⟩
  rw [h1, hti]
  have hl : (xs.take I ++ xs.drop (I + k)).length = M := by rw [List.length_append, List.length_take, hdl, hxl]; omega
  rw [← hl, List.take_left]
end Go.Proofs.Ytpnmbdhjmlidaaa.T
