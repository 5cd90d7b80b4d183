/- Words of my own over the model's worlds: what a world's block holds behind stores, new blocks and draws. No condition. -/
import Derived.Test.YtahagjdnjggdaaaT3
import Derived.Lib.SliceRun
namespace Go.Proofs.Ytahagjdnjggdaaa.T
open Go.RowKit Go.Proofs.YtahagjdnjggdaaaW.PrintWords Go.Proofs.YtahagjdnjggdaaaW.PrintLast Go.Proofs.YtahagjdnjggdaaaW.PrintMore
set_option linter.unusedVariables false
set_option linter.unusedSimpArgs false
def setIn (o : Obj) (i : Nat) (u : Value) : Obj := match o with
  | .cells c e f => .cells (c.setIfInBounds i u) e f
  | o => o
theorem setIn_cells (c : Array Value) (e : TypeId) (f : Nat × Nat) (i : Nat) (u : Value) : setIn (.cells c e f) i u = .cells (c.setIfInBounds i u) e f := rfl
theorem hs_set (W : World) (b i : Nat) (u : Value) (g : Nat) : (W.setCell ⟨b, i, none⟩ u).heap[g]? = if g = b then (W.heap[g]?).map (fun o => setIn o i u) else W.heap[g]? := by
  by_cases h : g = b
  · subst h
    rw [if_pos rfl]
    simp only [World.setCell, Array.getElem?_modify]
    simp
    cases W.heap[g]? with
    | none => rfl
    | some o => cases o <;> rfl
  · rw [if_neg h]
    exact Below.heap_setCell W ⟨b, i, none⟩ u g h
theorem hs_alloc (W : World) (o : Obj) (g : Nat) : (W.alloc o).heap[g]? = if g = W.heap.size then some o else W.heap[g]? := by
  by_cases h : g = W.heap.size
  · rw [if_pos h, h]; exact blk_new W o
  · rw [if_neg h]
    rcases Nat.lt_or_ge g W.heap.size with h1 | h1
    · exact Below.heap_alloc W o g h1
    · rw [Array.getElem?_eq_none h1, Array.getElem?_eq_none (by simp; omega)]
theorem hs_sizeN (W : World) (n : Nat) : (W.drewN n).heap.size = W.heap.size := rfl
theorem hs_drewN (W : World) (n g : Nat) : (W.drewN n).heap[g]? = W.heap[g]? := rfl
theorem hs_drew (W : World) (g : Nat) : (W.drew).heap[g]? = W.heap[g]? := rfl
theorem hs_same (W : World) (g i : Nat) (u : Value) : (W.setCell ⟨g, i, none⟩ u).heap[g]? = (W.heap[g]?).map (fun o => setIn o i u) := by rw [hs_set, if_pos rfl]
theorem hs_far (W : World) (b i : Nat) (u : Value) (g : Nat) (h : g ≠ b) : (W.setCell ⟨b, i, none⟩ u).heap[g]? = W.heap[g]? := by rw [hs_set, if_neg h]
theorem hs_new (W : World) (o : Obj) (g : Nat) (h : g = W.heap.size) : (W.alloc o).heap[g]? = some o := by rw [hs_alloc, if_pos h]
theorem hs_old (W : World) (o : Obj) (g : Nat) (h : g ≠ W.heap.size) : (W.alloc o).heap[g]? = W.heap[g]? := by rw [hs_alloc, if_neg h]
theorem hs_sizeS (W : World) (p : Addr) (u : Value) : (W.setCell p u).heap.size = W.heap.size := by simp [World.setCell]
theorem hs_sizeD (W : World) : W.drew.heap.size = W.heap.size := rfl
theorem ne_1 (s : Nat) : (s = s + 1) = False := by simp
theorem ne_2 (s : Nat) : (s = s + 1 + 1) = False := eq_false (by omega)
theorem ne_3 (s : Nat) : (s = s + 1 + 1 + 1) = False := eq_false (by omega)
theorem en_1 (s : Nat) : (s + 1 = s) = False := by simp
theorem en_2 (s : Nat) : (s + 1 + 1 = s) = False := eq_false (by omega)
theorem en_3 (s : Nat) : (s + 1 + 1 + 1 = s) = False := eq_false (by omega)

theorem wraps_i64 (n : Int) (h₀ : 0 ≤ n) (h₁ : n < 2 ^ 32) : IntKind.i64.wrap n = n := by rw [IntKind.wrap_i64]; omega
theorem or_word (x y : Int) (hx : 0 ≤ x) (hx2 : x ≤ 255) (hy : 0 ≤ y) (hy2 : y ≤ 255) : bits .or .i64 (x * 256) y = x * 256 + y := by
  have h1 : 0 ≤ x * 256 := by omega
  have h2 : (x * 256) % 2 ^ 8 = 0 := by omega
  have h3 : x * 256 < 2 ^ 32 := by omega
  have h4 : y < 2 ^ 8 := by omega
  have h5 : y < 2 ^ 32 := by omega
  have h6 : 32 ≤ IntKind.i64.bits := by decide
  generalize x * 256 = z at *
  with_reducible exact bits_join .i64 32 h6 wraps_i64 8 z y h1 h2 h3 hy h4 h5

set_option maxHeartbeats 400000 in
theorem word_any (b o n c : Nat) (x y : Int) (w : World) (h2 : 2 ≤ n) (hx : 0 ≤ x) (hx2 : x ≤ 255) (hy : 0 ≤ y) (hy2 : y ≤ 255) (c0 : w.cell? ⟨b, o, none⟩ = some (.int .u8 x)) (c1 : w.cell? ⟨b, o + 1, none⟩ = some (.int .u8 y)) :
    Calls Try.prog 21 #[.slice (some ⟨b, o, none⟩) n c] w fun e w' => e = .returned (.int .i64 (x * 256 + y)) ∧ Drawn0 w w' := by
  have q0 : (0 : Int) < n := by omega
  have q1 : (1 : Int) < n := by omega
  go_enter Try.func21, Try.ntmps21
  go_wp2_with fail
  go_quiet (fail)
  go_wp2
  go_ret
  exact ⟨by rw [or_word x y hx hx2 hy hy2]; rfl, ⟨⟨_, rfl⟩⟩⟩

theorem cutb (b o len cp k : Nat) (hk : k ≤ len) (hk2 : k < cp) : ∀ W : World, (Instr.slice 26 (.slice (some ⟨b, o, none⟩) len cp) (some (.int .i64 (k : Int))) none none).run Try.prog W = .ok (.slice (some ⟨b, o + k, none⟩) (len - k) (cp - k)) W := by
  intro W
  obtain ⟨i, hi, _, hsz, _⟩ := info_parts info5
  have h := cut_from (P := Try.prog) 26 5 .i64 Try.underlying26 hi 1 hsz (some ⟨b, o, none⟩) len cp (k : Int) (by omega) (by omega) W
  rw [h]
  rw [if_neg (by simp; omega)]
  simp [Addr.add]

theorem slices_Clone.calls (A0 : Option Addr) (n c0 : Nat) (l0 : List Int) (w : World) (hr0 : Kd.C (Kd.int .u8) w A0 n l0) (hn : l0.length = n) (hc0 : n ≤ c0) (hl : n < 140737488355328) :
    Calls Try.prog 22 #[.slice A0 n c0] w fun e w' => ∃ v0_ : Value, e = .returned (v0_) ∧ Kd.R (Kd.int .u8) 5 w' w.heap.size (fun _ => True) v0_ l0 ∧ Below w.heap.size w w' := by
  subst hn
  have HR0 := Aside0.mk hr0
  have HC0 := Aside0.mk hc0
  have HL := Aside0.mk hl
  cases A0 with
  | none =>
    have hnil : l0 = [] := by
      rcases Nat.eq_zero_or_pos l0.length with h | h
      · exact List.eq_nil_of_length_eq_zero h
      · obtain ⟨ad, c, e, _⟩ := Kd.C_get hr0 (0 : Int) 0 (by omega) (by omega)
        cases e
    subst hnil
    clear hr0 hc0 hl HR0 HC0 HL
    have hq := fun w => Lib.run_eql_slice_nil (P := Try.prog) w 26 5 none 0 c0 0 0 Try.underlying26
    go_enter Try.func22, Try.ntmps22
    go_wp2
    go_ret
    exact ⟨_, rfl, Kd.R_nil _ _ _ _ _, Below.refl _ _⟩
  | some a =>
    clear hr0 hc0 hl
    have hq := fun w => Lib.run_eql_slice_nil (P := Try.prog) w 26 5 (some a) l0.length c0 0 0 Try.underlying26
    go_enter Try.func22, Try.ntmps22
    go_wp2_with (first | ((with_reducible refine gate_dst (N := 5) rfl ?_); refine Kd.R_lit (Kd.int .u8) _ 5 ?hg (N := 5) ?hd (xs := ([] : List Int)) (inner := []) (ok := fun _ => True) (okp := fun _ => True) ?hr ?hp (fun _ hk => hk) trivial (Below.refl _ _) (Nat.le_refl _) (by simp) ?_; (case hd => rfl); (case hg => rfl); (case hr => first | (go_simp; done) | (go_simp; rfl)); (case hp => exact (Reps.none _ _)); intro v209 w3 ho4 hb hg_ hnew_; clear hg_ hnew_; have HO210 := Aside0.mk ho4; have HB2 := Aside0.mk hb; clear hb ho4) | ((with_reducible refine gate_builtin (b := .append) (xs := #[.tmp 5, .tmp 6]) rfl ?_); at_builtin; refine Kd.R_append_rows (Kd.int .u8) (w0 := w) w.heap.size rfl (.tmp 5) (.tmp 6) 26 5 (.int .u8 0) 1 rfl Try.underlying26 info5 rfl (by decide) (by omega) v209 [] l0 _ _ _ (fun _ => True) (fun _ => False) rfl rfl ?aO ?aR (fun _ _ h => h) (fun _ h => h.elim) ?aF ?aB ?aS ?aL ?_; (case aR => exact Kd.C_below HR0.out HB2.out); (case aB => exact HB2.out); (case aF => exact (fun _ _ => trivial)); (case aO => exact HO210.out); (case aS => exact HB2.out.size); (case aL => have := HL.out; simp; omega); intro v212 w5 ho hb hg hat; have HB3 := Aside0.mk hb; have HO213 := Aside0.mk ho; clear ho hb hg hat))
    go_ret
    exact ⟨_, rfl, by simpa using HO213.out, HB3.out⟩

section
variable {α : Type} {P : Program} {ops : Array Oper} {rest : List Oper} {o : Oper} {a : Act} {Q : Exit → Act → World → Prop}
/-- append(v, x): the box of x lies at g, however the walk writes the size. -/
theorem S_appendG (d : Kd α) {w0 W : World} (base : Nat) (hgd : o.guard = none) (s x : Operand) (t e : TypeId) (z : Value) (bytes : Nat)
    (ho : o.op = .call { callee := .builtin .append, args := #[s, x], argTypes := #[t, t] })
    (ht : P.underlying t = some (.slice e)) (hinfo : (P.info? e).map (fun i => (i.zero, i.size, i.bytes)) = some (some z, d.sz, bytes)) (hz : z.cells.size = d.sz) (hs0 : 0 < d.sz) (hb0 : 0 < bytes)
    (v : Value) (xs : List α) (p : α) (cs : List Value) (ok okp : Nat → Prop) (g : Nat) (hs : a.eval s = v) (hx : a.eval x = .slice (some ⟨g, 0, none⟩) 1 1) (hgW : g = W.heap.size) (hp : d.M W base okp p cs) (hokp : ∀ k, okp k → ok k ∧ some k ≠ v.ownBlock) (hfresh : ∀ k, W.heap.size ≤ k → ok k)
    (HO : Kd.S d e W base (fun k => ok k ∧ ¬ okp k) v xs) (HB : Below base w0 W) (hbase : base ≤ W.heap.size) (hl : (xs.length + 1) * bytes ≤ 140737488355328)
    (h : ∀ v1 w1, Kd.S d e w1 base ok v1 (xs ++ [p]) → Below base w0 w1 → W.grownBy w1 v.ownBlock → (v1.ownBlock = v.ownBlock ∨ ∃ b, v1.ownBlock = some b ∧ W.heap.size ≤ b) → wpList P ops Q rest (a.put o.dst v1) w1) :
    wpList P ops Q (o :: rest) a (W.alloc (.cells cs.toArray e)) := by
  subst hgW
  exact Kd.S_append d base hgd s x t e z bytes ho ht hinfo hz hs0 hb0 v xs p cs ok okp hs hx hp hokp hfresh HO HB hbase hl h
end
end Go.Proofs.Ytahagjdnjggdaaa.T
