/- Grids in memory: New, at, Put. -/
import Derived.Test.YtffmhpfdfcpniaaA
namespace Go.Proofs.Ytffmhpfdfcpniaa.T
open Go.RowKit Go.Proofs.YtffmhpfdfcpniaaW.PrintWords Go.Proofs.YtffmhpfdfcpniaaW.PrintLast Go.Proofs.YtffmhpfdfcpniaaW.PrintMore Go.Proofs.Ytffmhpfdfcpniaa.PH
set_option linter.unusedVariables false
set_option linter.unusedSimpArgs false
def iv (xs : List Int) : Array Value := (xs.map (Value.int .i64)).toArray
theorem made_iv (m : Nat) : madeCells #[.int .i64 0] m = iv (List.replicate m 0) := by
  unfold madeCells iv
  rw [List.map_replicate]
  apply Array.ext
  · simp
  · intro i h1 h2
    simp [Nat.mod_one]
structure Gr (w : World) (base g h : Nat) (n m : Nat) (xs : List Int) : Prop where
  lo : base ≤ g
  loh : base ≤ h
  ne : g ≠ h
  cell : w.heap[g]? = some (.cells #[.int .i64 n, .int .i64 m, .slice (some ⟨h, 0, none⟩) xs.length xs.length] 112 (0, 0))
  row : w.heap[h]? = some (.cells (iv xs) 3 (0, 0))
  len : xs.length = n * m
section
variable {w w' : World} {base g h n m : Nat} {xs : List Int}
theorem Gr.c0 (H : Gr w base g h n m xs) : w.cell? ⟨g, 0, none⟩ = some (.int .i64 n) := by simp only [World.cell?, H.cell]; rfl
theorem Gr.c1 (H : Gr w base g h n m xs) : w.cell? ⟨g, 1, none⟩ = some (.int .i64 m) := by simp only [World.cell?, H.cell]; rfl
theorem Gr.c2 (H : Gr w base g h n m xs) : w.cell? ⟨g, 2, none⟩ = some (.slice (some ⟨h, 0, none⟩) xs.length xs.length) := by simp only [World.cell?, H.cell]; rfl
theorem Gr.at_ (H : Gr w base g h n m xs) (i : Nat) (x : Int) (hx : xs[i]? = some x) : w.cell? ⟨h, i, none⟩ = some (.int .i64 x) := by
  simp only [World.cell?, H.row]
  show (iv xs)[i]? = _
  unfold iv
  rw [List.getElem?_toArray, List.getElem?_map, hx]; rfl
theorem Gr.fz (H : Gr w base g h n m xs) (i : Nat) : w.frozen? ⟨h, i, none⟩ = false := by simp [World.frozen?, H.row]
theorem Gr.below (H : Gr w base g h n m xs) (hb : Below w.heap.size w w') : Gr w' base g h n m xs :=
  ⟨H.lo, H.loh, H.ne, (hb.block g (Array.getElem?_eq_some_iff.1 H.cell).1).trans H.cell, (hb.block h (Array.getElem?_eq_some_iff.1 H.row).1).trans H.row, H.len⟩
theorem Gr.put (H : Gr w base g h n m xs) (i : Nat) (x : Int) : Gr (w.setCell ⟨h, i, none⟩ (.int .i64 x)) base g h n m (xs.set i x) := by
  refine ⟨H.lo, H.loh, H.ne, ?_, ?_, by rw [List.length_set]; exact H.len⟩
  · rw [Below.heap_setCell w ⟨h, i, none⟩ _ g H.ne, List.length_set]; exact H.cell
  · have hlt := (Array.getElem?_eq_some_iff.1 H.row).1
    have hg := (Array.getElem?_eq_some_iff.1 H.row).2
    unfold World.setCell
    rw [Array.getElem?_modify]
    simp only [if_true, H.row, Option.map_some]
    unfold iv
    congr 2
    rw [List.map_set]
    simp
theorem Gr.putBelow (H : Gr w base g h n m xs) (i : Nat) (v : Value) : Below base w (w.setCell ⟨h, i, none⟩ v) := (Below.refl base w).setCell (p := ⟨h, i, none⟩) H.loh _
end
def NewP (w : World) (n : Nat) (xs : List Int) (e : Ending) (w' : World) : Prop := ∃ g h, e = .returned (.tuple #[.pointer (some ⟨g, 0, none⟩), .int .i64 0]) ∧ Gr w' w.heap.size g h n n xs ∧ Below w.heap.size w w'
set_option maxHeartbeats 1000000 in
set_option maxRecDepth 100000 in
theorem new_g (n : Nat) (h1 : 1 ≤ n) (h8 : n ≤ 8) (w : World) :
    Calls Try.prog 69 #[.int .i64 n, .int .i64 n] w (NewP w n (List.replicate (n * n) 0)) := by
  obtain ⟨p, hp⟩ : ∃ p, n * n = p := ⟨_, rfl⟩
  have hp64 : p ≤ 64 := by rw [← hp]; exact Nat.mul_le_mul h8 h8
  have hpI : (n : Int) * (n : Int) = (p : Int) := by rw [← hp, Int.natCast_mul]
  have hmk := print_make (P := Try.prog) 22 3 .i64 8 Try.underlying22 (by kernel_rfl) (by decide) p (by omega)
  have d1 : decide ((n : Int) < 0) = false := decide_eq_false (by omega)
  have d2 : decide (64 < (n : Int)) = false := decide_eq_false (by omega)
  have d3 : ¬ (64 < (n : Int)) := by omega
  have HP := Aside0.mk hp
  clear hp
  go_enter Try.func69, Try.ntmps69
  go_wp2_with fail
  go_ret2
  have hb : Below w.heap.size w (w.alloc (.cells (madeCells #[.int .i64 0] p) 3)) := below_alloc (Below.refl _ _) _
  refine ⟨w.heap.size + 1, w.heap.size, rfl, ⟨by omega, Nat.le_refl _, by omega, ?_, ?_, by rw [List.length_replicate]⟩, below_alloc hb _⟩
  · have := heap_alloc_new (w.alloc (.cells (madeCells #[.int .i64 0] p) 3)) (.cells #[.int .i64 n, .int .i64 n, .slice (some ⟨w.heap.size, 0, none⟩) p p] 112)
    rw [World.size_alloc] at this
    rw [List.length_replicate, HP.out]; exact this
  · rw [heap_alloc_old _ _ (by simp), heap_alloc_new, HP.out, made_iv]
set_option maxHeartbeats 1000000 in
set_option maxRecDepth 100000 in
theorem at_g (base g h n m r c p : Nat) (xs : List Int) (w : World) (H : Gr w base g h n m xs) (hr : r < n) (hc : c < m) (hn : n ≤ 8) (hm : m ≤ 8) (hp : r * m + c = p) :
    Calls Try.prog 78 #[.pointer (some ⟨g, 0, none⟩), .int .i64 r, .int .i64 c] w fun e w' => e = .returned (.tuple #[.int .i64 p, .int .i64 0]) ∧ w' = w := by
  have c0 := H.c0
  have c1 := H.c1
  obtain ⟨q, hq⟩ : ∃ q, r * m = q := ⟨_, rfl⟩
  have hq64 : q ≤ 64 := by rw [← hq]; exact Nat.mul_le_mul (by omega : r ≤ 8) hm
  have hqI : (r : Int) * (m : Int) = (q : Int) := by rw [← hq, Int.natCast_mul]
  have hpI : (q : Int) + (c : Int) = (p : Int) := by omega
  have hp' : p ≤ 100 := by omega
  have d1 : decide ((r : Int) < 0) = false := decide_eq_false (by omega)
  have d2 : decide (n ≤ r) = false := decide_eq_false (by omega)
  have d2' : ¬ n ≤ r := by omega
  have d3 : decide ((c : Int) < 0) = false := decide_eq_false (by omega)
  have d4 : decide (m ≤ c) = false := decide_eq_false (by omega)
  have d4' : ¬ m ≤ c := by omega
  clear H hp hq
  go_enter Try.func78, Try.ntmps78
  go_wp2_with fail
  go_ret2
  exact ⟨rfl, rfl⟩
set_option maxHeartbeats 1000000 in
set_option maxRecDepth 100000 in
theorem put_g (base g h n m r c p : Nat) (x : Int) (xs : List Int) (w : World) (H : Gr w base g h n m xs) (hr : r < n) (hc : c < m) (hn : n ≤ 8) (hm : m ≤ 8) (hp : r * m + c = p) :
    Calls Try.prog 70 #[.pointer (some ⟨g, 0, none⟩), .int .i64 r, .int .i64 c, .int .i64 x] w fun e w' => e = .returned (.int .i64 0) ∧ w' = w.setCell ⟨h, p, none⟩ (.int .i64 x) := by
  have HA := Aside0.mk (at_g base g h n m r c p xs w H hr hc hn hm hp)
  have c2 := H.c2
  have hpl : p < xs.length := by
    rw [H.len, ← hp]
    have : r * m + m ≤ n * m := by rw [← Nat.succ_mul]; exact Nat.mul_le_mul_right m hr
    omega
  obtain ⟨y, hy⟩ : ∃ y, xs[p]? = some y := ⟨_, List.getElem?_eq_getElem hpl⟩
  have hcell := H.at_ p y hy
  have hf := H.fz p
  have hl64 : xs.length ≤ 64 := by rw [H.len]; exact Nat.mul_le_mul hn hm
  have hp0 : (0 : Int) ≤ (p : Int) := by omega
  have hpI : (p : Int) < (xs.length : Int) := by omega
  clear H hy hp
  go_enter Try.func70, Try.ntmps70
  go_wp2_with (go_at_call 78; (with_reducible refine HA.out.mono ?_); rintro e_ w2 ⟨rfl, hw⟩; rw [hw]; clear hw w2)
  go_ret
  exact ⟨rfl, rfl⟩
end Go.Proofs.Ytffmhpfdfcpniaa.T
