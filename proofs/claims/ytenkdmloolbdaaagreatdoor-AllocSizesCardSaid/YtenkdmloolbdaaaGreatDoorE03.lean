import Derived.Test.YtenkdmloolbdaaaGreatDoorE01
import Derived.Test.YtenkdmloolbdaaaGreatDoorE02
import Derived.Test.YtenkdmloolbdaaaGreatDoorProg
import Derived.Maps.OwnSet
import Derived.Maps.OwnOps
import Derived.Maps.Views
set_option linter.unusedVariables false
set_option linter.unusedSimpArgs false
set_option maxHeartbeats 8000000
set_option maxRecDepth 100000
section
namespace Go.Proofs.YtenkdmloolbdaaaGreatDoor.T
open Go.RowKit Go.Proofs.YtenkdmloolbdaaaGreatDoorW.PrintWords Go.Proofs.YtenkdmloolbdaaaGreatDoorW.PrintLast Go.Proofs.YtenkdmloolbdaaaGreatDoorW.PrintMore
theorem set_block {w : World} {b i : Nat} {cs : Array Value} {t : TypeId} {fr : Nat × Nat} (h : w.heap[b]? = some (.cells cs t fr)) (v : Value) : (w.setCell ⟨b, i, none⟩ v).heap[b]? = some (.cells (cs.setIfInBounds i v) t fr) := by
 unfold World.setCell
 rw [Array.getElem?_modify]
 simp [h]
def Blk (w : World) (b : Nat) (cs : Array Value) (t : TypeId) : Prop := w.heap[b]? = some (.cells cs t (0, 0))
section
variable {w w' : World} {b : Nat} {cs : Array Value} {t : TypeId}
theorem Blk.at (h : Blk w b cs t) (i : Nat) (v : Value) (hv : cs[i]? = some v) : w.cell? ⟨b, i, none⟩ = some v := by simp only [World.cell?]; rw [show w.heap[b]? = _ from h]; exact hv
theorem Blk.fz (h : Blk w b cs t) (i : Nat) : w.frozen? ⟨b, i, none⟩ = false := by simp only [World.frozen?]; rw [show w.heap[b]? = _ from h]; simp
theorem Blk.lt (h : Blk w b cs t) : b < w.heap.size := (Array.getElem?_eq_some_iff.1 (show w.heap[b]? = _ from h)).1
theorem Blk.below (h : Blk w b cs t) (hb : RowKit.Below w.heap.size w w') : Blk w' b cs t := (hb.block b h.lt).trans h
theorem Blk.alloc (h : Blk w b cs t) (o : Obj) : Blk (w.alloc o) b cs t := h.below (below_alloc (RowKit.Below.refl _ _) _)
theorem Blk.new (w : World) (cs : Array Value) (t : TypeId) : Blk (w.alloc (.cells cs t)) w.heap.size cs t := heap_alloc_new _ _
theorem Blk.new1 (w : World) (o : Obj) (cs : Array Value) (t : TypeId) : Blk ((w.alloc o).alloc (.cells cs t)) (w.heap.size + 1) cs t := by
 have := Blk.new (w.alloc o) cs t
 rw [World.size_alloc] at this
 exact this
theorem Blk.new2 (w : World) (o o2 : Obj) (cs : Array Value) (t : TypeId) : Blk (((w.alloc o).alloc o2).alloc (.cells cs t)) (w.heap.size + 1 + 1) cs t := by
 have := Blk.new ((w.alloc o).alloc o2) cs t
 rw [World.size_alloc, World.size_alloc] at this
 exact this
theorem Blk.set (h : Blk w b cs t) (i : Nat) (v : Value) : Blk (w.setCell ⟨b, i, none⟩ v) b (cs.setIfInBounds i v) t := set_block h v
theorem Blk.other (h : Blk w b cs t) (p : Addr) (hp : b ≠ p.block) (u : Value) : Blk (w.setCell p u) b cs t := (RowKit.Below.heap_setCell w p u b hp).trans h
end
structure Chg (F : Nat → Prop) (w w' : World) : Prop where
 os : w'.os = w.os
 tape : w'.tape = w.tape
 output : w'.output = w.output
 size : w.heap.size ≤ w'.heap.size
 block : ∀ b, b < w.heap.size → ¬ F b → w'.heap[b]? = w.heap[b]?
section
variable {F G : Nat → Prop} {w w1 w2 : World}
theorem Chg.refl (F : Nat → Prop) (w : World) : Chg F w w := ⟨rfl, rfl, rfl, Nat.le_refl _, fun _ _ _ => rfl⟩
theorem Chg.then (h : Chg F w w1) (k : Chg G w1 w2) (hG : ∀ b, b < w.heap.size → G b → F b) : Chg F w w2 :=
 ⟨k.os.trans h.os, k.tape.trans h.tape, k.output.trans h.output, Nat.le_trans h.size k.size, fun b hb hF => (k.block b (Nat.lt_of_lt_of_le hb h.size) (fun hg => hF (hG b hb hg))).trans (h.block b hb hF)⟩
theorem Chg.of_below (h : RowKit.Below w.heap.size w w1) : Chg F w w1 := ⟨h.os, h.tape, h.output, h.size, fun b hb _ => h.block b hb⟩
theorem Chg.below (h : Chg F w w1) (k : RowKit.Below w1.heap.size w1 w2) : Chg F w w2 := h.then (G := fun _ => False) (Chg.of_below k) (fun _ _ hg => hg.elim)
theorem Chg.drew (h : Chg F w w1) : Chg F w w1.drew := h.below (below_drew (RowKit.Below.refl _ _))
theorem setCell_size (w : World) (p : Addr) (v : Value) : (w.setCell p v).heap.size = w.heap.size := by unfold World.setCell; simp
theorem Chg.set (h : Chg F w w1) (p : Addr) (hp : p.block < w.heap.size → F p.block) (v : Value) : Chg F w (w1.setCell p v) :=
 ⟨h.os, h.tape, h.output, by rw [setCell_size]; exact h.size, fun b hb hF => (RowKit.Below.heap_setCell w1 p v b (fun e => hF (e ▸ hp (e ▸ hb)))).trans (h.block b hb hF)⟩
theorem Chg.to_below (h : Chg F w w1) (B : Nat) (hB : B ≤ w.heap.size) (hF : ∀ b, F b → B ≤ b) : RowKit.Below B w w1 :=
 ⟨h.os, h.tape, h.output, h.size, fun b hb => h.block b (Nat.lt_of_lt_of_le hb hB) (fun f => Nat.not_lt_of_le (hF b f) hb)⟩
theorem Blk.chg {b : Nat} {cs : Array Value} {t : TypeId} (h : Blk w b cs t) (k : Chg F w w1) (hb : ¬ F b) : Blk w1 b cs t := (k.block b h.lt hb).trans h
end
abbrev Kol := Nat → Nat
def Kol.ext (κ : Kol) (n i : Nat) : Kol := fun b => if b < n then κ b else i
theorem Kol.ext_old (κ : Kol) {n i b : Nat} (h : b < n) : κ.ext n i b = κ b := if_pos h
theorem Kol.ext_new (κ : Kol) {n i b : Nat} (h : n ≤ b) : κ.ext n i b = i := if_neg (by omega)
structure Upd (I : Nat → Prop) (κ : Kol) (w : World) (κ' : Kol) (w' : World) : Prop where
 kol : ∀ b, b < w.heap.size → κ' b = κ b
 chg : Chg (fun b => I (κ b)) w w'
section
variable {I J : Nat → Prop} {κ κ1 κ2 : Kol} {w w1 w2 : World}
theorem Upd.refl (I : Nat → Prop) (κ : Kol) (w : World) : Upd I κ w κ w := ⟨fun _ _ => rfl, Chg.refl _ _⟩
theorem Upd.then (h : Upd I κ w κ1 w1) (k : Upd J κ1 w1 κ2 w2) (hJ : ∀ c, J c → I c) : Upd I κ w κ2 w2 :=
 ⟨fun b hb => (k.kol b (Nat.lt_of_lt_of_le hb h.chg.size)).trans (h.kol b hb), h.chg.then k.chg (fun b hb hj => hJ _ (by rw [h.kol b hb] at hj; exact hj))⟩
theorem Upd.mono (h : Upd I κ w κ1 w1) (hJ : ∀ c, I c → J c) : Upd J κ w κ1 w1 := (Upd.refl J κ w).then h hJ
theorem Upd.below (h : Upd I κ w κ1 w1) (k : RowKit.Below w1.heap.size w1 w2) : Upd I κ w κ1 w2 := ⟨h.kol, h.chg.below k⟩
theorem Upd.of_below (κ : Kol) (k : RowKit.Below w.heap.size w w1) : Upd I κ w κ w1 := (Upd.refl I κ w).below k
theorem Upd.set (h : Upd I κ w κ1 w1) (p : Addr) (hp : p.block < w.heap.size → I (κ p.block)) (v : Value) : Upd I κ w κ1 (w1.setCell p v) := ⟨h.kol, h.chg.set p hp v⟩
theorem Upd.paint (h : Upd I κ w κ1 w1) (n i : Nat) (hn : w.heap.size ≤ n) : Upd I κ w (κ1.ext n i) w1 := ⟨fun b hb => (Kol.ext_old κ1 (Nat.lt_of_lt_of_le hb hn)).trans (h.kol b hb), h.chg⟩
end
structure BlkK (κ : Kol) (i : Nat) (w : World) (b : Nat) (cs : Array Value) (t : TypeId) : Prop where
 kol : κ b = i
 blk : Blk w b cs t
section
variable {I : Nat → Prop} {κ κ1 : Kol} {w w1 : World} {i b : Nat} {cs : Array Value} {t : TypeId}
theorem BlkK.upd (h : BlkK κ i w b cs t) (k : Upd I κ w κ1 w1) (hi : ¬ I i) : BlkK κ1 i w1 b cs t :=
 ⟨(k.kol b h.blk.lt).trans h.kol, h.blk.chg k.chg (fun hI => hi (h.kol ▸ hI))⟩
theorem BlkK.below (h : BlkK κ i w b cs t) (k : RowKit.Below w.heap.size w w1) : BlkK κ i w1 b cs t := ⟨h.kol, h.blk.below k⟩
theorem BlkK.set (h : BlkK κ i w b cs t) (j : Nat) (v : Value) : BlkK κ i (w.setCell ⟨b, j, none⟩ v) b (cs.setIfInBounds j v) t := ⟨h.kol, h.blk.set j v⟩
theorem BlkK.new (κ : Kol) (w : World) (i : Nat) (cs : Array Value) (t : TypeId) : BlkK (κ.ext w.heap.size i) i (w.alloc (.cells cs t)) w.heap.size cs t := ⟨Kol.ext_new κ (Nat.le_refl _), Blk.new w cs t⟩
end
structure GlobR (w : World) : Prop where
 g0 : w.cell? ⟨0, 0, none⟩ = some (.int .i64 8)
 g1 : w.cell? ⟨0, 1, none⟩ = some (.int .i64 0)
 g2 : w.cell? ⟨0, 2, none⟩ = some (.int .i64 16)
 g3 : w.cell? ⟨0, 3, none⟩ = some (.int .i64 0)
 g4 : w.cell? ⟨0, 4, none⟩ = some (.int .i64 32)
 g5 : w.cell? ⟨0, 5, none⟩ = some (.int .i64 1)
 g6 : w.cell? ⟨0, 6, none⟩ = some (.int .i64 64)
 g7 : w.cell? ⟨0, 7, none⟩ = some (.int .i64 2)
theorem GlobR.below {w w1 : World} (h : GlobR w) (k : RowKit.Below w.heap.size w w1) : GlobR w1 :=
 ⟨pw_cell_below k h.g0, pw_cell_below k h.g1, pw_cell_below k h.g2, pw_cell_below k h.g3, pw_cell_below k h.g4, pw_cell_below k h.g5, pw_cell_below k h.g6, pw_cell_below k h.g7⟩
def clS (c : Nat) : Nat := [8, 16, 32, 64].getD c 0
def clO (c : Nat) : Nat := [0, 0, 1, 2].getD c 0
def clN (c : Nat) : Nat := 64 <<< clO c / clS c
def clOf (n : Nat) : Nat := if n ≤ 8 then 0 else if n ≤ 16 then 1 else if n ≤ 32 then 2 else 3
theorem GlobR.s {w : World} (h : GlobR w) (c : Nat) (hc : c < 4) : w.cell? ⟨0, c * 2, none⟩ = some (.int .i64 (clS c)) := by
 match c, hc with
 | 0, _ => exact h.g0
 | 1, _ => exact h.g2
 | 2, _ => exact h.g4
 | 3, _ => exact h.g6
theorem GlobR.o {w : World} (h : GlobR w) (c : Nat) (hc : c < 4) : w.cell? ⟨0, c * 2 + 1, none⟩ = some (.int .i64 (clO c)) := by
 match c, hc with
 | 0, _ => exact h.g1
 | 1, _ => exact h.g3
 | 2, _ => exact h.g5
 | 3, _ => exact h.g7
theorem row_own (c : Nat) (hc : c < 4) (w : World) (h : GlobR w) :
 Calls Tryz.prog 171 #[.int .i64 c] w fun e w' => e = .returned (.tuple #[.agg #[.int .i64 (clS c), .int .i64 (clO c)], .int .i64 0]) ∧ RowKit.Below w.heap.size w w' := by
 have q0 := h.s c hc
 have q1 := h.o c hc
 have hlt := World.block_lt_of_cell? w _ q0
 have z0 : (0 : Int) ≤ (c : Int) := by omega
 have z1 : (c : Int) < 4 := by omega
 have d0 : decide ((c : Int) < 0) = false := decide_eq_false (by omega)
 have d1 : decide (4 ≤ (c : Int)) = false := decide_eq_false (by omega)
 have d2 : decide (4 ≤ c) = false := decide_eq_false (by omega)
 clear h
 obtain ⟨s, hs⟩ : ∃ s, clS c = s := ⟨_, rfl⟩
 obtain ⟨o, ho⟩ : ∃ o, clO c = o := ⟨_, rfl⟩
 rw [hs] at q0 ⊢
 rw [ho] at q1 ⊢
 clear hs ho
 go_enter Tryz.func171, Tryz.ntmps171
 go_wp2_with fail
 refine bodyPost_ret (results_ct rfl _ _ w.heap.size 249 #[.int .i64 s, .int .i64 o] (0, 0) _ rfl (Blk.new w _ _) Tryz.underlying249 rfl (by kernel_rfl)) rfl ?_
 exact ⟨rfl, below_alloc (RowKit.Below.refl _ _) _⟩
theorem size_own (c : Nat) (hc : c < 4) (w : World) (h : GlobR w) :
 Calls Tryz.prog 119 #[.int .i64 c] w fun e w' => e = .returned (.tuple #[.int .i64 (clS c), .int .i64 0]) ∧ RowKit.Below w.heap.size w w' := by
 have HR := ak (row_own c hc w h)
 clear h
 go_enter Tryz.func119, Tryz.ntmps119
 go_wp2_with (go_at_call 171; (with_reducible refine HR.1.mono ?_); rintro e_ w1 ⟨rfl, hb⟩; have HB := ak hb; clear hb)
 go_ret2
 exact ⟨rfl, below_alloc HB.1 _⟩
theorem order_own19 (c : Nat) (hc : c < 4) (w : World) (h : GlobR w) :
 Calls Tryz.prog 207 #[.int .i64 c] w fun e w' => e = .returned (.tuple #[.int .i64 (clO c), .int .i64 0]) ∧ RowKit.Below w.heap.size w w' := by
 have HR := ak (row_own c hc w h)
 clear h
 go_enter Tryz.func207, Tryz.ntmps207
 go_wp2_with (go_at_call 171; (with_reducible refine HR.1.mono ?_); rintro e_ w1 ⟨rfl, hb⟩; have HB := ak hb; clear hb)
 go_ret2
 exact ⟨rfl, below_alloc HB.1 _⟩
theorem pages_own (n : Nat) (h1 : 1 ≤ n) (h2 : n ≤ 1024) (w : World) :
 Calls Tryz.prog 104 #[.int .i64 n] w fun e w' => e = .returned (.tuple #[.int .i64 ((n + 63) / 64 : Nat), .int .i64 0]) ∧ w' = w := by
 have d0 : decide ((n : Int) < 1) = false := decide_eq_false (by omega)
 have d0' : decide (n < 1) = false := decide_eq_false (by omega)
 have d1 : decide (1024 < (n : Int)) = false := decide_eq_false (by omega)
 have d2 : decide (1024 < n) = false := decide_eq_false (by omega)
 go_enter Tryz.func104, Tryz.ntmps104
 go_wp2_with fail
 go_ret2
 refine ⟨?_, rfl⟩
 show Ending.returned (.tuple #[.int .i64 (((n : Int) + 64 - 1) / 64), .int .i64 0]) = _
 rw [show ((n : Int) + 64 - 1) / 64 = (((n + 63) / 64 : Nat) : Int) by omega]
theorem idx_row0 (w : World) : (Instr.index 250 (.agg #[.int .i64 8, .int .i64 0, .int .i64 16, .int .i64 0, .int .i64 32, .int .i64 1, .int .i64 64, .int .i64 2]) (.int .i64 0)).run Tryz.prog w = .ok (.agg #[.int .i64 8, .int .i64 0]) w := by
 simp [Instr.index, run_underlying Tryz.underlying250, asIntOf, part, Tryz.sizeOf249, Tryz.isAgg249]
theorem idx_row1 (w : World) : (Instr.index 250 (.agg #[.int .i64 8, .int .i64 0, .int .i64 16, .int .i64 0, .int .i64 32, .int .i64 1, .int .i64 64, .int .i64 2]) (.int .i64 1)).run Tryz.prog w = .ok (.agg #[.int .i64 16, .int .i64 0]) w := by
 simp [Instr.index, run_underlying Tryz.underlying250, asIntOf, part, Tryz.sizeOf249, Tryz.isAgg249]
theorem idx_row2 (w : World) : (Instr.index 250 (.agg #[.int .i64 8, .int .i64 0, .int .i64 16, .int .i64 0, .int .i64 32, .int .i64 1, .int .i64 64, .int .i64 2]) (.int .i64 2)).run Tryz.prog w = .ok (.agg #[.int .i64 32, .int .i64 1]) w := by
 simp [Instr.index, run_underlying Tryz.underlying250, asIntOf, part, Tryz.sizeOf249, Tryz.isAgg249]
theorem idx_row3 (w : World) : (Instr.index 250 (.agg #[.int .i64 8, .int .i64 0, .int .i64 16, .int .i64 0, .int .i64 32, .int .i64 1, .int .i64 64, .int .i64 2]) (.int .i64 3)).run Tryz.prog w = .ok (.agg #[.int .i64 64, .int .i64 2]) w := by
 simp [Instr.index, run_underlying Tryz.underlying250, asIntOf, part, Tryz.sizeOf249, Tryz.isAgg249]
attribute [local go_sem high] idx_row0 idx_row1 idx_row2 idx_row3
def RelOf (n : Nat) (w : World) (v9 : Value) (wr : World) : Prop := ∃ i : Nat, v9 = .int .i64 i ∧ i ≤ 4 ∧ (∀ j, j < i → clS j < n) ∧ RowKit.Below w.heap.size w wr
theorem of_class (n : Nat) (h1 : 1 ≤ n) (h2 : n ≤ 64) (w : World) (h : GlobR w) :
 Calls Tryz.prog 115 #[.int .i64 n] w fun e w' => e = .returned (.tuple #[.int .i64 (clOf n), .int .i64 0]) ∧ RowKit.Below w.heap.size w w' := by
 have d0 : decide ((n : Int) < 1) = false := decide_eq_false (by omega)
 have d0' : decide (n < 1) = false := decide_eq_false (by omega)
 obtain ⟨g0, g1, g2, g3, g4, g5, g6, g7⟩ := h
 go_enter Tryz.func115, Tryz.ntmps115
 go_wp2_with fail
 clear g0 g1 g2 g3 g4 g5 g6 g7
 go_loopw [9] (fun v9 wr => RelOf n w v9 wr) (fun v9 _ => 4 - (intOf v9).toNat)
 case atStart => exact ⟨0, rfl, Nat.zero_le _, fun j hj => absurd hj (Nat.not_lt_zero j), RowKit.Below.refl _ _⟩
 case round =>
  obtain ⟨i, rfl, hi, hno, hB⟩ := hrel
  have HNO := ak hno
  have HB := ak hB
  clear hno hB
  by_cases hi4 : i < 4
  ·by_cases hn : n ≤ clS i
   ·have HR := ak (show i = clOf n from by
     have := HNO.1
     unfold clOf
     match i, hi4, hn, this with
     | 0, _, hn, _ => simp [clS] at hn; rw [if_pos hn]
     | 1, _, hn, h => have h0 := h 0 (by omega); simp [clS] at hn h0; rw [if_neg (by omega), if_pos hn]
     | 2, _, hn, h => have h0 := h 1 (by omega); simp [clS] at hn h0; rw [if_neg (by omega), if_neg (by omega), if_pos hn]
     | 3, _, hn, h => have h0 := h 2 (by omega); simp [clS] at hn h0; rw [if_neg (by omega), if_neg (by omega), if_neg (by omega)])
    clear HNO
    match i, hi4, hn, HR with
    | 0, _, hn, HR =>
     have d1 : decide ((n : Int) ≤ 8) = true := decide_eq_true (by simp [clS] at hn; omega)
     have d2 : decide (n ≤ 8) = true := decide_eq_true (by simp [clS] at hn; omega)
     clear hn
     go_wp2_with fail
     go_ret2
     exact ⟨by rw [← HR.1]; rfl, below_alloc HB.1 _⟩
    | 1, _, hn, HR =>
     have d1 : decide ((n : Int) ≤ 16) = true := decide_eq_true (by simp [clS] at hn; omega)
     have d2 : decide (n ≤ 16) = true := decide_eq_true (by simp [clS] at hn; omega)
     clear hn
     go_wp2_with fail
     go_ret2
     exact ⟨by rw [← HR.1]; rfl, below_alloc HB.1 _⟩
    | 2, _, hn, HR =>
     have d1 : decide ((n : Int) ≤ 32) = true := decide_eq_true (by simp [clS] at hn; omega)
     have d2 : decide (n ≤ 32) = true := decide_eq_true (by simp [clS] at hn; omega)
     clear hn
     go_wp2_with fail
     go_ret2
     exact ⟨by rw [← HR.1]; rfl, below_alloc HB.1 _⟩
    | 3, _, hn, HR =>
     have d1 : decide ((n : Int) ≤ 64) = true := decide_eq_true (by simp [clS] at hn; omega)
     have d2 : decide (n ≤ 64) = true := decide_eq_true (by simp [clS] at hn; omega)
     clear hn
     go_wp2_with fail
     go_ret2
     exact ⟨by rw [← HR.1]; rfl, below_alloc HB.1 _⟩
   ·have HN2 := ak (show ∀ j, j < i + 1 → clS j < n from fun j hj => by
     rcases Nat.lt_or_ge j i with h | h
     ·exact HNO.1 j h
     ·obtain rfl : j = i := by omega
      omega)
    clear HNO
    match i, hi4, hn, HN2 with
    | 0, _, hn, HN2 =>
     have d1 : decide ((n : Int) ≤ 8) = false := decide_eq_false (by simp [clS] at hn; omega)
     have d2 : decide (n ≤ 8) = false := decide_eq_false (by simp [clS] at hn; omega)
     clear hn
     go_wp2_with fail
     go_roundw
     case rel => exact ⟨1, rfl, by omega, HN2.1, below_alloc HB.1 _⟩
     case measure => simp [intOf]
    | 1, _, hn, HN2 =>
     have d1 : decide ((n : Int) ≤ 16) = false := decide_eq_false (by simp [clS] at hn; omega)
     have d2 : decide (n ≤ 16) = false := decide_eq_false (by simp [clS] at hn; omega)
     clear hn
     go_wp2_with fail
     go_roundw
     case rel => exact ⟨2, rfl, by omega, HN2.1, below_alloc HB.1 _⟩
     case measure => simp [intOf]
    | 2, _, hn, HN2 =>
     have d1 : decide ((n : Int) ≤ 32) = false := decide_eq_false (by simp [clS] at hn; omega)
     have d2 : decide (n ≤ 32) = false := decide_eq_false (by simp [clS] at hn; omega)
     clear hn
     go_wp2_with fail
     go_roundw
     case rel => exact ⟨3, rfl, by omega, HN2.1, below_alloc HB.1 _⟩
     case measure => simp [intOf]
    | 3, _, hn, HN2 =>
     have d1 : decide ((n : Int) ≤ 64) = false := decide_eq_false (by simp [clS] at hn; omega)
     have d2 : decide (n ≤ 64) = false := decide_eq_false (by simp [clS] at hn; omega)
     clear hn
     go_wp2_with fail
     go_roundw
     case rel => exact ⟨4, rfl, by omega, HN2.1, below_alloc HB.1 _⟩
     case measure => simp [intOf]
  ·exfalso
   have := HNO.1 3 (by omega)
   simp [clS] at this
   omega
end Go.Proofs.YtenkdmloolbdaaaGreatDoor.T
end
section
namespace Go.Proofs.YtenkdmloolbdaaaGreatDoor.T
open Go.RowKit Go.Maps Go.WideShapes Go.Proofs.YtenkdmloolbdaaaGreatDoorW.PrintWords Go.Proofs.YtenkdmloolbdaaaGreatDoorW.PrintLast Go.Proofs.YtenkdmloolbdaaaGreatDoorW.PrintMore
theorem int_law : Keyed Tryz.prog 3 := int_keyed Tryz.underlying3
theorem zero_int (w : World) : (zeroValue 3).run Tryz.prog w = .ok (.int .i64 0) w := Tryz.zeroValue3 w
abbrev I64 (k : Int) : Prop := (Lit.int .i64 k).wf = true
def Views (D : DataW Unit) (f : Int → Option Int) : Prop := ∀ k, I64 k → Maps.has D (.int .i64 k) = (f k).isSome ∧ D.atKey (.int .i64 k) (.lit (.int .i64 0)) = .lit (.int .i64 ((f k).getD 0))
structure MapI (κ : Kol) (i : Nat) (w : World) (b n : Nat) (f : Int → Option Int) : Prop where
 kol : κ b = i
 own : ∃ D : DataW Unit, w.ownsMap Tryz.prog 3 (plainElem Tryz.prog 3) b n D ∧ Views D f
theorem owns_chg {F : Nat → Prop} {w w1 : World} {k : TypeId} {R : Value → Option (DataW Unit × List MemPlace)} {b n : Nat} {D : DataW Unit} (h : w.ownsMap Tryz.prog k R b n D) (hc : Chg F w w1) (hb : ¬ F b) : w1.ownsMap Tryz.prog k R b n D := by
 have hlt := h.lt
 obtain ⟨es, clock, h1, h2, h3, h4⟩ := h
 exact ⟨es, clock, (hc.block b hlt hb).trans h1, h2, h3, h4⟩
section
variable {I : Nat → Prop} {κ κ1 : Kol} {w w1 : World} {i b n : Nat} {f : Int → Option Int}
theorem MapI.upd (h : MapI κ i w b n f) (k : Upd I κ w κ1 w1) (hi : ¬ I i) : MapI κ1 i w1 b n f := by
 obtain ⟨hk, D, h1, h2⟩ := h
 exact ⟨(k.kol b h1.lt).trans hk, D, owns_chg h1 k.chg (fun e => hi (hk ▸ e)), h2⟩
theorem MapI.below (h : MapI κ i w b n f) (k : RowKit.Below w.heap.size w w1) : MapI κ i w1 b n f := by
 obtain ⟨hk, D, h1, h2⟩ := h
 exact ⟨hk, D, owns_chg (F := fun _ => False) h1 (Chg.of_below k) (fun e => e), h2⟩
end
theorem view_c {D : DataW Unit} {f : Int → Option Int} {k c : Int} (hV : Views D f) (hk : I64 k) (hat : D.atKey (.int .i64 k) (.lit (.int .i64 0)) = .lit (.int .i64 c)) : c = (f k).getD 0 := by
 have := (hV k hk).2
 rw [hat] at this
 injection this with e
 injection e
def TwoK (κ : Kol) (i : Nat) (w : World) (b n : Nat) (f g : Int → Option Int) : Prop :=
 ∃ m1 m2, BlkK κ i w b #[.map (some m1), .map (some m2)] 264 ∧ MapI κ (i + 1) w m1 n f ∧ MapI κ (i + 2) w m2 n g
theorem two_to (κ : Kol) (i b n : Nat) (f g : Int → Option Int) (x : Int) (hx : I64 x) (w : World) (h : TwoK κ i w b n f g) :
 Calls Tryz.prog 131 #[.pointer (some ⟨b, 0, none⟩), .int .i64 x] w fun e w' => e = .returned (.tuple #[.int .i64 ((f x).getD 0), .bool (f x).isSome]) ∧ w' = w := by
 obtain ⟨m1, m2, hb, ⟨hk1, D, ho, hv⟩, _⟩ := h
 have s0 := hb.blk.at 0 (.map (some m1)) rfl
 have HO := ak ho
 have HX := ak hx
 have HV := ak hv
 have HH := ak ((hv x hx).1)
 clear hb hk1 ho hv hx
 go_enter Tryz.func131, Tryz.ntmps131
 go_wp2_with (at_lookup; refine wpList_lookup_own_ok_int _ rfl _ _ 127 rfl 3 3 .i64 int_law Tryz.underlying127 Tryz.underlying3 (zero_int _) m1 n D rfl HO.1 _ (.int .i64 x) rfl (keyOf_int_mk Tryz.underlying3 HX.1) ?_; intro c hat hwc; rw [HH.1]; obtain rfl := view_c HV.1 HX.1 hat; clear hat hwc)
 go_ret2
 exact ⟨rfl, rfl⟩
theorem key_ne {x k : Int} (h : x ≠ k) : (Lit.int .i64 x) ≠ .int .i64 k := fun e => h (by injection e)
theorem key_lit (k : Int) : WideAt.IsKeyLit (.int .i64 k) := by simp [WideAt.IsKeyLit]
def outF (f : Int → Option Int) (k : Int) : Int → Option Int := fun x => if x = k then none else f x
def putF (f : Int → Option Int) (k v : Int) : Int → Option Int := fun x => if x = k then some v else f x
theorem Views.del {D : DataW Unit} {f : Int → Option Int} (h : Views D f) (k : Int) : Views (D.del (.int .i64 k)) (outF f k) := by
 intro x hx
 unfold outF
 by_cases e : x = k
 ·subst e
  rw [if_pos rfl]
  exact ⟨has_del_same, atKey_del_same _⟩
 ·rw [if_neg e, has_del_other (key_ne e), atKey_del_other (key_ne e)]
  exact h x hx
theorem Views.put {D : DataW Unit} {f : Int → Option Int} (h : Views D f) (hD : IsMap D) (k v : Int) : Views (D.put (.int .i64 k) (.lit (.int .i64 v))) (putF f k v) := by
 intro x hx
 unfold putF
 by_cases e : x = k
 ·subst e
  rw [if_pos rfl, has_put_same hD (key_lit x), atKey_put_same hD (key_lit x)]
  exact ⟨rfl, rfl⟩
 ·rw [if_neg e, has_put_other (key_ne e), atKey_put_other (key_ne e)]
  exact h x hx
theorem Upd.of_turned {κ : Kol} {i b : Nat} {w w1 : World} (h : w.mapTurned w1 b) (hk : κ b = i) : Upd (· = i) κ w κ w1 := by
 have hg := h.grown
 exact ⟨fun _ _ => rfl, ⟨hg.os, hg.tape, hg.output, hg.size, fun x hx hne => hg.block x hx (fun e => hne (by injection e with e; rw [e]; exact hk))⟩⟩
theorem TwoK.upd {I : Nat → Prop} {κ κ1 : Kol} {i b n : Nat} {w w1 : World} {f g : Int → Option Int} (h : TwoK κ i w b n f g) (k : Upd I κ w κ1 w1) (hi : ∀ c, c < 3 → ¬ I (i + c)) : TwoK κ1 i w1 b n f g := by
 obtain ⟨m1, m2, h1, h2, h3⟩ := h
 exact ⟨m1, m2, h1.upd k (hi 0 (by omega)), h2.upd k (hi 1 (by omega)), h3.upd k (hi 2 (by omega))⟩
theorem two_unmap (κ : Kol) (i b n : Nat) (f g : Int → Option Int) (x y : Int) (hx : I64 x) (hy : I64 y) (hf : f x = some y) (w : World) (h : TwoK κ i w b n f g) :
 Calls Tryz.prog 164 #[.pointer (some ⟨b, 0, none⟩), .int .i64 x] w fun e w' => e = .returned (.tuple #[.int .i64 y, .int .i64 0]) ∧ TwoK κ i w' b n (outF f x) (outF g y) ∧ Upd (fun c => c = i + 1 ∨ c = i + 2) κ w κ w' := by
 obtain ⟨m1, m2, hb, h1, h2⟩ := h
 have HB := ak hb
 have HM2 := ak h2
 obtain ⟨hk1, D, ho, hv⟩ := h1
 have s0 := hb.blk.at 0 (.map (some m1)) rfl
 have s1 := hb.blk.at 1 (.map (some m2)) rfl
 have HO := ak ho
 have HX := ak hx
 have HY := ak hy
 have HV := ak hv
 have HK1 := ak hk1
 have HH := ak (show Maps.has D (.int .i64 x) = true by rw [(hv x hx).1, hf]; rfl)
 have HF := ak (show (f x).getD 0 = y by rw [hf]; rfl)
 have HU := ak (Upd.refl (fun c => c = i + 1 ∨ c = i + 2) κ w)
 clear hb hk1 ho hv hx hy h2 hf
 go_enter Tryz.func164, Tryz.ntmps164
 go_upto_region 7 with (at_lookup; refine wpList_lookup_own_ok_int _ rfl _ _ 127 rfl 3 3 .i64 int_law Tryz.underlying127 Tryz.underlying3 (zero_int _) m1 n D rfl HO.1 _ (.int .i64 x) rfl (keyOf_int_mk Tryz.underlying3 HX.1) ?_; intro c hat hwc; rw [HH.1]; obtain rfl := view_c HV.1 HX.1 hat; rw [HF.1]; clear hat hwc)
 go_upto_region 8 with (at_delete; refine wpList_delete_own _ rfl _ _ 127 3 rfl 3 int_law Tryz.underlying127 _ m1 n D rfl HO.1 _ _ rfl (keyOf_int_mk Tryz.underlying3 HX.1) ?_; intro w1 hown1 hturn1; have HO1 := ak hown1; have HU1 := ak (Upd.of_turned hturn1 HK1.1); clear hown1 hturn1 s0 s1)
 have HB1 := ak (HB.1.upd HU1.1 (by omega))
 have HM1 := ak (HM2.1.upd HU1.1 (by omega))
 obtain ⟨hk2, D2, ho2, hv2⟩ := HM1.1
 have HO2 := ak ho2
 have HK2 := ak hk2
 have HV2 := ak hv2
 have s1 := HB1.1.blk.at 1 (.map (some m2)) rfl
 clear ho2 hk2 hv2
 go_wp2_with (at_delete; refine wpList_delete_own _ rfl _ _ 127 3 rfl 3 int_law Tryz.underlying127 _ m2 n D2 rfl HO2.1 _ _ rfl (keyOf_int_mk Tryz.underlying3 HY.1) ?_; intro w2 hown2 hturn2; have HO3 := ak hown2; have HU2 := ak (Upd.of_turned hturn2 HK2.1); clear hown2 hturn2 s1)
 go_ret2
 exact ⟨rfl, ⟨m1, m2, HB1.1.upd HU2.1 (by omega), (show MapI κ (i + 1) w1 m1 n (outF f x) from ⟨HK1.1, _, HO1.1, HV.1.del x⟩).upd HU2.1 (by omega), ⟨HK2.1, _, HO3.1, HV2.1.del y⟩⟩, (HU1.1.mono (fun c e => Or.inl e)).then HU2.1 (fun c e => Or.inr e)⟩
theorem two_new (κ : Kol) (i : Nat) (w : World) :
 Calls Tryz.prog 183 #[] w fun e w' => ∃ κ' b, e = .returned (.pointer (some ⟨b, 0, none⟩)) ∧ TwoK κ' i w' b 0 (fun _ => none) (fun _ => none) ∧ (∀ x, x < w.heap.size → κ' x = κ x) ∧ RowKit.Below w.heap.size w w' := by
 have hmm := @run_makeMap Tryz.prog
 go_enter Tryz.func183, Tryz.ntmps183
 go_wp2_with fail
 go_ret
 refine ⟨fun x => if x < w.heap.size then κ x else if x = w.heap.size then i + 1 else if x = w.heap.size + 1 then i + 2 else i, w.heap.size + 1 + 1, rfl, ⟨w.heap.size, w.heap.size + 1, ⟨?_, Blk.new2 w _ _ _ _⟩, ⟨?_, .map [], ((World.ownsMap_made w _ _ _).alloc _).alloc _, fun k _ => ⟨rfl, rfl⟩⟩, ⟨?_, .map [], ?_, fun k _ => ⟨rfl, rfl⟩⟩⟩, fun x hx => if_pos hx, below_alloc (below_alloc (below_alloc (RowKit.Below.refl _ _) _) _) _⟩
 ·show (if w.heap.size + 1 + 1 < w.heap.size then _ else _) = _
  rw [if_neg (by omega), if_neg (by omega), if_neg (by omega)]
 ·show (if w.heap.size < w.heap.size then _ else _) = _
  rw [if_neg (by omega), if_pos rfl]
 ·show (if w.heap.size + 1 < w.heap.size then _ else _) = _
  rw [if_neg (by omega), if_neg (by omega), if_pos rfl]
 ·have h := (World.ownsMap_made (H := Unit) (w.alloc (.map #[] 0)) Tryz.prog 3 (plainElem Tryz.prog 3)).alloc (.cells #[.map (some w.heap.size), .map (some (w.heap.size + 1))] 264)
  rw [World.size_alloc] at h
  exact h
end Go.Proofs.YtenkdmloolbdaaaGreatDoor.T
end
