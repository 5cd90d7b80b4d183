/- A law's world in memory: a machine, and the model beside it. -/
import Derived.Test.YtenkdmloolbdaaaGreatDoorV14
import Derived.Test.YtenkdmloolbdaaaGreatDoorV35
import Derived.Test.YtenkdmloolbdaaaGreatDoorV40
section
namespace Go.Proofs.YtenkdmloolbdaaaGreatDoor.T
open Go.RowKit Go.Maps Go.WideShapes Go.Proofs.YtenkdmloolbdaaaGreatDoorW.PrintWords Go.Proofs.YtenkdmloolbdaaaGreatDoorW.PrintLast Go.Proofs.YtenkdmloolbdaaaGreatDoorW.PrintMore
set_option linter.unusedVariables false
set_option linter.unusedSimpArgs false
def worC (m mo : Nat) (t : List Value) : Array Value := (.pointer (some ⟨m, 0, none⟩) :: .pointer (some ⟨mo, 0, none⟩) :: t).toArray
/-- The topology that a law's world holds, and its row of policies as cells. -/
structure Top where
  n : Nat
  f : Nat
  cs : List Int
  ds : List (List Int)
  A : Option Addr
  ca : Nat
  B : Option Addr
  cb : Nat
  ps : List Value
def Top.cells (t : Top) : List Value := .int .i64 t.n :: .int .i64 t.f :: .slice t.A t.cs.length t.ca :: .slice t.B t.ds.length t.cb :: t.ps
/-- A law's world: the machine's parts are coloured by κ, the world's own by μ; what was there ahead by neither. -/
structure LawK (w0 : World) (κ μ : Kol) (w : World) (b m mo nc : Nat) (t : Top) (a : Ad) (s : St) (l : List Ob) : Prop where
  old : ∀ x, x < w0.heap.size → κ x = 0 ∧ μ x = 0
  bel : RowKit.Below w0.heap.size w0 w
  dis : ∀ x, κ x = 0 ∨ μ x = 0
  gl : GlobR w0
  mach : MachK κ w m a s
  box : BlkK μ 1 w b (worC m mo t.cells) 43
  mod : ModK μ w mo nc l
  tcs : KR (Kd.int .i64) 3 μ 5 w (.slice t.A t.cs.length t.ca) t.cs
  tds : KR (Kd.slice 3 (Kd.int .i64)) 34 μ 5 w (.slice t.B t.ds.length t.cb) t.ds
theorem GlobR.pos {w : World} (h : GlobR w) : 0 < w.heap.size := World.block_lt_of_cell? w _ (h.s 0 (by decide))
section
variable {w0 w w1 : World} {κ μ κ' μ' : Kol} {b m mo nc : Nat} {t : Top} {a : Ad} {s s' : St} {l l' : List Ob}
theorem LawK.glob (h : LawK w0 κ μ w b m mo nc t a s l) : GlobK κ w := ⟨h.gl.below h.bel, (h.old _ h.gl.pos).1⟩
theorem below_kol {B : Nat} {ν ν' : Kol} (hB : B ≤ w.heap.size) (ho : ∀ x, x < B → ν x = 0) (hU : Upd (fun z => 1 ≤ z) ν w ν' w1) : RowKit.Below B w w1 :=
  hU.chg.to_below B hB (fun x hx => Classical.byContradiction fun hlt => by have h9 := ho x (by omega); have hx : 1 ≤ ν x := hx; omega)
theorem LawK.below (h : LawK w0 κ μ w b m mo nc t a s l) (k : RowKit.Below w.heap.size w w1) : LawK w0 κ μ w1 b m mo nc t a s l :=
  ⟨h.old, below_then h.bel h.bel.size k, h.dis, h.gl, h.mach.below k, h.box.below k, h.mod.below k, h.tcs.below k, h.tds.below k⟩
/-- Behind a step of the machine. -/
theorem LawK.stepM (h : LawK w0 κ μ w b m mo nc t a s l) (hM : MachK κ' w1 m a s') (hU : Upd (fun z => 1 ≤ z) κ w κ' w1) : LawK w0 κ' (μ.ext w.heap.size 0) w1 b m mo nc t a s' l := by
  have hV : Upd (· = 0) μ w (μ.ext w.heap.size 0) w1 := ⟨fun x hx => Kol.ext_old μ hx, ⟨hU.chg.os, hU.chg.tape, hU.chg.output, hU.chg.size, fun x hx hne => hU.chg.block x hx (fun h1 => by
    rcases h.dis x with h2 | h2
    · have h1 : 1 ≤ κ x := h1; omega
    · exact hne h2)⟩⟩
  refine ⟨fun x hx => ?_, h.bel.trans (below_kol h.bel.size (fun x hx => (h.old x hx).1) hU), fun x => ?_, h.gl, hM, h.box.upd hV (by omega), h.mod.upd hV (fun c _ _ => by omega), h.tcs.upd hV (by omega), h.tds.upd hV (by omega)⟩
  · have h9 := Nat.lt_of_lt_of_le hx h.bel.size
    exact ⟨(hU.kol x h9).trans (h.old x hx).1, (Kol.ext_old μ h9).trans (h.old x hx).2⟩
  · rcases Nat.lt_or_ge x w.heap.size with h9 | h9
    · rw [hU.kol x h9, Kol.ext_old μ h9]; exact h.dis x
    · exact .inr (Kol.ext_new μ h9)
/-- Behind a step of the world's own. -/
theorem LawK.stepW (h : LawK w0 κ μ w b m mo nc t a s l) (hM : ModK μ' w1 mo nc l') (hU : Upd (fun z => 2 ≤ z ∧ z ≤ 4) μ w μ' w1) : LawK w0 (κ.ext w.heap.size 0) μ' w1 b m mo nc t a s l' := by
  have hU1 : Upd (fun z => 1 ≤ z) μ w μ' w1 := hU.mono (fun c hc => by omega)
  have hV : Upd (· = 0) κ w (κ.ext w.heap.size 0) w1 := ⟨fun x hx => Kol.ext_old κ hx, ⟨hU.chg.os, hU.chg.tape, hU.chg.output, hU.chg.size, fun x hx hne => hU.chg.block x hx (fun h1 => by
    rcases h.dis x with h2 | h2
    · exact hne h2
    · have h1 : 2 ≤ μ x ∧ μ x ≤ 4 := h1; omega)⟩⟩
  refine ⟨fun x hx => ?_, h.bel.trans (below_kol h.bel.size (fun x hx => (h.old x hx).2) hU1), fun x => ?_, h.gl, h.mach.upd hV (fun c hc => by omega), h.box.upd hU (by omega), hM, h.tcs.upd hU (by omega), h.tds.upd hU (by omega)⟩
  · have h9 := Nat.lt_of_lt_of_le hx h.bel.size
    exact ⟨(Kol.ext_old κ h9).trans (h.old x hx).1, (hU.kol x h9).trans (h.old x hx).2⟩
  · rcases Nat.lt_or_ge x w.heap.size with h9 | h9
    · rw [hU.kol x h9, Kol.ext_old κ h9]; exact h.dis x
    · exact .inl (Kol.ext_new κ h9)
theorem LawK.x0 (h : LawK w0 κ μ w b m mo nc t a s l) : w.cell? ⟨b, 0, none⟩ = some (.pointer (some ⟨m, 0, none⟩)) := h.box.blk.at 0 _ (by simp [worC])
theorem LawK.x1 (h : LawK w0 κ μ w b m mo nc t a s l) : w.cell? ⟨b, 1, none⟩ = some (.pointer (some ⟨mo, 0, none⟩)) := h.box.blk.at 1 _ (by simp [worC])
end
/-- What a call of the machine does, in whatever memory. -/
def Does (f : Nat) (xs : Array Value) (m : Nat) (a : Ad) (s s' : St) (r : Value) : Prop :=
  ∀ κ w, GlobK κ w → MachK κ w m a s → Calls Tryz.prog f xs w fun e w' => e = .returned r ∧ ∃ κ', MachK κ' w' m a s' ∧ Upd (fun z => 1 ≤ z) κ w κ' w'
/-- A new object's row of noughts, and the model's row with it. -/
theorem ModK.more {κ κ7 : Kol} {w w7 : World} {b nc : Nat} {l : List Ob} {A A7 : Option Addr} {c c7 : Nat} (h : ModK κ w b nc l) (x n : Nat) (hx : x ≤ 262144) (hn : n ≤ 1024) (hlen : l.length < 100000) (hU : Upd (fun z => z = 3) (κ.ext w.heap.size 4) (w.alloc (.cells (bv (List.replicate n 0)) 5)) κ7 w7)
    (hb : BlkK κ7 2 w7 b #[.int .i64 nc, .slice A l.length c] 31) (hR : RowG κ7 3 w7 45 2 (.slice A7 (l.length + 1) c7) (l.length + 1) (obs l ++ [.int .i64 x, .slice (some ⟨w.heap.size, 0, none⟩) n n])) :
    ModK κ7 (w7.setCell ⟨b, 1, none⟩ (.slice A7 (l.length + 1) c7)) b nc (l ++ [⟨x, w.heap.size, List.replicate n 0⟩]) ∧ Upd (fun z => 2 ≤ z ∧ z ≤ 4) κ w κ7 (w7.setCell ⟨b, 1, none⟩ (.slice A7 (l.length + 1) c7)) := by
  have hA := below_alloc (RowKit.Below.refl w.heap.size w) (.cells (bv (List.replicate n 0)) 5)
  have hU0 : Upd (fun _ => False) κ w (κ.ext w.heap.size 4) (w.alloc (.cells (bv (List.replicate n 0)) 5)) := (Upd.of_below κ hA).paint _ _ (Nat.le_refl _)
  have hS : Upd (fun z => z = 2) κ7 w7 κ7 (w7.setCell ⟨b, 1, none⟩ (.slice A7 (l.length + 1) c7)) := (Upd.refl _ _ _).set ⟨b, 1, none⟩ (fun _ => hb.kol) _
  have hT := (hU0.mono (J := fun z => 2 ≤ z ∧ z ≤ 4) (fun _ h => h.elim)).then (hU.mono (J := fun z => 2 ≤ z ∧ z ≤ 4) (fun c hc => by omega)) (fun _ h => h)
  refine ⟨⟨⟨A7, c7, by rw [List.length_append, List.length_singleton]; exact hb.set 1 _, ?_⟩, fun o ho => ?_, ?_, by rw [List.length_append, List.length_singleton]; omega, fun o ho => ?_⟩, hT.then hS (fun c hc => by omega)⟩
  · rw [List.length_append, List.length_singleton, obs_append]
    have := hR.upd hS (by omega)
    simpa [obs, Ob.cells] using this
  · rcases List.mem_append.1 ho with h1 | h1
    · exact (((h.bl o h1).upd hU0 (fun h => h)).upd hU (by omega)).upd hS (by omega)
    · obtain rfl := List.mem_singleton.1 h1
      exact ((BlkK.new κ w 4 _ _).upd hU (by omega)).upd hS (by omega)
  · rw [List.map_append, List.map_singleton, List.nodup_append]
    refine ⟨h.nd, by simp, fun x hx y hy => ?_⟩
    obtain ⟨o, ho, rfl⟩ := List.mem_map.1 hx
    obtain rfl := List.mem_singleton.1 hy
    have := (h.bl o ho).blk.lt
    show o.blk ≠ w.heap.size
    omega
  · rcases List.mem_append.1 ho with h1 | h1
    · exact h.val o h1
    · obtain rfl := List.mem_singleton.1 h1
      exact ⟨hx, by rw [List.length_replicate]; exact hn⟩
set_option maxHeartbeats 4000000 in
set_option maxRecDepth 100000 in
theorem law_malloc (w0 : World) (κ μ : Kol) (b m mo nc : Nat) (t : Top) (a : Ad) (s s' : St) (l : List Ob) (j : Int) (x n : Nat) (hj : 0 ≤ j) (hj2 : j < nc) (hnc : nc ≤ 1000) (h1 : 1 ≤ n) (h2 : n ≤ 1024) (hlen : l.length < 100000)
    (hD : Does 21 #[.pointer (some ⟨m, 0, none⟩), .int .i64 j, .int .i64 n] m a s s' (.tuple #[.int .i64 x, .int .i64 0])) (hm : MayO l x n) (w : World) (h : LawK w0 κ μ w b m mo nc t a s l) :
    Calls Tryz.prog 17 #[.pointer (some ⟨b, 0, none⟩), .int .i64 j, .int .i64 n] w fun e w' => e = .returned (.bool true) ∧ ∃ κ' μ' bk, LawK w0 κ' μ' w' b m mo nc t a s' (l ++ [⟨x, bk, List.replicate n 0⟩]) := by
  have HM := Aside0.mk (hD κ w h.glob h.mach)
  have HL := Aside0.mk h
  have x0 := h.x0
  have b1 : decide ((n : Int) < 1) = false := decide_eq_false (by omega)
  have b2 : decide (1024 < (n : Int)) = false := decide_eq_false (by omega)
  have HX := Aside0.mk hm
  clear h hD hm
  go_enter Tryz.func17, Tryz.ntmps17
  go_upto_region 2 with (go_at_call 21; (with_reducible refine HM.out.mono ?_); rintro e_ w1 ⟨rfl, κ1, q1, q2⟩; have HL1 := Aside0.mk (HL.out.stepM q1 q2); clear q1 q2)
  clear x0 HM HL
  have x1 := HL1.out.x1
  go_upto_region 11 with (first | (go_at_call 57; (with_reducible refine (model_cpu _ mo nc l j hj hj2 hnc _ HL1.out.mod).mono ?_); rintro e_ w2 ⟨rfl, rfl⟩) | (go_at_call 58; (with_reducible refine (model_may _ mo nc l x n HX.out _ HL1.out.mod).mono ?_); rintro e_ w3 ⟨rfl, hb⟩; have HL3 := Aside0.mk (HL1.out.below hb); clear hb))
  clear x1 HL1
  obtain ⟨μ1, hμ1⟩ : ∃ μ1, μ.ext w.heap.size 0 = μ1 := ⟨_, rfl⟩
  rw [hμ1] at HL3
  clear hμ1 b1 b2
  obtain ⟨A, c, hB, _⟩ := HL3.out.mod.row
  have x1 := HL3.out.x1
  have y1 := hB.blk.at 1 (.slice A l.length c) rfl
  have info4 : (Tryz.prog.info? 45).map (fun i => (i.zero, i.size, i.bytes)) = some (some (.agg #[.int .i64 0, .slice none 0 0]), 2, 32) := by kernel_rfl
  have hmk := make_bytes n (by omega)
  clear hB
  refine start_ (n := 20) (S := fun w' => w'.cell? ⟨b, 1, none⟩ = some (.pointer (some ⟨mo, 0, none⟩)) ∧ w'.cell? ⟨mo, 1, none⟩ = some (.slice A l.length c)) (ds := [19]) #[false, false, false, false, false, false, false, false, false, false, false, false, false, false, false, false, false, false, false, false] (by kernel_rfl) rfl rfl ⟨x1, y1⟩ (fun hHeld => ?_)
  have hd_ := below_drew (RowKit.Below.refl w3.heap.size w3)
  have n0_ := Aside0.mk (HL3.out.below hd_)
  clear HL3 x1 y1
  generalize w3.drew = wd at *
  clear hd_
  have HL := n0_
  clear n0_
  have HROW := Aside0.mk HL.out.mod.row
  refine pure_ (i := 0) (N := some 63) (v := ?_) (a' := ?_) #[true, false, false, false, false, false, false, false, false, false, false, false, false, false, false, false, false, false, false, false] rfl rfl (by kernel_rfl) (fun _ _ _ h => h) (Or.inl ⟨by rfl, ?_⟩) ?_ ?_
  rotate_left
  · intro w'
    go_simp
    with_reducible rfl
  rotate_left
  · simp only [Act.put, List.setIfInBounds_toArray, List.set_cons_zero, List.set_cons_succ, i64_w, i32_w]
    rfl
  refine pure_ (i := 1) (N := some 64) (v := ?_) (a' := ?_) #[true, true, false, false, false, false, false, false, false, false, false, false, false, false, false, false, false, false, false, false] rfl rfl (by kernel_rfl) (fun _ _ _ h => h) (Or.inl ⟨by rfl, ?_⟩) ?_ ?_
  rotate_left
  · intro w'
    go_simp
    with_reducible rfl
  rotate_left
  · simp only [Act.put, List.setIfInBounds_toArray, List.set_cons_zero, List.set_cons_succ, i64_w, i32_w]
    rfl
  refine pure_ (i := 2) (N := some 65) (v := ?_) (a' := ?_) #[true, true, true, false, false, false, false, false, false, false, false, false, false, false, false, false, false, false, false, false] rfl rfl (by kernel_rfl) (fun _ _ _ h => h) (Or.inl ⟨by rfl, ?_⟩) ?_ ?_
  rotate_left
  · intro w'
    go_simp
    with_reducible rfl
  rotate_left
  · simp only [Act.put, List.setIfInBounds_toArray, List.set_cons_zero, List.set_cons_succ, i64_w, i32_w]
    rfl
  refine pure_ (i := 4) (N := some 67) (v := ?_) (a' := ?_) #[true, true, true, false, true, false, false, false, false, false, false, false, false, false, false, false, false, false, false, false] rfl rfl (by kernel_rfl) (fun _ _ _ h => h) (Or.inl ⟨by rfl, ?_⟩) ?_ ?_
  rotate_left
  · intro w'
    go_simp
    with_reducible rfl
  rotate_left
  · simp only [Act.put, List.setIfInBounds_toArray, List.set_cons_zero, List.set_cons_succ, i64_w, i32_w]
    rfl
  refine pure_ (i := 5) (N := some 68) (v := ?_) (a' := ?_) #[true, true, true, false, true, true, false, false, false, false, false, false, false, false, false, false, false, false, false, false] rfl rfl (by kernel_rfl) (fun _ _ _ h => h) (Or.inl ⟨by rfl, ?_⟩) ?_ ?_
  rotate_left
  · intro w'
    go_simp
    with_reducible rfl
  rotate_left
  · simp only [Act.put, List.setIfInBounds_toArray, List.set_cons_zero, List.set_cons_succ, i64_w, i32_w]
    rfl
  refine pure_ (i := 6) (N := some 69) (v := ?_) (a' := ?_) #[true, true, true, false, true, true, true, false, false, false, false, false, false, false, false, false, false, false, false, false] rfl rfl (by kernel_rfl) (fun _ _ _ h => h) (Or.inl ⟨by rfl, ?_⟩) ?_ ?_
  rotate_left
  · intro w'
    go_simp
    with_reducible rfl
  rotate_left
  · simp only [Act.put, List.setIfInBounds_toArray, List.set_cons_zero, List.set_cons_succ, i64_w, i32_w]
    rfl
  refine pure_ (i := 11) (N := some 74) (v := ?_) (a' := ?_) #[true, true, true, false, true, true, true, false, false, false, false, true, false, false, false, false, false, false, false, false] rfl rfl (by kernel_rfl) (fun _ _ _ h => h) (Or.inl ⟨by rfl, ?_⟩) ?_ ?_
  rotate_left
  · intro w'
    go_simp
    with_reducible rfl
  rotate_left
  · simp only [Act.put, List.setIfInBounds_toArray, List.set_cons_zero, List.set_cons_succ, i64_w, i32_w]
    rfl
  refine pure_ (i := 12) (N := some 75) (v := ?_) (a' := ?_) #[true, true, true, false, true, true, true, false, false, false, false, true, true, false, false, false, false, false, false, false] rfl rfl (by kernel_rfl) (fun _ _ _ h => h) (Or.inl ⟨by rfl, ?_⟩) ?_ ?_
  rotate_left
  · intro w'
    go_simp
    with_reducible rfl
  rotate_left
  · simp only [Act.put, List.setIfInBounds_toArray, List.set_cons_zero, List.set_cons_succ, i64_w, i32_w]
    rfl
  refine take_ (i := 3) (N := some 66) (v := ?_) (a' := ?_) #[true, true, true, true, true, true, true, false, false, false, false, true, true, false, false, false, false, false, false, false] rfl rfl (by kernel_rfl) (fun _ _ _ h => h) (Or.inl ⟨by rfl, ?_⟩) hHeld ?_ ?_
  rotate_left
  · rintro w' ⟨s0, s1⟩
    go_simp
    with_reducible rfl
  rotate_left
  · simp only [Act.put, List.setIfInBounds_toArray, List.set_cons_zero, List.set_cons_succ, i64_w, i32_w]
    rfl
  refine take_ (i := 7) (N := some 70) (v := ?_) (a' := ?_) #[true, true, true, true, true, true, true, true, false, false, false, true, true, false, false, false, false, false, false, false] rfl rfl (by kernel_rfl) (fun _ _ _ h => h) (Or.inl ⟨by rfl, ?_⟩) hHeld ?_ ?_
  rotate_left
  · rintro w' ⟨s0, s1⟩
    go_simp
    with_reducible rfl
  rotate_left
  · simp only [Act.put, List.setIfInBounds_toArray, List.set_cons_zero, List.set_cons_succ, i64_w, i32_w]
    rfl
  refine pure_ (i := 8) (N := some 71) (v := ?_) (a' := ?_) #[true, true, true, true, true, true, true, true, true, false, false, true, true, false, false, false, false, false, false, false] rfl rfl (by kernel_rfl) (fun _ _ _ h => h) (Or.inl ⟨by rfl, ?_⟩) ?_ ?_
  rotate_left
  · intro w'
    go_simp
    with_reducible rfl
  rotate_left
  · simp only [Act.put, List.setIfInBounds_toArray, List.set_cons_zero, List.set_cons_succ, i64_w, i32_w]
    rfl
  refine pure_ (i := 9) (N := some 72) (v := ?_) (a' := ?_) #[true, true, true, true, true, true, true, true, true, true, false, true, true, false, false, false, false, false, false, false] rfl rfl (by kernel_rfl) (fun _ _ _ h => h) (Or.inl ⟨by rfl, ?_⟩) ?_ ?_
  rotate_left
  · intro w'
    go_simp
    with_reducible rfl
  rotate_left
  · simp only [Act.put, List.setIfInBounds_toArray, List.set_cons_zero, List.set_cons_succ, i64_w, i32_w]
    rfl
  refine take_ (i := 10) (N := some 73) (v := ?_) (a' := ?_) #[true, true, true, true, true, true, true, true, true, true, true, true, true, false, false, false, false, false, false, false] rfl rfl (by kernel_rfl) (fun _ _ _ h => h) (Or.inl ⟨by rfl, ?_⟩) hHeld ?_ ?_
  rotate_left
  · rintro w' ⟨s0, s1⟩
    go_simp
    with_reducible rfl
  rotate_left
  · simp only [Act.put, List.setIfInBounds_toArray, List.set_cons_zero, List.set_cons_succ, i64_w, i32_w]
    rfl
  refine one_ (i := 13) (N := some 76) #[true, true, true, true, true, true, true, true, true, true, true, true, true, true, false, false, false, false, false, false] rfl rfl (by kernel_rfl) (by decide) (fun K hK => ?_)
  refine value_ (w1 := ?_) (v := ?_) (by rfl) rfl ?_ ?_
  rotate_left 2
  · go_simp
    constructor
    · rfl
    · rfl
  obtain ⟨A_, c_, hB_, hR_⟩ := HROW.out
  obtain ⟨rfl, rfl⟩ : A_ = A ∧ c_ = c := by
    have h9 := hB_.blk.at 1 (.slice A_ l.length c_) rfl
    rw [show wd.cell? ⟨mo, 1, none⟩ = some (.slice A l.length c) from hHeld.2] at h9
    injection h9 with h9
    injection h9 with h9 _ h8
    exact ⟨h9.symm, h8.symm⟩
  have hU6 : Upd (fun _ => False) μ1 wd (μ1.ext wd.heap.size 4) (wd.alloc (.cells (bv (List.replicate n 0)) 5)) := (Upd.of_below μ1 (below_alloc (RowKit.Below.refl _ _) _)).paint _ _ (Nat.le_refl _)
  have HB6 := Aside0.mk (hB_.upd hU6 (fun h => h))
  have HR6 := Aside0.mk (hR_.upd hU6 (fun h => h))
  have HX6 := Aside0.mk (HL.out.box.upd hU6 (fun h => h))
  clear hB_ hR_ hU6
  refine hK.out _ _ ⟨HX6.out.blk.at 1 _ (by simp [worC]), HB6.out.blk.at 1 (.slice A_ l.length c_) rfl⟩ (fun hHeld => ?_)
  clear hK K
  refine norm_ (a' := ?_) ?_ ?_
  rotate_left
  · show Act.put _ (some 76) _ = _
    simp only [Act.put, List.setIfInBounds_toArray, List.set_cons_zero, List.set_cons_succ, i64_w, i32_w]
    rfl
  refine pure_ (i := 14) (N := some 77) (v := ?_) (a' := ?_) #[true, true, true, true, true, true, true, true, true, true, true, true, true, true, true, false, false, false, false, false] rfl rfl (by kernel_rfl) (fun _ _ _ h => h) (Or.inl ⟨by rfl, ?_⟩) ?_ ?_
  rotate_left
  · intro w'
    go_simp
    with_reducible rfl
  rotate_left
  · simp only [Act.put, List.setIfInBounds_toArray, List.set_cons_zero, List.set_cons_succ, i64_w, i32_w]
    rfl
  refine one_ (i := 15) (N := some 78) #[true, true, true, true, true, true, true, true, true, true, true, true, true, true, true, true, false, false, false, false] rfl rfl (by kernel_rfl) (by decide) (fun K hK => ?_)
  refine value_ (w1 := ?_) (v := ?_) (by rfl) rfl ?_ ?_
  rotate_left 2
  · go_simp
    constructor
    · rfl
    · rfl
  refine hK.out _ _ ⟨(HX6.out.blk.alloc _).at 1 _ (by simp [worC]), (HB6.out.blk.alloc _).at 1 (.slice A_ l.length c_) rfl⟩ (fun hHeld => ?_)
  clear hK K
  refine norm_ (a' := ?_) ?_ ?_
  rotate_left
  · show Act.put _ (some 78) _ = _
    simp only [Act.put, List.setIfInBounds_toArray, List.set_cons_zero, List.set_cons_succ, i64_w, i32_w]
    rfl
  refine one_ (i := 16) (N := some 79) #[true, true, true, true, true, true, true, true, true, true, true, true, true, true, true, true, true, false, false, false] rfl rfl (by kernel_rfl) (by decide) (fun K hK => ?_)
  refine step_append_cells (w0 := (wd.alloc (.cells (bv (List.replicate n 0)) 5))) 0 rfl (.tmp 73) (.tmp 78) 29 45 (.agg #[.int .i64 0, .slice none 0 0]) 2 32 rfl Tryz.underlying29 info4 rfl (by decide) (by decide) (.slice A_ l.length c_) l.length (obs l) [.int .i64 x, .slice (some ⟨wd.heap.size, 0, none⟩) n n] rfl (by rw [World.size_alloc]; rfl) rfl (by intro u hu; simp at hu; rcases hu with rfl | rfl <;> rfl) HR6.out.1 (RowKit.Below.refl _ _) (Nat.zero_le _) (by omega) ?_
  intro v7 w7 ho7 hb7 hg7 hat7
  have hG := RowG.grown HR6.out ho7 hg7 hat7
  obtain ⟨A7, c7, rfl⟩ := hG.1.sl
  have HG := Aside0.mk hG
  have p7 := (HX6.out.upd hG.2 (by omega)).blk.at 1 (.pointer (some ⟨mo, 0, none⟩)) (by simp [worC])
  have q7 := (HB6.out.upd hG.2 (by omega)).blk.at 1 (.slice A_ l.length c_) rfl
  have f7 := (HB6.out.upd hG.2 (by omega)).blk.fz 1
  have HN := Aside0.mk (HL.out.stepW (ModK.more HL.out.mod x n (by have := HX.out.2.1; omega) h2 hlen hG.2 (HB6.out.upd hG.2 (by omega)) hG.1).1 (ModK.more HL.out.mod x n (by have := HX.out.2.1; omega) h2 hlen hG.2 (HB6.out.upd hG.2 (by omega)) hG.1).2)
  clear ho7 hb7 hg7 hat7 hG
  refine hK.out _ _ ⟨p7, q7⟩ (fun hHeld => ?_)
  clear hK K
  refine norm_ (a' := ?_) ?_ ?_
  rotate_left
  · show Act.put _ (some 79) _ = _
    simp only [Act.put, List.setIfInBounds_toArray, List.set_cons_zero, List.set_cons_succ, i64_w, i32_w]
    rfl
  refine pure_ (i := 17) (N := some 80) (v := ?_) (a' := ?_) #[true, true, true, true, true, true, true, true, true, true, true, true, true, true, true, true, true, true, false, false] rfl rfl (by kernel_rfl) (fun _ _ _ h => h) (Or.inl ⟨by rfl, ?_⟩) ?_ ?_
  rotate_left
  · intro w'
    go_simp
    with_reducible rfl
  rotate_left
  · simp only [Act.put, List.setIfInBounds_toArray, List.set_cons_zero, List.set_cons_succ, i64_w, i32_w]
    rfl
  refine pure_ (i := 18) (N := some 81) (v := ?_) (a' := ?_) #[true, true, true, true, true, true, true, true, true, true, true, true, true, true, true, true, true, true, true, false] rfl rfl (by kernel_rfl) (fun _ _ _ h => h) (Or.inl ⟨by rfl, ?_⟩) ?_ ?_
  rotate_left
  · intro w'
    go_simp
    with_reducible rfl
  rotate_left
  · simp only [Act.put, List.setIfInBounds_toArray, List.set_cons_zero, List.set_cons_succ, i64_w, i32_w]
    rfl
  refine last_ (i := 19) (N := none) #[true, true, true, true, true, true, true, true, true, true, true, true, true, true, true, true, true, true, true, true] rfl rfl (by kernel_rfl) (by decide) (fun K hK => ?_)
  refine skip_ (w1 := ?_) (by rfl) rfl ?_ ?_
  rotate_left
  · go_simp
    rfl
  refine hK.out _ _ ?_
  clear hK K
  refine done_ (by kernel_rfl) ?_
  go_wp2_with fail
  go_ret
  have hfin := HN.out
  exact ⟨rfl, _, _, _, hfin⟩
end Go.Proofs.YtenkdmloolbdaaaGreatDoor.T
end
