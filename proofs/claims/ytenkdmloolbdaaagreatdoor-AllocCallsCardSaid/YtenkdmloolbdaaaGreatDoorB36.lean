/- A law's world in memory: a machine, and the model beside it. A law's world: free. A law's world: free of nothing, write, read. A law's world: write and read. -/
import Derived.Test.YtenkdmloolbdaaaGreatDoorB14
import Derived.Test.YtenkdmloolbdaaaGreatDoorB05
import Derived.Test.YtenkdmloolbdaaaGreatDoorB32
import Derived.Test.YtenkdmloolbdaaaGreatDoorB35
section
namespace Go.Proofs.YtenkdmloolbdaaaGreatDoor.T
open Go.RowKit Go.Maps Go.WideShapes Go.Proofs.YtenkdmloolbdaaaGreatDoorW.PrintWords Go.Proofs.YtenkdmloolbdaaaGreatDoorW.PrintLast Go.Proofs.YtenkdmloolbdaaaGreatDoorW.PrintMore
set_option linter.unusedVariables false
set_option linter.unusedSimpArgs false
def worC (m mo : Nat) (t : List Value) : Array Value := (.pointer (some ⟨m, 0, none⟩) :: .pointer (some ⟨mo, 0, none⟩) :: t).toArray
/-- The topology that a law's world holds, and its row of policies as cells. -/
structure Top where
  n : Nat
  f : Nat
  cs : List Int
  ds : List (List Int)
  A : Option Addr
  ca : Nat
  B : Option Addr
  cb : Nat
  ps : List Value
def Top.cells (t : Top) : List Value := .int .i64 t.n :: .int .i64 t.f :: .slice t.A t.cs.length t.ca :: .slice t.B t.ds.length t.cb :: t.ps
/-- A law's world: the machine's parts are coloured by κ, the world's own by μ; what was there ahead by neither. -/
structure LawK (w0 : World) (κ μ : Kol) (w : World) (b m mo nc : Nat) (t : Top) (a : Ad) (s : St) (l : List Ob) : Prop where
  old : ∀ x, x < w0.heap.size → κ x = 0 ∧ μ x = 0
  bel : RowKit.Below w0.heap.size w0 w
  dis : ∀ x, κ x = 0 ∨ μ x = 0
  gl : GlobR w0
  mach : MachK κ w m a s
  box : BlkK μ 1 w b (worC m mo t.cells) 43
  mod : ModK μ w mo nc l
  tcs : KR (Kd.int .i64) 3 μ 5 w (.slice t.A t.cs.length t.ca) t.cs
  tds : KR (Kd.slice 3 (Kd.int .i64)) 34 μ 5 w (.slice t.B t.ds.length t.cb) t.ds
theorem GlobR.pos {w : World} (h : GlobR w) : 0 < w.heap.size := World.block_lt_of_cell? w _ (h.s 0 (by decide))
section
variable {w0 w w1 : World} {κ μ κ' μ' : Kol} {b m mo nc : Nat} {t : Top} {a : Ad} {s s' : St} {l l' : List Ob}
theorem LawK.glob (h : LawK w0 κ μ w b m mo nc t a s l) : GlobK κ w := ⟨h.gl.below h.bel, (h.old _ h.gl.pos).1⟩
theorem below_kol {B : Nat} {ν ν' : Kol} (hB : B ≤ w.heap.size) (ho : ∀ x, x < B → ν x = 0) (hU : Upd (fun z => 1 ≤ z) ν w ν' w1) : RowKit.Below B w w1 :=
  hU.chg.to_below B hB (fun x hx => Classical.byContradiction fun hlt => by have h9 := ho x (by omega); have hx : 1 ≤ ν x := hx; omega)
theorem LawK.below (h : LawK w0 κ μ w b m mo nc t a s l) (k : RowKit.Below w.heap.size w w1) : LawK w0 κ μ w1 b m mo nc t a s l :=
  ⟨h.old, below_then h.bel h.bel.size k, h.dis, h.gl, h.mach.below k, h.box.below k, h.mod.below k, h.tcs.below k, h.tds.below k⟩
/-- Behind a step of the machine. -/
theorem LawK.stepM (h : LawK w0 κ μ w b m mo nc t a s l) (hM : MachK κ' w1 m a s') (hU : Upd (fun z => 1 ≤ z) κ w κ' w1) : LawK w0 κ' (μ.ext w.heap.size 0) w1 b m mo nc t a s' l := by
  have hV : Upd (· = 0) μ w (μ.ext w.heap.size 0) w1 := ⟨fun x hx => Kol.ext_old μ hx, ⟨hU.chg.os, hU.chg.tape, hU.chg.output, hU.chg.size, fun x hx hne => hU.chg.block x hx (fun h1 => by
    rcases h.dis x with h2 | h2
    · have h1 : 1 ≤ κ x := h1; omega
    · exact hne h2)⟩⟩
  refine ⟨fun x hx => ?_, h.bel.trans (below_kol h.bel.size (fun x hx => (h.old x hx).1) hU), fun x => ?_, h.gl, hM, h.box.upd hV (by omega), h.mod.upd hV (fun c _ _ => by omega), h.tcs.upd hV (by omega), h.tds.upd hV (by omega)⟩
  · have h9 := Nat.lt_of_lt_of_le hx h.bel.size
    exact ⟨(hU.kol x h9).trans (h.old x hx).1, (Kol.ext_old μ h9).trans (h.old x hx).2⟩
  · rcases Nat.lt_or_ge x w.heap.size with h9 | h9
    · rw [hU.kol x h9, Kol.ext_old μ h9]; exact h.dis x
    · exact .inr (Kol.ext_new μ h9)
/-- Behind a step of the world's own. -/
theorem LawK.stepW (h : LawK w0 κ μ w b m mo nc t a s l) (hM : ModK μ' w1 mo nc l') (hU : Upd (fun z => 2 ≤ z ∧ z ≤ 4) μ w μ' w1) : LawK w0 (κ.ext w.heap.size 0) μ' w1 b m mo nc t a s l' := by
  have hU1 : Upd (fun z => 1 ≤ z) μ w μ' w1 := hU.mono (fun c hc => by omega)
  have hV : Upd (· = 0) κ w (κ.ext w.heap.size 0) w1 := ⟨fun x hx => Kol.ext_old κ hx, ⟨hU.chg.os, hU.chg.tape, hU.chg.output, hU.chg.size, fun x hx hne => hU.chg.block x hx (fun h1 => by
    rcases h.dis x with h2 | h2
    · exact hne h2
    · have h1 : 2 ≤ μ x ∧ μ x ≤ 4 := h1; omega)⟩⟩
  refine ⟨fun x hx => ?_, h.bel.trans (below_kol h.bel.size (fun x hx => (h.old x hx).2) hU1), fun x => ?_, h.gl, h.mach.upd hV (fun c hc => by omega), h.box.upd hU (by omega), hM, h.tcs.upd hU (by omega), h.tds.upd hU (by omega)⟩
  · have h9 := Nat.lt_of_lt_of_le hx h.bel.size
    exact ⟨(Kol.ext_old κ h9).trans (h.old x hx).1, (hU.kol x h9).trans (h.old x hx).2⟩
  · rcases Nat.lt_or_ge x w.heap.size with h9 | h9
    · rw [hU.kol x h9, Kol.ext_old κ h9]; exact h.dis x
    · exact .inl (Kol.ext_new κ h9)
theorem LawK.x0 (h : LawK w0 κ μ w b m mo nc t a s l) : w.cell? ⟨b, 0, none⟩ = some (.pointer (some ⟨m, 0, none⟩)) := h.box.blk.at 0 _ (by simp [worC])
theorem LawK.x1 (h : LawK w0 κ μ w b m mo nc t a s l) : w.cell? ⟨b, 1, none⟩ = some (.pointer (some ⟨mo, 0, none⟩)) := h.box.blk.at 1 _ (by simp [worC])
end
/-- What a call of the machine does, in whatever memory. -/
def Does (f : Nat) (xs : Array Value) (m : Nat) (a : Ad) (s s' : St) (r : Value) : Prop :=
  ∀ κ w, GlobK κ w → MachK κ w m a s → Calls Tryz.prog f xs w fun e w' => e = .returned r ∧ ∃ κ', MachK κ' w' m a s' ∧ Upd (fun z => 1 ≤ z) κ w κ' w'
/-- A new object's row of noughts, and the model's row with it. -/
theorem ModK.more {κ κ7 : Kol} {w w7 : World} {b nc : Nat} {l : List Ob} {A A7 : Option Addr} {c c7 : Nat} (h : ModK κ w b nc l) (x n : Nat) (hx : x ≤ 262144) (hn : n ≤ 1024) (hlen : l.length < 100000) (hU : Upd (fun z => z = 3) (κ.ext w.heap.size 4) (w.alloc (.cells (bv (List.replicate n 0)) 5)) κ7 w7)
    (hb : BlkK κ7 2 w7 b #[.int .i64 nc, .slice A l.length c] 31) (hR : RowG κ7 3 w7 45 2 (.slice A7 (l.length + 1) c7) (l.length + 1) (obs l ++ [.int .i64 x, .slice (some ⟨w.heap.size, 0, none⟩) n n])) :
    ModK κ7 (w7.setCell ⟨b, 1, none⟩ (.slice A7 (l.length + 1) c7)) b nc (l ++ [⟨x, w.heap.size, List.replicate n 0⟩]) ∧ Upd (fun z => 2 ≤ z ∧ z ≤ 4) κ w κ7 (w7.setCell ⟨b, 1, none⟩ (.slice A7 (l.length + 1) c7)) := by
  have hA := below_alloc (RowKit.Below.refl w.heap.size w) (.cells (bv (List.replicate n 0)) 5)
  have hU0 : Upd (fun _ => False) κ w (κ.ext w.heap.size 4) (w.alloc (.cells (bv (List.replicate n 0)) 5)) := (Upd.of_below κ hA).paint _ _ (Nat.le_refl _)
  have hS : Upd (fun z => z = 2) κ7 w7 κ7 (w7.setCell ⟨b, 1, none⟩ (.slice A7 (l.length + 1) c7)) := (Upd.refl _ _ _).set ⟨b, 1, none⟩ (fun _ => hb.kol) _
  have hT := (hU0.mono (J := fun z => 2 ≤ z ∧ z ≤ 4) (fun _ h => h.elim)).then (hU.mono (J := fun z => 2 ≤ z ∧ z ≤ 4) (fun c hc => by omega)) (fun _ h => h)
  refine ⟨⟨⟨A7, c7, by rw [List.length_append, List.length_singleton]; exact hb.set 1 _, ?_⟩, fun o ho => ?_, ?_, by rw [List.length_append, List.length_singleton]; omega, fun o ho => ?_⟩, hT.then hS (fun c hc => by omega)⟩
  · rw [List.length_append, List.length_singleton, obs_append]
    have := hR.upd hS (by omega)
    simpa [obs, Ob.cells] using this
  · rcases List.mem_append.1 ho with h1 | h1
    · exact (((h.bl o h1).upd hU0 (fun h => h)).upd hU (by omega)).upd hS (by omega)
    · obtain rfl := List.mem_singleton.1 h1
      exact ((BlkK.new κ w 4 _ _).upd hU (by omega)).upd hS (by omega)
  · rw [List.map_append, List.map_singleton, List.nodup_append]
    refine ⟨h.nd, by simp, fun x hx y hy => ?_⟩
    obtain ⟨o, ho, rfl⟩ := List.mem_map.1 hx
    obtain rfl := List.mem_singleton.1 hy
    have := (h.bl o ho).blk.lt
    show o.blk ≠ w.heap.size
    omega
  · rcases List.mem_append.1 ho with h1 | h1
    · exact h.val o h1
    · obtain rfl := List.mem_singleton.1 h1
      exact ⟨hx, by rw [List.length_replicate]; exact hn⟩
set_option maxHeartbeats 4000000 in
set_option maxRecDepth 100000 in
theorem law_malloc (w0 : World) (κ μ : Kol) (b m mo nc : Nat) (t : Top) (a : Ad) (s s' : St) (l : List Ob) (j : Int) (x n : Nat) (hj : 0 ≤ j) (hj2 : j < nc) (hnc : nc ≤ 1000) (h1 : 1 ≤ n) (h2 : n ≤ 1024) (hlen : l.length < 100000)
    (hD : Does 21 #[.pointer (some ⟨m, 0, none⟩), .int .i64 j, .int .i64 n] m a s s' (.tuple #[.int .i64 x, .int .i64 0])) (hm : MayO l x n) (w : World) (h : LawK w0 κ μ w b m mo nc t a s l) :
    Calls Tryz.prog 17 #[.pointer (some ⟨b, 0, none⟩), .int .i64 j, .int .i64 n] w fun e w' => e = .returned (.bool true) ∧ ∃ κ' μ' bk, LawK w0 κ' μ' w' b m mo nc t a s' (l ++ [⟨x, bk, List.replicate n 0⟩]) := by
  have HM := Aside0.mk (hD κ w h.glob h.mach)
  have HL := Aside0.mk h
  have x0 := h.x0
  have b1 : decide ((n : Int) < 1) = false := decide_eq_false (by omega)
  have b2 : decide (1024 < (n : Int)) = false := decide_eq_false (by omega)
  have HX := Aside0.mk hm
  clear h hD hm
  go_enter Tryz.func17, Tryz.ntmps17
  go_upto_region 2 with (go_at_call 21; (with_reducible refine HM.out.mono ?_); rintro e_ w1 ⟨rfl, κ1, q1, q2⟩; have HL1 := Aside0.mk (HL.out.stepM q1 q2); clear q1 q2)
  clear x0 HM HL
  have x1 := HL1.out.x1
  go_upto_region 11 with (first | (go_at_call 57; (with_reducible refine (model_cpu _ mo nc l j hj hj2 hnc _ HL1.out.mod).mono ?_); rintro e_ w2 ⟨rfl, rfl⟩) | (go_at_call 58; (with_reducible refine (model_may _ mo nc l x n HX.out _ HL1.out.mod).mono ?_); rintro e_ w3 ⟨rfl, hb⟩; have HL3 := Aside0.mk (HL1.out.below hb); clear hb))
  clear x1 HL1
  obtain ⟨μ1, hμ1⟩ : ∃ μ1, μ.ext w.heap.size 0 = μ1 := ⟨_, rfl⟩
  rw [hμ1] at HL3
  clear hμ1 b1 b2
  obtain ⟨A, c, hB, _⟩ := HL3.out.mod.row
  have x1 := HL3.out.x1
  have y1 := hB.blk.at 1 (.slice A l.length c) rfl
  have info4 : (Tryz.prog.info? 45).map (fun i => (i.zero, i.size, i.bytes)) = some (some (.agg #[.int .i64 0, .slice none 0 0]), 2, 32) := by kernel_rfl
  have hmk := make_bytes n (by omega)
  clear hB
  refine st_ 20 (fun w' => w'.cell? ⟨b, 1, none⟩ = some (.pointer (some ⟨mo, 0, none⟩)) ∧ w'.cell? ⟨mo, 1, none⟩ = some (.slice A l.length c)) [19] ⟨x1, y1⟩ (fun hHeld => ?_)
  have hd_ := below_drew (RowKit.Below.refl w3.heap.size w3)
  have n0_ := Aside0.mk (HL3.out.below hd_)
  clear HL3 x1 y1
  generalize w3.drew = wd at *
  clear hd_
  have HL := n0_
  clear n0_
  have HROW := Aside0.mk HL.out.mod.row
  refine pu_ 0 63 1 ?_
  refine pu_ 1 64 3 ?_
  refine pu_ 2 65 7 ?_
  refine pu_ 4 67 23 ?_
  refine pu_ 5 68 55 ?_
  refine pu_ 6 69 119 ?_
  refine pu_ 11 74 2167 ?_
  refine pu_ 12 75 6263 ?_
  refine ta_ 3 66 6271 hHeld ?_
  refine ta_ 7 70 6399 hHeld ?_
  refine pu_ 8 71 6655 ?_
  refine pu_ 9 72 7167 ?_
  refine ta_ 10 73 8191 hHeld ?_
  refine one_ (i := 13) (N := some 76) (bz 20 16383) rfl rfl (by kernel_rfl) (by decide) (fun K hK => ?_)
  refine va_ ?_
  obtain ⟨A_, c_, hB_, hR_⟩ := HROW.out
  obtain ⟨rfl, rfl⟩ : A_ = A ∧ c_ = c := by
    have h9 := hB_.blk.at 1 (.slice A_ l.length c_) rfl
    rw [show wd.cell? ⟨mo, 1, none⟩ = some (.slice A l.length c) from hHeld.2] at h9
    injection h9 with h9
    injection h9 with h9 _ h8
    exact ⟨h9.symm, h8.symm⟩
  have hU6 : Upd (fun _ => False) μ1 wd (μ1.ext wd.heap.size 4) (wd.alloc (.cells (bv (List.replicate n 0)) 5)) := (Upd.of_below μ1 (below_alloc (RowKit.Below.refl _ _) _)).paint _ _ (Nat.le_refl _)
  have HB6 := Aside0.mk (hB_.upd hU6 (fun h => h))
  have HR6 := Aside0.mk (hR_.upd hU6 (fun h => h))
  have HX6 := Aside0.mk (HL.out.box.upd hU6 (fun h => h))
  clear hB_ hR_ hU6
  refine hK.out _ _ ⟨HX6.out.blk.at 1 _ (by simp [worC]), HB6.out.blk.at 1 (.slice A_ l.length c_) rfl⟩ (fun hHeld => ?_)
  clear hK K
  refine no_ 76 ?_
  refine pu_ 14 77 32767 ?_
  refine one_ (i := 15) (N := some 78) (bz 20 65535) rfl rfl (by kernel_rfl) (by decide) (fun K hK => ?_)
  refine va_ ?_
  refine hK.out _ _ ⟨(HX6.out.blk.alloc _).at 1 _ (by simp [worC]), (HB6.out.blk.alloc _).at 1 (.slice A_ l.length c_) rfl⟩ (fun hHeld => ?_)
  clear hK K
  refine no_ 78 ?_
  refine one_ (i := 16) (N := some 79) (bz 20 131071) rfl rfl (by kernel_rfl) (by decide) (fun K hK => ?_)
  refine step_append_cells (w0 := (wd.alloc (.cells (bv (List.replicate n 0)) 5))) 0 rfl (.tmp 73) (.tmp 78) 29 45 (.agg #[.int .i64 0, .slice none 0 0]) 2 32 rfl Tryz.underlying29 info4 rfl (by decide) (by decide) (.slice A_ l.length c_) l.length (obs l) [.int .i64 x, .slice (some ⟨wd.heap.size, 0, none⟩) n n] rfl (by rw [World.size_alloc]; rfl) rfl (by intro u hu; simp at hu; rcases hu with rfl | rfl <;> rfl) HR6.out.1 (RowKit.Below.refl _ _) (Nat.zero_le _) (by omega) ?_
  intro v7 w7 ho7 hb7 hg7 hat7
  have hG := RowG.grown HR6.out ho7 hg7 hat7
  obtain ⟨A7, c7, rfl⟩ := hG.1.sl
  have HG := Aside0.mk hG
  have p7 := (HX6.out.upd hG.2 (by omega)).blk.at 1 (.pointer (some ⟨mo, 0, none⟩)) (by simp [worC])
  have q7 := (HB6.out.upd hG.2 (by omega)).blk.at 1 (.slice A_ l.length c_) rfl
  have f7 := (HB6.out.upd hG.2 (by omega)).blk.fz 1
  have HN := Aside0.mk (HL.out.stepW (ModK.more HL.out.mod x n (by have := HX.out.2.1; omega) h2 hlen hG.2 (HB6.out.upd hG.2 (by omega)) hG.1).1 (ModK.more HL.out.mod x n (by have := HX.out.2.1; omega) h2 hlen hG.2 (HB6.out.upd hG.2 (by omega)) hG.1).2)
  clear ho7 hb7 hg7 hat7 hG
  refine hK.out _ _ ⟨p7, q7⟩ (fun hHeld => ?_)
  clear hK K
  refine no_ 79 ?_
  refine pu_ 17 80 262143 ?_
  refine pu_ 18 81 524287 ?_
  refine last_ (i := 19) (N := none) (bz 20 1048575) rfl rfl (by kernel_rfl) (by decide) (fun K hK => ?_)
  refine skip_ (w1 := ?_) (by rfl) rfl ?_ ?_
  rotate_left
  · go_simp
    rfl
  refine hK.out _ _ ?_
  clear hK K
  refine done_ (by kernel_rfl) ?_
  go_wp2_with fail
  go_ret
  have hfin := HN.out
  exact ⟨rfl, _, _, _, hfin⟩
end Go.Proofs.YtenkdmloolbdaaaGreatDoor.T
end
section
namespace Go.Proofs.YtenkdmloolbdaaaGreatDoor.T
open Go.RowKit Go.Maps Go.WideShapes Go.Proofs.YtenkdmloolbdaaaGreatDoorW.PrintWords Go.Proofs.YtenkdmloolbdaaaGreatDoorW.PrintLast Go.Proofs.YtenkdmloolbdaaaGreatDoorW.PrintMore
set_option linter.unusedVariables false
set_option linter.unusedSimpArgs false
theorem below_grownB_ {B : Nat} {w0 w w' : World} {row : Option Nat} (h : RowKit.Below B w0 w) (hs : B ≤ w.heap.size) (hg : w.grownBy w' row) (hr : ∀ k, row = some k → B ≤ k) : RowKit.Below B w0 w' :=
  ⟨hg.os.trans h.os, hg.tape.trans h.tape, hg.output.trans h.output, Nat.le_trans h.size hg.size, fun b hb => (hg.block b (by omega) (fun e => by have := hr b e.symm; omega)).trans (h.block b hb)⟩
theorem add_lit_ (b o j : Nat) : (⟨b, o, none⟩ : Addr).add j = ⟨b, o + j, none⟩ := by unfold Addr.add; split <;> simp_all
theorem info_ob : (Tryz.prog.info? 45).map (fun i => (i.zero, i.size, i.bytes)) = some (some (.agg #[.int .i64 0, .slice none 0 0]), 2, 32) := by kernel_rfl
theorem own_cells {w : World} {base e g c n : Nat} {xs : List Value} (h : w.ownsRow base e 2 (.slice (some ⟨g, 0, none⟩) n c) n xs) (j : Nat) (u : Value) (hj : xs[j]? = some u) : w.cell? ⟨g, j, none⟩ = some u :=
  RowG.cells (κ := fun _ => 0) (i := 0) ⟨⟨h.1, h.2.imp id (fun ⟨a, b, c, d, e, f⟩ => ⟨a, b, c, d, Nat.zero_le _, f⟩)⟩, fun _ _ => rfl⟩ j u hj
theorem own_below {w w' : World} {base e : Nat} {sz n : Nat} {v : Value} {xs : List Value} (h : w.ownsRow base e sz v n xs) (hb : RowKit.Below w.heap.size w w') : w'.ownsRow base e sz v n xs :=
  own_move h (fun k hk => hb.block k (own_lt h k hk))
/-- The objects but one, as Go makes them: two appends onto an empty row. -/
theorem two_obs {w : World} {g7 c7 k : Nat} {l : List Ob} (hrow : w.ownsRow 0 45 2 (.slice (some ⟨g7, 0, none⟩) l.length c7) l.length (obs l)) (hk : k < l.length) (hl : l.length ≤ 100000) (A1 : Addr) (hA1 : (if c7 = k + 1 then some (⟨g7, 0, none⟩ : Addr) else some ⟨g7, (k + 1) * 2, none⟩) = some A1) (cc : Nat) :
    ∃ v1 w1 v2 w2, (∀ ty, (Builtin.append_ #[29, 29] ty #[.slice (some ⟨w.heap.size, 0, none⟩) 0 0, .slice (some ⟨g7, 0, none⟩) k c7]).run Tryz.prog (w.alloc (.cells #[] 45)) = .ok v1 w1) ∧
      (∀ ty, (Builtin.append_ #[29, 29] ty #[v1, .slice (some A1) (l.length - (k + 1)) cc]).run Tryz.prog w1 = .ok v2 w2) ∧
      w2.ownsRow 0 45 2 v2 (l.take k ++ l.drop (k + 1)).length (obs (l.take k ++ l.drop (k + 1))) ∧ RowKit.Below w.heap.size w w2 ∧ (∀ j, v2.ownBlock = some j → w.heap.size ≤ j) ∧ RowKit.Below w.heap.size w w1 := by
  obtain ⟨i0, hi0, hz0, hzs, hzb⟩ := info_parts info_ob
  have hlen : (l.take k ++ l.drop (k + 1)).length = k + (l.length - (k + 1)) := by rw [List.length_append, List.length_take, List.length_drop]; omega
  have hal : RowKit.Below w.heap.size w (w.alloc (.cells #[] 45)) := below_alloc (RowKit.Below.refl _ _) _
  have hmade := World.ownsRow_made w (base := 0) (e := 45) (size := 2) #[] 0 (Nat.zero_le _) (by omega) (by simp)
  have hrow1 := own_below hrow hal
  have hsrc1 : ∀ j u, (obs (l.take k))[j]? = some u → (w.alloc (.cells #[] 45)).cell? ((⟨g7, 0, none⟩ : Addr).add j) = some u := by
    intro j u hj
    rw [add_lit_, Nat.zero_add]
    refine own_cells hrow1 j u ?_
    rw [← obs_take l k (by omega), List.getElem?_take] at hj
    split at hj
    · exact hj
    · cases hj
  have h1 : ∃ v1 w1, (∀ ty, (Builtin.append_ #[29, 29] ty #[.slice (some ⟨w.heap.size, 0, none⟩) 0 0, .slice (some ⟨g7, 0, none⟩) k c7]).run Tryz.prog (w.alloc (.cells #[] 45)) = .ok v1 w1) ∧ w1.ownsRow 0 45 2 v1 (0 + k) ([] ++ obs (l.take k)) ∧ (w.alloc (.cells #[] 45)).grownBy w1 (Value.slice (some ⟨w.heap.size, 0, none⟩) 0 0).ownBlock ∧ (v1.ownBlock = (Value.slice (some ⟨w.heap.size, 0, none⟩) 0 0).ownBlock ∨ v1.ownBlock = some (w.alloc (.cells #[] 45)).heap.size) := by
    obtain ⟨v1, w1, hr, ho, hg, _, hat⟩ := run_append_own_at (P := Tryz.prog) (w := w.alloc (.cells #[] 45)) 0 29 0 45 i0 _ 2 32 Tryz.underlying29 hi0 hz0 hzs hzb rfl (by decide) _ 0 [] hmade ⟨g7, 0, none⟩ k c7 (obs (l.take k)) (by rw [obs_len, List.length_take]; omega) hsrc1 (obs_one _) (by unfold maxLen; omega) (by omega) (Nat.zero_le _)
    exact ⟨v1, w1, fun ty => hr, ho, hg, hat⟩
  obtain ⟨v1, w1, hr1, ho1, hg1, hat1⟩ := h1
  have hb1 : RowKit.Below w.heap.size w w1 := below_grownB_ hal hal.size hg1 (fun j hj => by simp [Value.ownBlock] at hj; omega)
  have hrow2 := own_below hrow hb1
  have hsrc2 : ∀ j u, (obs (l.drop (k + 1)))[j]? = some u → w1.cell? (A1.add j) = some u := by
    intro j u hj
    by_cases hc : c7 = k + 1
    · have hn : l.drop (k + 1) = [] := by
        have : l.length ≤ c7 := by
          rcases hrow.2 with ⟨h0, _⟩ | ⟨_, _, _, hv, _, _, hnc, _⟩
          · cases h0
          · injection hv with _ _ hcc; omega
        exact List.drop_of_length_le (by omega)
      rw [hn] at hj; simp [obs] at hj
    · rw [if_neg hc] at hA1
      rw [← Option.some.inj hA1, add_lit_]
      refine own_cells hrow2 _ u ?_
      rw [← obs_drop l (k + 1) (by omega), List.getElem?_drop] at hj
      exact hj
  obtain ⟨v2, w2, hr2, ho2, hg2, _, hat2⟩ := run_append_own_at (P := Tryz.prog) (w := w1) 0 29 0 45 i0 _ 2 32 Tryz.underlying29 hi0 hz0 hzs hzb rfl (by decide) _ (0 + k) _ ho1 A1 (l.length - (k + 1)) cc (obs (l.drop (k + 1))) (by rw [obs_len, List.length_drop]) hsrc2 (obs_one _) (by unfold maxLen; omega) (by omega) (Nat.zero_le _)
  have hf1 : ∀ j, v1.ownBlock = some j → w.heap.size ≤ j := by
    intro j hj
    rcases hat1 with h | h
    · rw [h] at hj; simp [Value.ownBlock] at hj; omega
    · rw [h] at hj; injection hj with hj; have := hal.size; omega
  have hb2 : RowKit.Below w.heap.size w w2 := below_grownB_ hb1 hb1.size hg2 hf1
  have hrow3 : w2.ownsRow 0 45 2 v2 (l.take k ++ l.drop (k + 1)).length (obs (l.take k ++ l.drop (k + 1))) := by
    rw [hlen, obs_append]
    simpa using ho2
  refine ⟨v1, w1, v2, w2, hr1, fun ty => hr2, hrow3, hb2, ?_, hb1⟩
  intro j hj
  rcases hat2 with h | h
  · exact hf1 j (h ▸ hj)
  · rw [h] at hj; injection hj with hj; have := hb1.size; omega
/-- The model, an object taken out. -/
theorem ModK.less {κ : Kol} {w w2 : World} {b nc k : Nat} {l : List Ob} {A : Option Addr} {c c2 : Nat} {A2 : Option Addr} (h : ModK κ w b nc l) (hB : BlkK κ 2 w b #[.int .i64 nc, .slice A l.length c] 31) (hb : RowKit.Below w.heap.size w w2)
    (ho : w2.ownsRow 0 45 2 (.slice A2 (l.take k ++ l.drop (k + 1)).length c2) (l.take k ++ l.drop (k + 1)).length (obs (l.take k ++ l.drop (k + 1)))) (hf : ∀ j, (Value.slice A2 (l.take k ++ l.drop (k + 1)).length c2).ownBlock = some j → w.heap.size ≤ j) :
    ModK (κ.ext w.heap.size 3) (w2.setCell ⟨b, 1, none⟩ (.slice A2 (l.take k ++ l.drop (k + 1)).length c2)) b nc (l.take k ++ l.drop (k + 1)) ∧ Upd (fun z => 2 ≤ z ∧ z ≤ 4) κ w (κ.ext w.heap.size 3) (w2.setCell ⟨b, 1, none⟩ (.slice A2 (l.take k ++ l.drop (k + 1)).length c2)) := by
  have hsub : (l.take k ++ l.drop (k + 1)).Sublist l := by
    have h1 : (l.drop (k + 1)).Sublist (l.drop k) := by rw [← List.drop_drop]; exact List.drop_sublist _ _
    have h2 := List.Sublist.append (List.Sublist.refl (l.take k)) h1
    rwa [List.take_append_drop] at h2
  have hU : Upd (fun z => 2 ≤ z ∧ z ≤ 4) κ w (κ.ext w.heap.size 3) w2 := (Upd.of_below κ hb).paint _ _ (Nat.le_refl _)
  have hU0 : Upd (fun _ => False) κ w (κ.ext w.heap.size 3) w2 := (Upd.of_below κ hb).paint _ _ (Nat.le_refl _)
  have hB2 := hB.upd hU0 (fun h => h)
  have hS : Upd (fun z => z = 2) (κ.ext w.heap.size 3) w2 (κ.ext w.heap.size 3) (w2.setCell ⟨b, 1, none⟩ (.slice A2 (l.take k ++ l.drop (k + 1)).length c2)) := (Upd.refl _ _ _).set ⟨b, 1, none⟩ (fun _ => hB2.kol) _
  have hR : RowG (κ.ext w.heap.size 3) 3 w2 45 2 (.slice A2 (l.take k ++ l.drop (k + 1)).length c2) (l.take k ++ l.drop (k + 1)).length (obs (l.take k ++ l.drop (k + 1))) := ⟨ho, fun g hg => Kol.ext_new κ (hf g hg)⟩
  exact ⟨⟨⟨A2, c2, hB2.set 1 _, hR.upd hS (by omega)⟩, fun o ho => ((h.bl o (hsub.subset ho)).upd hU0 (fun h => h)).upd hS (by omega), h.nd.sublist (hsub.map _), Nat.le_trans hsub.length_le h.len, fun o ho => h.val o (hsub.subset ho)⟩, hU.then hS (fun c hc => by omega)⟩
set_option maxHeartbeats 4000000 in
set_option maxRecDepth 100000 in
theorem law_free (w0 : World) (κ μ : Kol) (b m mo nc : Nat) (t : Top) (a : Ad) (s s' : St) (l : List Ob) (j : Int) (x k : Nat) (hj : 0 ≤ j) (hj2 : j < nc) (hnc : nc ≤ 1000) (hk : k < l.length) (hf : fndI l x = k)
    (hD : Does 43 #[.pointer (some ⟨m, 0, none⟩), .int .i64 j, .int .i64 x] m a s s' (.int .i64 0)) (w : World) (h : LawK w0 κ μ w b m mo nc t a s l) :
    Calls Tryz.prog 19 #[.pointer (some ⟨b, 0, none⟩), .int .i64 j, .int .i64 x] w fun e w' => e = .returned (.bool true) ∧ ∃ κ' μ', LawK w0 κ' μ' w' b m mo nc t a s' (l.take k ++ l.drop (k + 1)) := by
  have HM := Aside0.mk (hD κ w h.glob h.mach)
  have HL := Aside0.mk h
  have x0 := h.x0
  have b1 : decide ((k : Int) < 0) = false := decide_eq_false (by omega)
  have HF := Aside0.mk hf
  have hlen := h.mod.len
  clear h hD hf
  go_enter Tryz.func19, Tryz.ntmps19
  go_upto_region 2 with (go_at_call 43; (with_reducible refine HM.out.mono ?_); rintro e_ w1 ⟨rfl, κ1, q1, q2⟩; have HL1 := Aside0.mk (HL.out.stepM q1 q2); clear q1 q2)
  clear x0 HM HL
  have x1 := HL1.out.x1
  have HFN := Aside0.mk (model_find _ mo nc l x _ HL1.out.mod)
  rw [HF.out] at HFN
  go_upto_region 8 with (first | (go_at_call 57; (with_reducible refine (model_cpu _ mo nc l j hj hj2 hnc _ HL1.out.mod).mono ?_); rintro e_ w2 ⟨rfl, rfl⟩) | (go_at_call 60; (with_reducible refine HFN.out.mono ?_); rintro e_ w3 ⟨rfl, rfl⟩))
  clear x1 HFN b1
  obtain ⟨μ1, hμ1⟩ : ∃ μ1, μ.ext w.heap.size 0 = μ1 := ⟨_, rfl⟩
  rw [hμ1] at HL1
  clear hμ1
  obtain ⟨A, c, hB, hR⟩ := HL1.out.mod.row
  obtain ⟨g, rfl, _⟩ := obs_at hR k hk
  have hlc : l.length ≤ c := by
    rcases hR.1.2 with ⟨h0, _⟩ | ⟨_, _, _, hv, _, _, hnc, _⟩
    · cases h0
    · injection hv with _ _ hcc; omega
  have hcm : c ≤ 9223372036854775807 := by
    rcases hR.1.2 with ⟨h0, _⟩ | ⟨_, _, _, hv, _, _, hnc, hcm, _⟩
    · cases h0
    · injection hv with _ _ hcc
      unfold maxLen at hcm
      omega
  have x1 := HL1.out.x1
  have y1 := hB.blk.at 1 (.slice (some ⟨g, 0, none⟩) l.length c) rfl
  have HB := Aside0.mk hB
  have HR := Aside0.mk hR
  clear hB hR
  refine st_ 29 (fun w' => w'.cell? ⟨b, 1, none⟩ = some (.pointer (some ⟨mo, 0, none⟩)) ∧ w'.cell? ⟨mo, 1, none⟩ = some (.slice (some ⟨g, 0, none⟩) l.length c)) [28] ⟨x1, y1⟩ (fun hHeld => ?_)
  have hd_ := below_drew (RowKit.Below.refl w3.heap.size w3)
  have n0_ := Aside0.mk (HL1.out.below hd_)
  have n1_ := Aside0.mk (HB.out.below hd_)
  have n2_ := Aside0.mk (HR.out.below hd_)
  clear HL1 HB HR x1 y1
  generalize w3.drew = wd at *
  clear hd_
  have HL := n0_
  have HB := n1_
  have HR := n2_
  clear n0_ n1_ n2_
  obtain ⟨Ad, hAd⟩ : ∃ Ad : Addr, (if c = k + 1 then some (⟨g, 0, none⟩ : Addr) else some ⟨g, (k + 1) * 2, none⟩) = some Ad := by
    by_cases h : c = k + 1
    · exact ⟨_, if_pos h⟩
    · exact ⟨_, if_neg h⟩
  have HAD := Aside0.mk hAd
  clear hAd
  obtain ⟨k1, hk1e⟩ : ∃ k1, k + 1 = k1 := ⟨_, rfl⟩
  obtain ⟨v1, w5, v2, w6, hr1, hr2, hrow5, hb6, hf6, hb5⟩ := two_obs HR.out.1 hk hlen Ad HAD.out (c - k1)
  have hAd := HAD.out
  rw [hk1e] at hr2 hAd
  have hV2 : RowG μ1 3 w6 45 2 v2 (l.take k ++ l.drop (k + 1)).length (obs (l.take k ++ l.drop (k + 1))) → ∃ A2 c2, v2 = .slice A2 (l.take k ++ l.drop (k + 1)).length c2 := fun h => h.sl
  obtain ⟨A2, c2, hv2⟩ : ∃ A2 c2, v2 = .slice A2 (l.take k ++ l.drop (k + 1)).length c2 := by
    rcases hrow5.2 with ⟨h0, hz⟩ | ⟨bb, cap, cur, hv, _⟩
    · exact ⟨none, 0, by rw [h0, hz]⟩
    · exact ⟨_, cap, hv⟩
  subst hv2
  have HN := Aside0.mk (HL.out.stepW (ModK.less HL.out.mod HB.out hb6 hrow5 hf6).1 (ModK.less HL.out.mod HB.out hb6 hrow5 hf6).2)
  have HB5 := Aside0.mk (HB.out.blk.below hb5)
  have HX5 := Aside0.mk (HL.out.box.blk.below hb5)
  have HB6 := Aside0.mk (HB.out.blk.below hb6)
  have HX6 := Aside0.mk (HL.out.box.blk.below hb6)
  clear hrow5 hb6 hb5 hf6 hV2
  obtain ⟨n2, hn2⟩ : ∃ n, (l.take k ++ l.drop (k + 1)).length = n := ⟨_, rfl⟩
  rw [hn2] at hr2 HN
  clear hn2
  have hkc : k ≤ c := by omega
  have hk1l : k1 ≤ l.length := by omega
  have hk1c : k1 ≤ c := by omega
  have hk1i : (k1 : Int) ≤ (l.length : Int) := by omega
  have hk1z : (0 : Int) ≤ (k1 : Int) := by omega
  have hki : (k : Int) ≤ (l.length : Int) := by omega
  have hkz : (0 : Int) ≤ (k : Int) := by omega
  have hwk : wrap64 ((k : Int) + 1) = (k1 : Int) := by rw [IntWalk.wrap64_in _ ⟨by omega, by omega⟩]; omega
  refine pu_ 0 38 1 ?_
  refine pu_ 1 39 3 ?_
  refine pu_ 2 40 7 ?_
  refine pu_ 5 43 39 ?_
  refine pu_ 6 44 103 ?_
  refine pu_ 7 45 231 ?_
  refine pu_ 12 50 4327 ?_
  refine pu_ 15 53 37095 ?_
  refine pu_ 16 54 102631 ?_
  refine pu_ 17 55 233703 ?_
  refine pu_ 22 60 4428007 ?_
  refine pu_ 23 61 12816615 ?_
  refine ta_ 3 41 12816623 hHeld ?_
  refine ta_ 8 46 12816879 hHeld ?_
  refine pu_ 9 47 12817391 ?_
  refine pu_ 10 48 12818415 ?_
  refine ta_ 11 49 12820463 hHeld ?_
  refine pu_ 13 51 12828655 ?_
  refine ta_ 18 56 13090799 hHeld ?_
  refine pu_ 19 57 13615087 ?_
  refine pu_ 20 58 14663663 ?_
  refine ta_ 21 59 16760815 hHeld ?_
  refine pu_ 24 62 33538031 ?_
  refine one_ (i := 4) (N := some 42) (bz 29 33538047) rfl rfl (by kernel_rfl) (by decide) (fun K hK => ?_)
  refine va_ ?_
  refine hK.out _ _ ⟨(HL.out.box.blk.alloc _).at 1 _ (by simp [worC]), (HB.out.blk.alloc _).at 1 (.slice (some ⟨g, 0, none⟩) l.length c) rfl⟩ (fun hHeld => ?_)
  clear hK K
  refine no_ 42 ?_
  refine one_ (i := 14) (N := some 52) (bz 29 33554431) rfl rfl (by kernel_rfl) (by decide) (fun K hK => ?_)
  refine TS.step_append_eq rfl _ _ 29 29 rfl _ _ rfl rfl (hr1 _) ?_
  refine hK.out _ _ ⟨HX5.out.at 1 _ (by simp [worC]), HB5.out.at 1 (.slice (some ⟨g, 0, none⟩) l.length c) rfl⟩ (fun hHeld => ?_)
  clear hK K
  refine no_ 52 ?_
  refine one_ (i := 25) (N := some 63) (bz 29 67108863) rfl rfl (by kernel_rfl) (by decide) (fun K hK => ?_)
  refine TS.step_append_eq rfl _ _ 29 29 rfl _ _ rfl rfl (hr2 _) ?_
  refine hK.out _ _ ⟨HX6.out.at 1 _ (by simp [worC]), HB6.out.at 1 (.slice (some ⟨g, 0, none⟩) l.length c) rfl⟩ (fun hHeld => ?_)
  clear hK K
  refine no_ 63 ?_
  refine pu_ 26 64 134217727 ?_
  refine pu_ 27 65 268435455 ?_
  refine last_ (i := 28) (N := none) (bz 29 536870911) rfl rfl (by kernel_rfl) (by decide) (fun K hK => ?_)
  have f7 := HB6.out.fz 1
  refine skip_ (w1 := ?_) (by rfl) rfl ?_ ?_
  rotate_left
  · go_simp
    rfl
  refine hK.out _ _ ?_
  clear hK K
  refine done_ (by kernel_rfl) ?_
  go_wp2_with fail
  go_ret
  have hfin := HN.out
  exact ⟨rfl, _, _, hfin⟩
end Go.Proofs.YtenkdmloolbdaaaGreatDoor.T
end
section
namespace Go.Proofs.YtenkdmloolbdaaaGreatDoor.T
open Go.RowKit Go.Maps Go.WideShapes Go.Proofs.YtenkdmloolbdaaaGreatDoorW.PrintWords Go.Proofs.YtenkdmloolbdaaaGreatDoorW.PrintLast Go.Proofs.YtenkdmloolbdaaaGreatDoorW.PrintMore
set_option linter.unusedVariables false
set_option linter.unusedSimpArgs false
set_option maxHeartbeats 4000000 in
set_option maxRecDepth 100000 in
theorem law_free_bad (w0 : World) (κ μ : Kol) (b m mo nc : Nat) (t : Top) (a : Ad) (s s' : St) (l : List Ob) (j : Int) (x : Int) (hj : 0 ≤ j) (hj2 : j < nc) (hnc : nc ≤ 1000) (hf : ∀ o ∈ l, (o.addr : Int) ≠ x)
    (hD : Does 43 #[.pointer (some ⟨m, 0, none⟩), .int .i64 j, .int .i64 x] m a s s' (.int .i64 6)) (w : World) (h : LawK w0 κ μ w b m mo nc t a s l) :
    Calls Tryz.prog 19 #[.pointer (some ⟨b, 0, none⟩), .int .i64 j, .int .i64 x] w fun e w' => e = .returned (.bool true) ∧ ∃ κ' μ', LawK w0 κ' μ' w' b m mo nc t a s' l := by
  have HM := Aside0.mk (hD κ w h.glob h.mach)
  have HL := Aside0.mk h
  have x0 := h.x0
  have HF := Aside0.mk (fndI_none l x hf)
  clear h hD hf
  go_enter Tryz.func19, Tryz.ntmps19
  go_upto_region 2 with (go_at_call 43; (with_reducible refine HM.out.mono ?_); rintro e_ w1 ⟨rfl, κ1, q1, q2⟩; have HL1 := Aside0.mk (HL.out.stepM q1 q2); clear q1 q2)
  clear x0 HM HL
  have x1 := HL1.out.x1
  have HFN := Aside0.mk (model_find _ mo nc l x _ HL1.out.mod)
  rw [HF.out] at HFN
  go_wp2_with (first | (go_at_call 57; (with_reducible refine (model_cpu _ mo nc l j hj hj2 hnc _ HL1.out.mod).mono ?_); rintro e_ w2 ⟨rfl, rfl⟩) | (go_at_call 60; (with_reducible refine HFN.out.mono ?_); rintro e_ w3 ⟨rfl, rfl⟩))
  go_ret
  have hfin := HL1.out
  exact ⟨rfl, _, _, hfin⟩
theorem obs_set (l : List Ob) (k : Nat) (hk : k < l.length) (bs : List Nat) (hb : bs.length = l[k].bs.length) : obs (l.set k { l[k] with bs := bs }) = obs l := by
  unfold obs
  rw [List.flatMap_def, List.flatMap_def, List.map_set]
  have : Ob.cells { l[k] with bs := bs } = (l.map Ob.cells)[k]'(by simpa using hk) := by
    rw [List.getElem_map]
    simp only [Ob.cells, hb]
  rw [this, List.set_getElem_self]
/-- The model, an object's bytes written. -/
theorem ModK.wrote {κ : Kol} {w w' : World} {b nc k : Nat} {l : List Ob} (h : ModK κ w b nc l) (hk : k < l.length) (bs : List Nat) (hb : bs.length = l[k].bs.length) (hB : BlkK κ 4 w' l[k].blk (bv bs) 5) (hoth : ∀ q, q ≠ l[k].blk → w'.heap[q]? = w.heap[q]?) (hU : Upd (· = 4) κ w κ w') :
    ModK κ w' b nc (l.set k { l[k] with bs := bs }) := by
  obtain ⟨A, c, h1, h2⟩ := h.row
  have hmem : ∀ o ∈ l.set k { l[k] with bs := bs }, o = { l[k] with bs := bs } ∨ (o ∈ l ∧ o.blk ≠ l[k].blk) := by
    intro o ho
    obtain ⟨q, hq, rfl⟩ := List.mem_iff_getElem.1 ho
    rw [List.length_set] at hq
    by_cases e : k = q
    · subst e
      exact .inl (List.getElem_set_self _)
    · rw [List.getElem_set_ne e]
      refine .inr ⟨List.getElem_mem hq, fun e2 => e ?_⟩
      have hn := List.pairwise_iff_getElem.1 (show (l.map Ob.blk).Pairwise (· ≠ ·) from h.nd)
      rcases Nat.lt_or_ge k q with h9 | h9
      · exact absurd (by rw [List.getElem_map, List.getElem_map]; exact e2.symm) (hn k q (by simpa using hk) (by simpa using hq) h9)
      · exact absurd (by rw [List.getElem_map, List.getElem_map]; exact e2) (hn q k (by simpa using hq) (by simpa using hk) (by omega))
  refine ⟨⟨A, c, by rw [List.length_set]; exact h1.upd hU (by omega), by rw [List.length_set, obs_set l k hk bs hb]; exact h2.upd hU (by omega)⟩, fun o ho => ?_, ?_, by rw [List.length_set]; exact h.len, fun o ho => ?_⟩
  · rcases hmem o ho with rfl | ⟨h3, h4⟩
    · exact hB
    · exact ⟨(h.bl o h3).kol, (hoth o.blk h4).trans (h.bl o h3).blk⟩
  · rw [List.map_set]
    have : (l.map Ob.blk).set k l[k].blk = l.map Ob.blk := by
      rw [show l[k].blk = (l.map Ob.blk)[k]'(by simpa using hk) by rw [List.getElem_map], List.set_getElem_self]
    show ((l.map Ob.blk).set k l[k].blk).Nodup
    rw [this]
    exact h.nd
  · rcases hmem o ho with rfl | ⟨h3, h4⟩
    · exact ⟨(h.val _ (List.getElem_mem hk)).1, by show bs.length ≤ 1024; rw [hb]; exact (h.val _ (List.getElem_mem hk)).2⟩
    · exact h.val o h3
/-- copy into an object's bytes. -/
theorem copy_obs (κ : Kol) (w : World) (g o z n dc cb : Nat) (B : Option Addr) (xs bs : List Nat) (hg : BlkK κ 4 w g (bv xs) 5) (hz : o + z = xs.length) (hn : n ≤ z) (hr : RdB w B n bs) :
    ∃ v' w', (∀ ty, (Builtin.copy_ #[23, 23] ty #[.slice (some ⟨g, o, none⟩) z dc, .slice B n cb]).run Tryz.prog w = .ok v' w') ∧ BlkK κ 4 w' g (bv (spliceB xs o bs)) 5 ∧ (∀ q, q ≠ g → w'.heap[q]? = w.heap[q]?) ∧ Upd (· = 4) κ w κ w' := by
  have hl := hr.len
  have hinfo : (Tryz.prog.info? 5).map (·.size) = some 1 := by kernel_rfl
  cases B with
  | some ad =>
    refine ⟨goInt n, w.setRow g (bv (spliceB xs o bs)), fun ty => ?_, hg.setRow (bv (spliceB xs o bs)), fun q hq => setRow_other w g q _ hq, Upd.setRow hg.kol _⟩
    · have hcp := run_copy_row (P := Tryz.prog) (ty := ty) w 23 23 5 g o z dc ad n cb (bv xs) 5 (bs.map fun (x : Nat) => Value.int .u8 x) Tryz.underlying23 hinfo hg.blk
        (by rw [List.length_map, hl]; exact (Nat.min_eq_left hn).symm) (fun j v hv => by
          rw [List.getElem?_map] at hv
          cases hy : bs[j]? with
          | none => rw [hy] at hv; simp at hv
          | some y =>
            rw [hy] at hv; simp at hv; rw [← hv]
            have hj : j < bs.length := (List.getElem?_eq_some_iff.1 hy).1
            obtain ⟨ad2, e2, h2⟩ := hr.cell (by omega)
            obtain rfl := Option.some.inj e2
            exact h2 j y hy)
        (by unfold bv; simp; omega) (by intro v hv; obtain ⟨y, _, rfl⟩ := List.mem_map.1 hv; rfl)
      rw [splice_bv, List.length_map, hl] at hcp
      exact hcp
  | none =>
    obtain rfl : n = 0 := by
      rcases Nat.eq_zero_or_pos n with h | h
      · exact h
      · obtain ⟨_, e, _⟩ := hr.cell h
        cases e
    obtain rfl := List.length_eq_zero_iff.1 hl
    have hs : spliceB xs o [] = xs := by unfold spliceB; simp
    rw [hs]
    refine ⟨goInt 0, w, fun ty => ?_, hg, fun q hq => rfl, Upd.refl _ _ _⟩
    cases hq : Tryz.prog.info? 5 with
    | none => simp [hq] at hinfo
    | some i =>
      have hi : i.size = 1 := by simpa [hq] using hinfo
      simp [Builtin.copy_, run_underlying Tryz.underlying23, Builtin.lenOf, Builtin.firstCells, sizeOf, typeInfo, hq, hi]
      try rfl
end Go.Proofs.YtenkdmloolbdaaaGreatDoor.T
end
section
namespace Go.Proofs.YtenkdmloolbdaaaGreatDoor.T
open Go.RowKit Go.Maps Go.WideShapes Go.Proofs.YtenkdmloolbdaaaGreatDoorW.PrintWords Go.Proofs.YtenkdmloolbdaaaGreatDoorW.PrintLast Go.Proofs.YtenkdmloolbdaaaGreatDoorW.PrintMore
set_option linter.unusedVariables false
set_option linter.unusedSimpArgs false
/-- What a Write of the machine does, of bytes that a step of the machine leaves. -/
def DoesW (j x o : Int) (B : Option Addr) (n cb : Nat) (bs : List Nat) (m : Nat) (a : Ad) (s s' : St) : Prop :=
  ∀ κ w, GlobK κ w → MachK κ w m a s → RdS (fun z => 1 ≤ z) κ w B bs → Calls Tryz.prog 23 #[.pointer (some ⟨m, 0, none⟩), .int .i64 j, .int .i64 x, .int .i64 o, .slice B n cb] w fun e w' => e = .returned (.int .i64 0) ∧ ∃ κ', MachK κ' w' m a s' ∧ Upd (fun z => 1 ≤ z) κ w κ' w'
/-- What a Read of the machine does. -/
def DoesR (j x o : Int) (n : Nat) (xs : List Nat) (m : Nat) (a : Ad) (s : St) : Prop :=
  ∀ κ w, GlobK κ w → MachK κ w m a s → Calls Tryz.prog 24 #[.pointer (some ⟨m, 0, none⟩), .int .i64 j, .int .i64 x, .int .i64 o, .int .i64 n] w fun e w' => ∃ A cp, e = .returned (.tuple #[.slice A n cp, .int .i64 0]) ∧ RdB w' A n xs ∧ RowKit.Below w.heap.size w w'
set_option maxHeartbeats 4000000 in
set_option maxRecDepth 100000 in
theorem law_write (w0 : World) (κ μ : Kol) (b m mo nc : Nat) (t : Top) (a : Ad) (s s' : St) (l : List Ob) (j : Int) (x k o n cb : Nat) (B : Option Addr) (bs : List Nat) (hj : 0 ≤ j) (hj2 : j < nc) (hnc : nc ≤ 1000) (hk : k < l.length) (hf : fndI l x = k) (hfit : o + n ≤ l[k].bs.length) (ho : o < l[k].bs.length)
    (hD : DoesW j x o B n cb bs m a s s') (w : World) (h : LawK w0 κ μ w b m mo nc t a s l) (hs : RdS (fun z => 1 ≤ z) κ w B bs) (hn : bs.length = n) :
    Calls Tryz.prog 18 #[.pointer (some ⟨b, 0, none⟩), .int .i64 j, .int .i64 x, .int .i64 o, .slice B n cb] w fun e w' => e = .returned (.bool true) ∧ ∃ κ' μ', LawK w0 κ' μ' w' b m mo nc t a s' (l.set k { l[k] with bs := spliceB l[k].bs o bs }) := by
  have HM := Aside0.mk (hD κ w h.glob h.mach hs)
  have HL := Aside0.mk h
  have HS := Aside0.mk hs
  have x0 := h.x0
  have HF := Aside0.mk hf
  have hlen := h.mod.len
  clear h hD hf hs
  go_enter Tryz.func18, Tryz.ntmps18
  go_upto_region 2 with (go_at_call 23; (with_reducible refine HM.out.mono ?_); rintro e_ w1 ⟨rfl, κ1, q1, q2⟩; have HL1 := Aside0.mk (HL.out.stepM q1 q2); have HRD := Aside0.mk (HS.out _ _ q2); clear q1 q2)
  clear x0 HM HL HS
  have x1 := HL1.out.x1
  go_upto_region 7 with (go_at_call 59; (with_reducible refine (model_reach _ mo nc l j hj hj2 hnc x k o n hk HF.out hfit _ HL1.out.mod).mono ?_); rintro e_ w2 ⟨rfl, rfl⟩)
  clear x1
  obtain ⟨μ1, hμ1⟩ : ∃ μ1, μ.ext w.heap.size 0 = μ1 := ⟨_, rfl⟩
  rw [hμ1] at HL1
  clear hμ1
  rw [hn] at HRD
  obtain ⟨A, c, hB, hR⟩ := HL1.out.mod.row
  obtain ⟨g, rfl, _, s1⟩ := obs_at hR k hk
  have x1 := HL1.out.x1
  have y1 := hB.blk.at 1 (.slice (some ⟨g, 0, none⟩) l.length c) rfl
  obtain ⟨z, hz⟩ : ∃ z, z + o = l[k].bs.length := ⟨l[k].bs.length - o, by omega⟩
  have hk0 : (0 : Int) ≤ (k : Int) := by omega
  have hkI : (k : Int) < (l.length : Int) := by omega
  have hzl := (HL1.out.mod.val l[k] (List.getElem_mem hk)).2
  have HV := Aside0.mk (And.intro hfit hz)
  rw [← hz] at s1 hfit ho hzl
  have HB := Aside0.mk hB
  have HR := Aside0.mk hR
  obtain ⟨bk, hbk⟩ : ∃ bk, l[k].blk = bk := ⟨_, rfl⟩
  rw [hbk] at s1
  have HBK := Aside0.mk hbk
  have hoz : (o : Int) ≤ (z : Int) + (o : Int) := by omega
  have hz0 : ¬ z = 0 := by omega
  clear hB hR hbk hz
  refine st_ 20 (fun w' => w'.cell? ⟨b, 1, none⟩ = some (.pointer (some ⟨mo, 0, none⟩)) ∧ w'.cell? ⟨mo, 1, none⟩ = some (.slice (some ⟨g, 0, none⟩) l.length c) ∧ w'.cell? ⟨g, k * 2 + 1, none⟩ = some (.slice (some ⟨bk, 0, none⟩) (z + o) (z + o))) [19] ⟨x1, y1, s1⟩ (fun hHeld => ?_)
  have hd_ := below_drew (RowKit.Below.refl w2.heap.size w2)
  have n0_ := Aside0.mk (HL1.out.below hd_)
  have n1_ := Aside0.mk (HRD.out.below hd_)
  clear HL1 HRD HB HR x1 y1 s1
  generalize w2.drew = wd at *
  clear hd_
  have HL := n0_
  have HRD := n1_
  clear n0_ n1_
  have HFN := Aside0.mk (model_find _ mo nc l x _ HL.out.mod)
  rw [HF.out] at HFN
  have hob := HL.out.mod.bl l[k] (List.getElem_mem hk)
  have hlw : (spliceB l[k].bs o bs).length = l[k].bs.length := splice_len _ _ _ (by rw [hn]; exact HV.out.1)
  obtain ⟨v7, w7, hcp, q1, q2, q3⟩ := copy_obs μ1 wd l[k].blk o z n z cb B l[k].bs bs hob (by have := HV.out.2; omega) (by have := HV.out; omega) HRD.out
  have HN := Aside0.mk (HL.out.stepW (HL.out.mod.wrote hk _ hlw q1 q2 q3) (q3.mono (fun c e => by omega)))
  rw [HBK.out] at hcp
  clear hob hlw q1 q2 q3
  refine pu_ 0 41 1 ?_
  refine pu_ 1 42 3 ?_
  refine pu_ 2 43 7 ?_
  refine pu_ 7 48 135 ?_
  refine pu_ 8 49 391 ?_
  refine pu_ 9 50 903 ?_
  refine pu_ 11 52 2951 ?_
  refine pu_ 16 57 68487 ?_
  refine pu_ 18 59 330631 ?_
  refine ta_ 3 44 330639 hHeld ?_
  refine pu_ 4 45 330655 ?_
  refine pu_ 5 46 330687 ?_
  refine ta_ 6 47 330751 hHeld ?_
  refine ta_ 10 51 331775 hHeld ?_
  refine one_ (i := 12) (N := some 53) (bz 20 335871) rfl rfl (by kernel_rfl) (by decide) (fun K hK => ?_)
  refine goes_ Tryz.func60 (by kernel_rfl) rfl #[.pointer (some ⟨mo, 0, none⟩), .int .i64 x] (by rfl) rfl rfl (by simp only [List.map_toArray, List.map_cons, List.map_nil]; rfl) ?_
  with_reducible refine (HFN.out).mono ?_
  rintro e_ w5 ⟨rfl, rfl⟩
  refine ⟨_, rfl, ?_⟩
  refine hK.out _ _ ⟨hHeld.1, hHeld.2.1, hHeld.2.2⟩ (fun hHeld => ?_)
  clear hK K
  refine no_ 53 ?_
  refine pu_ 13 54 344063 ?_
  refine pu_ 14 55 360447 ?_
  refine ta_ 15 56 393215 hHeld ?_
  refine pu_ 17 58 524287 ?_
  refine last_ (i := 19) (N := some 60) (bz 20 1048575) rfl rfl (by kernel_rfl) (by decide) (fun K hK => ?_)
  refine TS.step_copy_eq rfl _ _ 23 23 rfl _ _ rfl rfl (hcp _) ?_
  refine hK.out _ _ ?_
  clear hK K
  refine no_ 60 ?_
  refine done_ (by kernel_rfl) ?_
  go_wp2_with fail
  go_ret
  exact ⟨rfl, _, _, HN.out⟩
/-- Bytes in memory, as a string. -/
theorem conv_rd (W : World) (A : Option Addr) (n c : Nat) (xs : List Nat) (h : RdB W A n xs) : (convert 23 9 (.slice A n c)).run Tryz.prog W = .ok (.string (strOfNums (xs.map fun (x : Nat) => (x : Int)))) W := by
  have hl := h.len
  cases A with
  | none =>
    obtain rfl : n = 0 := by
      rcases Nat.eq_zero_or_pos n with h9 | h9
      · exact h9
      · obtain ⟨_, e, _⟩ := h.cell h9
        cases e
    obtain rfl := List.length_eq_zero_iff.1 hl
    have := run_convert_bytes_nil (P := Tryz.prog) W 23 5 Tryz.underlying23 Tryz.underlying5 0 c 9 Tryz.underlying9
    rw [this]
    rfl
  | some ad =>
    have hq : (loadCells ad n).run Tryz.prog W = .ok ((xs.map fun (x : Nat) => (x : Int)).map (Value.int .u8)).toArray W := by
      have := run_loadCells_list (P := Tryz.prog) W ad (((xs.map fun (x : Nat) => (x : Int)).map (Value.int .u8))) (fun j v hj => by
        rw [List.getElem?_map, List.getElem?_map] at hj
        cases hy : xs[j]? with
        | none => rw [hy] at hj; simp at hj
        | some y =>
          rw [hy] at hj; simp at hj; rw [← hj]
          have hjl : j < xs.length := (List.getElem?_eq_some_iff.1 hy).1
          obtain ⟨ad2, e2, h2⟩ := h.cell (by omega)
          obtain rfl := Option.some.inj e2
          exact h2 j y hy)
      rw [List.length_map, List.length_map, hl] at this
      exact this
    rw [run_convert_bytes_string W 23 9 5 _ n c Tryz.underlying23 Tryz.underlying5 Tryz.underlying9, run_bytesToString W _ n c _ hq, foldl_push_bytes]
    simp [strOfNums, ByteArray.empty, ByteArray.emptyWithCapacity]
    try rfl
theorem rd_obs {κ : Kol} {w : World} {g o n : Nat} {xs : List Nat} (h : BlkK κ 4 w g (bv xs) 5) (hl : o + n ≤ xs.length) (h1 : xs.length ≤ 1024) : RdB w (some ⟨g, o, none⟩) n ((xs.drop o).take n) := by
  exact bv_cells h.blk o n hl (by omega)
end Go.Proofs.YtenkdmloolbdaaaGreatDoor.T
end
