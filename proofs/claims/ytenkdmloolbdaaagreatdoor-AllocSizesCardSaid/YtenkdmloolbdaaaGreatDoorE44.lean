import Derived.Test.YtenkdmloolbdaaaGreatDoorE42
import Derived.Test.YtenkdmloolbdaaaGreatDoorE04
import Derived.Test.YtenkdmloolbdaaaGreatDoorE43
import Derived.Test.YtenkdmloolbdaaaGreatDoorE40
import Derived.Test.YtenkdmloolbdaaaGreatDoorE18
set_option linter.unusedVariables false
set_option linter.unusedSimpArgs false
set_option maxHeartbeats 8000000
set_option maxRecDepth 100000
section
namespace Go.Proofs.YtenkdmloolbdaaaGreatDoor.T
open Go.RowKit Go.Maps Go.WideShapes Go.Proofs.YtenkdmloolbdaaaGreatDoorW.PrintWords Go.Proofs.YtenkdmloolbdaaaGreatDoorW.PrintLast Go.Proofs.YtenkdmloolbdaaaGreatDoorW.PrintMore
def worC (m mo : Nat) (t : List Value) : Array Value := (.pointer (some ⟨m, 0, none⟩) :: .pointer (some ⟨mo, 0, none⟩) :: t).toArray
structure Top where
 n : Nat
 f : Nat
 cs : List Int
 ds : List (List Int)
 A : Option Addr
 ca : Nat
 B : Option Addr
 cb : Nat
 ps : List Value
def Top.cells (t : Top) : List Value := .int .i64 t.n :: .int .i64 t.f :: .slice t.A t.cs.length t.ca :: .slice t.B t.ds.length t.cb :: t.ps
structure LawK (w0 : World) (κ μ : Kol) (w : World) (b m mo nc : Nat) (t : Top) (a : Ad) (s : St) (l : List Ob) : Prop where
 old : ∀ x, x < w0.heap.size → κ x = 0 ∧ μ x = 0
 bel : RowKit.Below w0.heap.size w0 w
 dis : ∀ x, κ x = 0 ∨ μ x = 0
 gl : GlobR w0
 mach : MachK κ w m a s
 box : BlkK μ 1 w b (worC m mo t.cells) 43
 mod : ModK μ w mo nc l
 tcs : KR (Kd.int .i64) 3 μ 5 w (.slice t.A t.cs.length t.ca) t.cs
 tds : KR (Kd.slice 3 (Kd.int .i64)) 34 μ 5 w (.slice t.B t.ds.length t.cb) t.ds
theorem GlobR.pos {w : World} (h : GlobR w) : 0 < w.heap.size := World.block_lt_of_cell? w _ (h.s 0 (by decide))
section
variable {w0 w w1 : World} {κ μ κ' μ' : Kol} {b m mo nc : Nat} {t : Top} {a : Ad} {s s' : St} {l l' : List Ob}
theorem LawK.glob (h : LawK w0 κ μ w b m mo nc t a s l) : GlobK κ w := ⟨h.gl.below h.bel, (h.old _ h.gl.pos).1⟩
theorem below_kol {B : Nat} {ν ν' : Kol} (hB : B ≤ w.heap.size) (ho : ∀ x, x < B → ν x = 0) (hU : Upd (fun z => 1 ≤ z) ν w ν' w1) : RowKit.Below B w w1 :=
 hU.chg.to_below B hB (fun x hx => Classical.byContradiction fun hlt => by have h9 := ho x (by omega); have hx : 1 ≤ ν x := hx; omega)
theorem LawK.below (h : LawK w0 κ μ w b m mo nc t a s l) (k : RowKit.Below w.heap.size w w1) : LawK w0 κ μ w1 b m mo nc t a s l :=
 ⟨h.old, below_then h.bel h.bel.size k, h.dis, h.gl, h.mach.below k, h.box.below k, h.mod.below k, h.tcs.below k, h.tds.below k⟩
theorem LawK.stepM (h : LawK w0 κ μ w b m mo nc t a s l) (hM : MachK κ' w1 m a s') (hU : Upd (fun z => 1 ≤ z) κ w κ' w1) : LawK w0 κ' (μ.ext w.heap.size 0) w1 b m mo nc t a s' l := by
 have hV : Upd (· = 0) μ w (μ.ext w.heap.size 0) w1 := ⟨fun x hx => Kol.ext_old μ hx, ⟨hU.chg.os, hU.chg.tape, hU.chg.output, hU.chg.size, fun x hx hne => hU.chg.block x hx (fun h1 => by
  rcases h.dis x with h2 | h2
  ·have h1 : 1 ≤ κ x := h1; omega
  ·exact hne h2)⟩⟩
 refine ⟨fun x hx => ?_, h.bel.trans (below_kol h.bel.size (fun x hx => (h.old x hx).1) hU), fun x => ?_, h.gl, hM, h.box.upd hV (by omega), h.mod.upd hV (fun c _ _ => by omega), h.tcs.upd hV (by omega), h.tds.upd hV (by omega)⟩
 ·have h9 := Nat.lt_of_lt_of_le hx h.bel.size
  exact ⟨(hU.kol x h9).trans (h.old x hx).1, (Kol.ext_old μ h9).trans (h.old x hx).2⟩
 ·rcases Nat.lt_or_ge x w.heap.size with h9 | h9
  ·rw [hU.kol x h9, Kol.ext_old μ h9]; exact h.dis x
  ·exact .inr (Kol.ext_new μ h9)
theorem LawK.stepW (h : LawK w0 κ μ w b m mo nc t a s l) (hM : ModK μ' w1 mo nc l') (hU : Upd (fun z => 2 ≤ z ∧ z ≤ 4) μ w μ' w1) : LawK w0 (κ.ext w.heap.size 0) μ' w1 b m mo nc t a s l' := by
 have hU1 : Upd (fun z => 1 ≤ z) μ w μ' w1 := hU.mono (fun c hc => by omega)
 have hV : Upd (· = 0) κ w (κ.ext w.heap.size 0) w1 := ⟨fun x hx => Kol.ext_old κ hx, ⟨hU.chg.os, hU.chg.tape, hU.chg.output, hU.chg.size, fun x hx hne => hU.chg.block x hx (fun h1 => by
  rcases h.dis x with h2 | h2
  ·exact hne h2
  ·have h1 : 2 ≤ μ x ∧ μ x ≤ 4 := h1; omega)⟩⟩
 refine ⟨fun x hx => ?_, h.bel.trans (below_kol h.bel.size (fun x hx => (h.old x hx).2) hU1), fun x => ?_, h.gl, h.mach.upd hV (fun c hc => by omega), h.box.upd hU (by omega), hM, h.tcs.upd hU (by omega), h.tds.upd hU (by omega)⟩
 ·have h9 := Nat.lt_of_lt_of_le hx h.bel.size
  exact ⟨(Kol.ext_old κ h9).trans (h.old x hx).1, (hU.kol x h9).trans (h.old x hx).2⟩
 ·rcases Nat.lt_or_ge x w.heap.size with h9 | h9
  ·rw [hU.kol x h9, Kol.ext_old κ h9]; exact h.dis x
  ·exact .inl (Kol.ext_new κ h9)
theorem LawK.x0 (h : LawK w0 κ μ w b m mo nc t a s l) : w.cell? ⟨b, 0, none⟩ = some (.pointer (some ⟨m, 0, none⟩)) := h.box.blk.at 0 _ (by simp [worC])
theorem LawK.x1 (h : LawK w0 κ μ w b m mo nc t a s l) : w.cell? ⟨b, 1, none⟩ = some (.pointer (some ⟨mo, 0, none⟩)) := h.box.blk.at 1 _ (by simp [worC])
end
def Does (f : Nat) (xs : Array Value) (m : Nat) (a : Ad) (s s' : St) (r : Value) : Prop :=
 ∀ κ w, GlobK κ w → MachK κ w m a s → Calls Tryz.prog f xs w fun e w' => e = .returned r ∧ ∃ κ', MachK κ' w' m a s' ∧ Upd (fun z => 1 ≤ z) κ w κ' w'
theorem ModK.more {κ κ7 : Kol} {w w7 : World} {b nc : Nat} {l : List Ob} {A A7 : Option Addr} {c c7 : Nat} (h : ModK κ w b nc l) (x n : Nat) (hx : x ≤ 262144) (hn : n ≤ 1024) (hlen : l.length < 100000) (hU : Upd (fun z => z = 3) (κ.ext w.heap.size 4) (w.alloc (.cells (bv (List.replicate n 0)) 5)) κ7 w7)
 (hb : BlkK κ7 2 w7 b #[.int .i64 nc, .slice A l.length c] 31) (hR : RowG κ7 3 w7 45 2 (.slice A7 (l.length + 1) c7) (l.length + 1) (obs l ++ [.int .i64 x, .slice (some ⟨w.heap.size, 0, none⟩) n n])) :
 ModK κ7 (w7.setCell ⟨b, 1, none⟩ (.slice A7 (l.length + 1) c7)) b nc (l ++ [⟨x, w.heap.size, List.replicate n 0⟩]) ∧ Upd (fun z => 2 ≤ z ∧ z ≤ 4) κ w κ7 (w7.setCell ⟨b, 1, none⟩ (.slice A7 (l.length + 1) c7)) := by
 have hA := below_alloc (RowKit.Below.refl w.heap.size w) (.cells (bv (List.replicate n 0)) 5)
 have hU0 : Upd (fun _ => False) κ w (κ.ext w.heap.size 4) (w.alloc (.cells (bv (List.replicate n 0)) 5)) := (Upd.of_below κ hA).paint _ _ (Nat.le_refl _)
 have hS : Upd (fun z => z = 2) κ7 w7 κ7 (w7.setCell ⟨b, 1, none⟩ (.slice A7 (l.length + 1) c7)) := (Upd.refl _ _ _).set ⟨b, 1, none⟩ (fun _ => hb.kol) _
 have hT := (hU0.mono (J := fun z => 2 ≤ z ∧ z ≤ 4) (fun _ h => h.elim)).then (hU.mono (J := fun z => 2 ≤ z ∧ z ≤ 4) (fun c hc => by omega)) (fun _ h => h)
 refine ⟨⟨⟨A7, c7, by rw [List.length_append, List.length_singleton]; exact hb.set 1 _, ?_⟩, fun o ho => ?_, ?_, by rw [List.length_append, List.length_singleton]; omega, fun o ho => ?_⟩, hT.then hS (fun c hc => by omega)⟩
 ·rw [List.length_append, List.length_singleton, obs_append]
  have := hR.upd hS (by omega)
  simpa [obs, Ob.cells] using this
 ·rcases List.mem_append.1 ho with h1 | h1
  ·exact (((h.bl o h1).upd hU0 (fun h => h)).upd hU (by omega)).upd hS (by omega)
  ·obtain rfl := List.mem_singleton.1 h1
   exact ((BlkK.new κ w 4 _ _).upd hU (by omega)).upd hS (by omega)
 ·rw [List.map_append, List.map_singleton, List.nodup_append]
  refine ⟨h.nd, by simp, fun x hx y hy => ?_⟩
  obtain ⟨o, ho, rfl⟩ := List.mem_map.1 hx
  obtain rfl := List.mem_singleton.1 hy
  have := (h.bl o ho).blk.lt
  show o.blk ≠ w.heap.size
  omega
 ·rcases List.mem_append.1 ho with h1 | h1
  ·exact h.val o h1
  ·obtain rfl := List.mem_singleton.1 h1
   exact ⟨hx, by rw [List.length_replicate]; exact hn⟩
theorem law_malloc (w0 : World) (κ μ : Kol) (b m mo nc : Nat) (t : Top) (a : Ad) (s s' : St) (l : List Ob) (j : Int) (x n : Nat) (hj : 0 ≤ j) (hj2 : j < nc) (hnc : nc ≤ 1000) (h1 : 1 ≤ n) (h2 : n ≤ 1024) (hlen : l.length < 100000)
 (hD : Does 21 #[.pointer (some ⟨m, 0, none⟩), .int .i64 j, .int .i64 n] m a s s' (.tuple #[.int .i64 x, .int .i64 0])) (hm : MayO l x n) (w : World) (h : LawK w0 κ μ w b m mo nc t a s l) :
 Calls Tryz.prog 17 #[.pointer (some ⟨b, 0, none⟩), .int .i64 j, .int .i64 n] w fun e w' => e = .returned (.bool true) ∧ ∃ κ' μ' bk, LawK w0 κ' μ' w' b m mo nc t a s' (l ++ [⟨x, bk, List.replicate n 0⟩]) := by
 have HM := ak (hD κ w h.glob h.mach)
 have HL := ak h
 have x0 := h.x0
 have b1 : decide ((n : Int) < 1) = false := decide_eq_false (by omega)
 have b2 : decide (1024 < (n : Int)) = false := decide_eq_false (by omega)
 have HX := ak hm
 clear h hD hm
 go_enter Tryz.func17, Tryz.ntmps17
 go_upto_region 2 with (go_at_call 21; (with_reducible refine HM.1.mono ?_); rintro e_ w1 ⟨rfl, κ1, q1, q2⟩; have HL1 := ak (HL.1.stepM q1 q2); clear q1 q2)
 clear x0 HM HL
 have x1 := HL1.1.x1
 go_upto_region 11 with (first | (go_at_call 57; (with_reducible refine (model_cpu _ mo nc l j hj hj2 hnc _ HL1.1.mod).mono ?_); rintro e_ w2 ⟨rfl, rfl⟩) | (go_at_call 58; (with_reducible refine (model_may _ mo nc l x n HX.1 _ HL1.1.mod).mono ?_); rintro e_ w3 ⟨rfl, hb⟩; have HL3 := ak (HL1.1.below hb); clear hb))
 clear x1 HL1
 obtain ⟨μ1, hμ1⟩ : ∃ μ1, μ.ext w.heap.size 0 = μ1 := ⟨_, rfl⟩
 rw [hμ1] at HL3
 clear hμ1 b1 b2
 obtain ⟨A, c, hB, _⟩ := HL3.1.mod.row
 have x1 := HL3.1.x1
 have y1 := hB.blk.at 1 (.slice A l.length c) rfl
 have info4 : (Tryz.prog.info? 45).map (fun i => (i.zero, i.size, i.bytes)) = some (some (.agg #[.int .i64 0, .slice none 0 0]), 2, 32) := by kernel_rfl
 have hmk := make_bytes n (by omega)
 clear hB
 refine st_ 20 (fun w' => w'.cell? ⟨b, 1, none⟩ = some (.pointer (some ⟨mo, 0, none⟩)) ∧ w'.cell? ⟨mo, 1, none⟩ = some (.slice A l.length c)) [19] ⟨x1, y1⟩ (fun hHeld => ?_)
 have hd_ := below_drew (RowKit.Below.refl w3.heap.size w3)
 have n0_ := ak (HL3.1.below hd_)
 clear HL3 x1 y1
 generalize w3.drew = wd at *
 clear hd_
 have HL := n0_
 clear n0_
 have HROW := ak HL.1.mod.row
 refine pu_ 0 63 1 ?_
 refine pu_ 1 64 3 ?_
 refine pu_ 2 65 7 ?_
 refine pu_ 4 67 23 ?_
 refine pu_ 5 68 55 ?_
 refine pu_ 6 69 119 ?_
 refine pu_ 11 74 2167 ?_
 refine pu_ 12 75 6263 ?_
 refine ta_ 3 66 6271 hHeld ?_
 refine ta_ 7 70 6399 hHeld ?_
 refine pu_ 8 71 6655 ?_
 refine pu_ 9 72 7167 ?_
 refine ta_ 10 73 8191 hHeld ?_
 refine one_ (i := 13) (N := some 76) (bz 20 16383) rfl rfl (by kernel_rfl) (by decide) (fun K hK => ?_)
 refine va_ ?_
 obtain ⟨A_, c_, hB_, hR_⟩ := HROW.1
 obtain ⟨rfl, rfl⟩ : A_ = A ∧ c_ = c := by
  have h9 := hB_.blk.at 1 (.slice A_ l.length c_) rfl
  rw [show wd.cell? ⟨mo, 1, none⟩ = some (.slice A l.length c) from hHeld.2] at h9
  injection h9 with h9
  injection h9 with h9 _ h8
  exact ⟨h9.symm, h8.symm⟩
 have hU6 : Upd (fun _ => False) μ1 wd (μ1.ext wd.heap.size 4) (wd.alloc (.cells (bv (List.replicate n 0)) 5)) := (Upd.of_below μ1 (below_alloc (RowKit.Below.refl _ _) _)).paint _ _ (Nat.le_refl _)
 have HB6 := ak (hB_.upd hU6 (fun h => h))
 have HR6 := ak (hR_.upd hU6 (fun h => h))
 have HX6 := ak (HL.1.box.upd hU6 (fun h => h))
 clear hB_ hR_ hU6
 refine hK.out _ _ ⟨HX6.1.blk.at 1 _ (by simp [worC]), HB6.1.blk.at 1 (.slice A_ l.length c_) rfl⟩ (fun hHeld => ?_)
 clear hK K
 refine no_ 76 ?_
 refine pu_ 14 77 32767 ?_
 refine one_ (i := 15) (N := some 78) (bz 20 65535) rfl rfl (by kernel_rfl) (by decide) (fun K hK => ?_)
 refine va_ ?_
 refine hK.out _ _ ⟨(HX6.1.blk.alloc _).at 1 _ (by simp [worC]), (HB6.1.blk.alloc _).at 1 (.slice A_ l.length c_) rfl⟩ (fun hHeld => ?_)
 clear hK K
 refine no_ 78 ?_
 refine one_ (i := 16) (N := some 79) (bz 20 131071) rfl rfl (by kernel_rfl) (by decide) (fun K hK => ?_)
 refine step_append_cells (w0 := (wd.alloc (.cells (bv (List.replicate n 0)) 5))) 0 rfl (.tmp 73) (.tmp 78) 29 45 (.agg #[.int .i64 0, .slice none 0 0]) 2 32 rfl Tryz.underlying29 info4 rfl (by decide) (by decide) (.slice A_ l.length c_) l.length (obs l) [.int .i64 x, .slice (some ⟨wd.heap.size, 0, none⟩) n n] rfl (by rw [World.size_alloc]; rfl) rfl (by intro u hu; simp at hu; rcases hu with rfl | rfl <;> rfl) HR6.1.1 (RowKit.Below.refl _ _) (Nat.zero_le _) (by omega) ?_
 intro v7 w7 ho7 hb7 hg7 hat7
 have hG := RowG.grown HR6.1 ho7 hg7 hat7
 obtain ⟨A7, c7, rfl⟩ := hG.1.sl
 have HG := ak hG
 have p7 := (HX6.1.upd hG.2 (by omega)).blk.at 1 (.pointer (some ⟨mo, 0, none⟩)) (by simp [worC])
 have q7 := (HB6.1.upd hG.2 (by omega)).blk.at 1 (.slice A_ l.length c_) rfl
 have f7 := (HB6.1.upd hG.2 (by omega)).blk.fz 1
 have HN := ak (HL.1.stepW (ModK.more HL.1.mod x n (by have := HX.1.2.1; omega) h2 hlen hG.2 (HB6.1.upd hG.2 (by omega)) hG.1).1 (ModK.more HL.1.mod x n (by have := HX.1.2.1; omega) h2 hlen hG.2 (HB6.1.upd hG.2 (by omega)) hG.1).2)
 clear ho7 hb7 hg7 hat7 hG
 refine hK.out _ _ ⟨p7, q7⟩ (fun hHeld => ?_)
 clear hK K
 refine no_ 79 ?_
 refine pu_ 17 80 262143 ?_
 refine pu_ 18 81 524287 ?_
 refine last_ (i := 19) (N := none) (bz 20 1048575) rfl rfl (by kernel_rfl) (by decide) (fun K hK => ?_)
 refine skip_ (w1 := ?_) (by rfl) rfl ?_ ?_
 rotate_left
 ·go_simp
  rfl
 refine hK.out _ _ ?_
 clear hK K
 refine done_ (by kernel_rfl) ?_
 go_wp2_with fail
 go_ret
 have hfin := HN.1
 exact ⟨rfl, _, _, _, hfin⟩
theorem below_grownB_ {B : Nat} {w0 w w' : World} {row : Option Nat} (h : RowKit.Below B w0 w) (hs : B ≤ w.heap.size) (hg : w.grownBy w' row) (hr : ∀ k, row = some k → B ≤ k) : RowKit.Below B w0 w' :=
 ⟨hg.os.trans h.os, hg.tape.trans h.tape, hg.output.trans h.output, Nat.le_trans h.size hg.size, fun b hb => (hg.block b (by omega) (fun e => by have := hr b e.symm; omega)).trans (h.block b hb)⟩
theorem add_lit_ (b o j : Nat) : (⟨b, o, none⟩ : Addr).add j = ⟨b, o + j, none⟩ := by unfold Addr.add; split <;> simp_all
theorem info_ob : (Tryz.prog.info? 45).map (fun i => (i.zero, i.size, i.bytes)) = some (some (.agg #[.int .i64 0, .slice none 0 0]), 2, 32) := by kernel_rfl
theorem own_cells {w : World} {base e g c n : Nat} {xs : List Value} (h : w.ownsRow base e 2 (.slice (some ⟨g, 0, none⟩) n c) n xs) (j : Nat) (u : Value) (hj : xs[j]? = some u) : w.cell? ⟨g, j, none⟩ = some u :=
 RowG.cells (κ := fun _ => 0) (i := 0) ⟨⟨h.1, h.2.imp id (fun ⟨a, b, c, d, e, f⟩ => ⟨a, b, c, d, Nat.zero_le _, f⟩)⟩, fun _ _ => rfl⟩ j u hj
theorem own_below {w w' : World} {base e : Nat} {sz n : Nat} {v : Value} {xs : List Value} (h : w.ownsRow base e sz v n xs) (hb : RowKit.Below w.heap.size w w') : w'.ownsRow base e sz v n xs :=
 own_move h (fun k hk => hb.block k (own_lt h k hk))
theorem two_obs {w : World} {g7 c7 k : Nat} {l : List Ob} (hrow : w.ownsRow 0 45 2 (.slice (some ⟨g7, 0, none⟩) l.length c7) l.length (obs l)) (hk : k < l.length) (hl : l.length ≤ 100000) (A1 : Addr) (hA1 : (if c7 = k + 1 then some (⟨g7, 0, none⟩ : Addr) else some ⟨g7, (k + 1) * 2, none⟩) = some A1) (cc : Nat) :
 ∃ v1 w1 v2 w2, (∀ ty, (Builtin.append_ #[29, 29] ty #[.slice (some ⟨w.heap.size, 0, none⟩) 0 0, .slice (some ⟨g7, 0, none⟩) k c7]).run Tryz.prog (w.alloc (.cells #[] 45)) = .ok v1 w1) ∧
  (∀ ty, (Builtin.append_ #[29, 29] ty #[v1, .slice (some A1) (l.length - (k + 1)) cc]).run Tryz.prog w1 = .ok v2 w2) ∧
  w2.ownsRow 0 45 2 v2 (l.take k ++ l.drop (k + 1)).length (obs (l.take k ++ l.drop (k + 1))) ∧ RowKit.Below w.heap.size w w2 ∧ (∀ j, v2.ownBlock = some j → w.heap.size ≤ j) ∧ RowKit.Below w.heap.size w w1 := by
 obtain ⟨i0, hi0, hz0, hzs, hzb⟩ := info_parts info_ob
 have hlen : (l.take k ++ l.drop (k + 1)).length = k + (l.length - (k + 1)) := by rw [List.length_append, List.length_take, List.length_drop]; omega
 have hal : RowKit.Below w.heap.size w (w.alloc (.cells #[] 45)) := below_alloc (RowKit.Below.refl _ _) _
 have hmade := World.ownsRow_made w (base := 0) (e := 45) (size := 2) #[] 0 (Nat.zero_le _) (by omega) (by simp)
 have hrow1 := own_below hrow hal
 have hsrc1 : ∀ j u, (obs (l.take k))[j]? = some u → (w.alloc (.cells #[] 45)).cell? ((⟨g7, 0, none⟩ : Addr).add j) = some u := by
  intro j u hj
  rw [add_lit_, Nat.zero_add]
  refine own_cells hrow1 j u ?_
  rw [← obs_take l k (by omega), List.getElem?_take] at hj
  split at hj
  ·exact hj
  ·cases hj
 have h1 : ∃ v1 w1, (∀ ty, (Builtin.append_ #[29, 29] ty #[.slice (some ⟨w.heap.size, 0, none⟩) 0 0, .slice (some ⟨g7, 0, none⟩) k c7]).run Tryz.prog (w.alloc (.cells #[] 45)) = .ok v1 w1) ∧ w1.ownsRow 0 45 2 v1 (0 + k) ([] ++ obs (l.take k)) ∧ (w.alloc (.cells #[] 45)).grownBy w1 (Value.slice (some ⟨w.heap.size, 0, none⟩) 0 0).ownBlock ∧ (v1.ownBlock = (Value.slice (some ⟨w.heap.size, 0, none⟩) 0 0).ownBlock ∨ v1.ownBlock = some (w.alloc (.cells #[] 45)).heap.size) := by
  obtain ⟨v1, w1, hr, ho, hg, _, hat⟩ := run_append_own_at (P := Tryz.prog) (w := w.alloc (.cells #[] 45)) 0 29 0 45 i0 _ 2 32 Tryz.underlying29 hi0 hz0 hzs hzb rfl (by decide) _ 0 [] hmade ⟨g7, 0, none⟩ k c7 (obs (l.take k)) (by rw [obs_len, List.length_take]; omega) hsrc1 (obs_one _) (by unfold maxLen; omega) (by omega) (Nat.zero_le _)
  exact ⟨v1, w1, fun ty => hr, ho, hg, hat⟩
 obtain ⟨v1, w1, hr1, ho1, hg1, hat1⟩ := h1
 have hb1 : RowKit.Below w.heap.size w w1 := below_grownB_ hal hal.size hg1 (fun j hj => by simp [Value.ownBlock] at hj; omega)
 have hrow2 := own_below hrow hb1
 have hsrc2 : ∀ j u, (obs (l.drop (k + 1)))[j]? = some u → w1.cell? (A1.add j) = some u := by
  intro j u hj
  by_cases hc : c7 = k + 1
  ·have hn : l.drop (k + 1) = [] := by
    have : l.length ≤ c7 := by
     rcases hrow.2 with ⟨h0, _⟩ | ⟨_, _, _, hv, _, _, hnc, _⟩
     ·cases h0
     ·injection hv with _ _ hcc; omega
    exact List.drop_of_length_le (by omega)
   rw [hn] at hj; simp [obs] at hj
  ·rw [if_neg hc] at hA1
   rw [← Option.some.inj hA1, add_lit_]
   refine own_cells hrow2 _ u ?_
   rw [← obs_drop l (k + 1) (by omega), List.getElem?_drop] at hj
   exact hj
 obtain ⟨v2, w2, hr2, ho2, hg2, _, hat2⟩ := run_append_own_at (P := Tryz.prog) (w := w1) 0 29 0 45 i0 _ 2 32 Tryz.underlying29 hi0 hz0 hzs hzb rfl (by decide) _ (0 + k) _ ho1 A1 (l.length - (k + 1)) cc (obs (l.drop (k + 1))) (by rw [obs_len, List.length_drop]) hsrc2 (obs_one _) (by unfold maxLen; omega) (by omega) (Nat.zero_le _)
 have hf1 : ∀ j, v1.ownBlock = some j → w.heap.size ≤ j := by
  intro j hj
  rcases hat1 with h | h
  ·rw [h] at hj; simp [Value.ownBlock] at hj; omega
  ·rw [h] at hj; injection hj with hj; have := hal.size; omega
 have hb2 : RowKit.Below w.heap.size w w2 := below_grownB_ hb1 hb1.size hg2 hf1
 have hrow3 : w2.ownsRow 0 45 2 v2 (l.take k ++ l.drop (k + 1)).length (obs (l.take k ++ l.drop (k + 1))) := by
  rw [hlen, obs_append]
  simpa using ho2
 refine ⟨v1, w1, v2, w2, hr1, fun ty => hr2, hrow3, hb2, ?_, hb1⟩
 intro j hj
 rcases hat2 with h | h
 ·exact hf1 j (h ▸ hj)
 ·rw [h] at hj; injection hj with hj; have := hb1.size; omega
theorem ModK.less {κ : Kol} {w w2 : World} {b nc k : Nat} {l : List Ob} {A : Option Addr} {c c2 : Nat} {A2 : Option Addr} (h : ModK κ w b nc l) (hB : BlkK κ 2 w b #[.int .i64 nc, .slice A l.length c] 31) (hb : RowKit.Below w.heap.size w w2)
 (ho : w2.ownsRow 0 45 2 (.slice A2 (l.take k ++ l.drop (k + 1)).length c2) (l.take k ++ l.drop (k + 1)).length (obs (l.take k ++ l.drop (k + 1)))) (hf : ∀ j, (Value.slice A2 (l.take k ++ l.drop (k + 1)).length c2).ownBlock = some j → w.heap.size ≤ j) :
 ModK (κ.ext w.heap.size 3) (w2.setCell ⟨b, 1, none⟩ (.slice A2 (l.take k ++ l.drop (k + 1)).length c2)) b nc (l.take k ++ l.drop (k + 1)) ∧ Upd (fun z => 2 ≤ z ∧ z ≤ 4) κ w (κ.ext w.heap.size 3) (w2.setCell ⟨b, 1, none⟩ (.slice A2 (l.take k ++ l.drop (k + 1)).length c2)) := by
 have hsub : (l.take k ++ l.drop (k + 1)).Sublist l := by
  have h1 : (l.drop (k + 1)).Sublist (l.drop k) := by rw [← List.drop_drop]; exact List.drop_sublist _ _
  have h2 := List.Sublist.append (List.Sublist.refl (l.take k)) h1
  rwa [List.take_append_drop] at h2
 have hU : Upd (fun z => 2 ≤ z ∧ z ≤ 4) κ w (κ.ext w.heap.size 3) w2 := (Upd.of_below κ hb).paint _ _ (Nat.le_refl _)
 have hU0 : Upd (fun _ => False) κ w (κ.ext w.heap.size 3) w2 := (Upd.of_below κ hb).paint _ _ (Nat.le_refl _)
 have hB2 := hB.upd hU0 (fun h => h)
 have hS : Upd (fun z => z = 2) (κ.ext w.heap.size 3) w2 (κ.ext w.heap.size 3) (w2.setCell ⟨b, 1, none⟩ (.slice A2 (l.take k ++ l.drop (k + 1)).length c2)) := (Upd.refl _ _ _).set ⟨b, 1, none⟩ (fun _ => hB2.kol) _
 have hR : RowG (κ.ext w.heap.size 3) 3 w2 45 2 (.slice A2 (l.take k ++ l.drop (k + 1)).length c2) (l.take k ++ l.drop (k + 1)).length (obs (l.take k ++ l.drop (k + 1))) := ⟨ho, fun g hg => Kol.ext_new κ (hf g hg)⟩
 exact ⟨⟨⟨A2, c2, hB2.set 1 _, hR.upd hS (by omega)⟩, fun o ho => ((h.bl o (hsub.subset ho)).upd hU0 (fun h => h)).upd hS (by omega), h.nd.sublist (hsub.map _), Nat.le_trans hsub.length_le h.len, fun o ho => h.val o (hsub.subset ho)⟩, hU.then hS (fun c hc => by omega)⟩
theorem law_free (w0 : World) (κ μ : Kol) (b m mo nc : Nat) (t : Top) (a : Ad) (s s' : St) (l : List Ob) (j : Int) (x k : Nat) (hj : 0 ≤ j) (hj2 : j < nc) (hnc : nc ≤ 1000) (hk : k < l.length) (hf : fndI l x = k)
 (hD : Does 43 #[.pointer (some ⟨m, 0, none⟩), .int .i64 j, .int .i64 x] m a s s' (.int .i64 0)) (w : World) (h : LawK w0 κ μ w b m mo nc t a s l) :
 Calls Tryz.prog 19 #[.pointer (some ⟨b, 0, none⟩), .int .i64 j, .int .i64 x] w fun e w' => e = .returned (.bool true) ∧ ∃ κ' μ', LawK w0 κ' μ' w' b m mo nc t a s' (l.take k ++ l.drop (k + 1)) := by
 have HM := ak (hD κ w h.glob h.mach)
 have HL := ak h
 have x0 := h.x0
 have b1 : decide ((k : Int) < 0) = false := decide_eq_false (by omega)
 have HF := ak hf
 have hlen := h.mod.len
 clear h hD hf
 go_enter Tryz.func19, Tryz.ntmps19
 go_upto_region 2 with (go_at_call 43; (with_reducible refine HM.1.mono ?_); rintro e_ w1 ⟨rfl, κ1, q1, q2⟩; have HL1 := ak (HL.1.stepM q1 q2); clear q1 q2)
 clear x0 HM HL
 have x1 := HL1.1.x1
 have HFN := ak (model_find _ mo nc l x _ HL1.1.mod)
 rw [HF.1] at HFN
 go_upto_region 8 with (first | (go_at_call 57; (with_reducible refine (model_cpu _ mo nc l j hj hj2 hnc _ HL1.1.mod).mono ?_); rintro e_ w2 ⟨rfl, rfl⟩) | (go_at_call 60; (with_reducible refine HFN.1.mono ?_); rintro e_ w3 ⟨rfl, rfl⟩))
 clear x1 HFN b1
 obtain ⟨μ1, hμ1⟩ : ∃ μ1, μ.ext w.heap.size 0 = μ1 := ⟨_, rfl⟩
 rw [hμ1] at HL1
 clear hμ1
 obtain ⟨A, c, hB, hR⟩ := HL1.1.mod.row
 obtain ⟨g, rfl, _⟩ := obs_at hR k hk
 have hlc : l.length ≤ c := by
  rcases hR.1.2 with ⟨h0, _⟩ | ⟨_, _, _, hv, _, _, hnc, _⟩
  ·cases h0
  ·injection hv with _ _ hcc; omega
 have hcm : c ≤ 9223372036854775807 := by
  rcases hR.1.2 with ⟨h0, _⟩ | ⟨_, _, _, hv, _, _, hnc, hcm, _⟩
  ·cases h0
  ·injection hv with _ _ hcc
   unfold maxLen at hcm
   omega
 have x1 := HL1.1.x1
 have y1 := hB.blk.at 1 (.slice (some ⟨g, 0, none⟩) l.length c) rfl
 have HB := ak hB
 have HR := ak hR
 clear hB hR
 refine st_ 29 (fun w' => w'.cell? ⟨b, 1, none⟩ = some (.pointer (some ⟨mo, 0, none⟩)) ∧ w'.cell? ⟨mo, 1, none⟩ = some (.slice (some ⟨g, 0, none⟩) l.length c)) [28] ⟨x1, y1⟩ (fun hHeld => ?_)
 have hd_ := below_drew (RowKit.Below.refl w3.heap.size w3)
 have n0_ := ak (HL1.1.below hd_)
 have n1_ := ak (HB.1.below hd_)
 have n2_ := ak (HR.1.below hd_)
 clear HL1 HB HR x1 y1
 generalize w3.drew = wd at *
 clear hd_
 have HL := n0_
 have HB := n1_
 have HR := n2_
 clear n0_ n1_ n2_
 obtain ⟨Ad, hAd⟩ : ∃ Ad : Addr, (if c = k + 1 then some (⟨g, 0, none⟩ : Addr) else some ⟨g, (k + 1) * 2, none⟩) = some Ad := by
  by_cases h : c = k + 1
  ·exact ⟨_, if_pos h⟩
  ·exact ⟨_, if_neg h⟩
 have HAD := ak hAd
 clear hAd
 obtain ⟨k1, hk1e⟩ : ∃ k1, k + 1 = k1 := ⟨_, rfl⟩
 obtain ⟨v1, w5, v2, w6, hr1, hr2, hrow5, hb6, hf6, hb5⟩ := two_obs HR.1.1 hk hlen Ad HAD.1 (c - k1)
 have hAd := HAD.1
 rw [hk1e] at hr2 hAd
 have hV2 : RowG μ1 3 w6 45 2 v2 (l.take k ++ l.drop (k + 1)).length (obs (l.take k ++ l.drop (k + 1))) → ∃ A2 c2, v2 = .slice A2 (l.take k ++ l.drop (k + 1)).length c2 := fun h => h.sl
 obtain ⟨A2, c2, hv2⟩ : ∃ A2 c2, v2 = .slice A2 (l.take k ++ l.drop (k + 1)).length c2 := by
  rcases hrow5.2 with ⟨h0, hz⟩ | ⟨bb, cap, cur, hv, _⟩
  ·exact ⟨none, 0, by rw [h0, hz]⟩
  ·exact ⟨_, cap, hv⟩
 subst hv2
 have HN := ak (HL.1.stepW (ModK.less HL.1.mod HB.1 hb6 hrow5 hf6).1 (ModK.less HL.1.mod HB.1 hb6 hrow5 hf6).2)
 have HB5 := ak (HB.1.blk.below hb5)
 have HX5 := ak (HL.1.box.blk.below hb5)
 have HB6 := ak (HB.1.blk.below hb6)
 have HX6 := ak (HL.1.box.blk.below hb6)
 clear hrow5 hb6 hb5 hf6 hV2
 obtain ⟨n2, hn2⟩ : ∃ n, (l.take k ++ l.drop (k + 1)).length = n := ⟨_, rfl⟩
 rw [hn2] at hr2 HN
 clear hn2
 have hkc : k ≤ c := by omega
 have hk1l : k1 ≤ l.length := by omega
 have hk1c : k1 ≤ c := by omega
 have hk1i : (k1 : Int) ≤ (l.length : Int) := by omega
 have hk1z : (0 : Int) ≤ (k1 : Int) := by omega
 have hki : (k : Int) ≤ (l.length : Int) := by omega
 have hkz : (0 : Int) ≤ (k : Int) := by omega
 have hwk : wrap64 ((k : Int) + 1) = (k1 : Int) := by rw [IntWalk.wrap64_in _ ⟨by omega, by omega⟩]; omega
 refine pu_ 0 38 1 ?_
 refine pu_ 1 39 3 ?_
 refine pu_ 2 40 7 ?_
 refine pu_ 5 43 39 ?_
 refine pu_ 6 44 103 ?_
 refine pu_ 7 45 231 ?_
 refine pu_ 12 50 4327 ?_
 refine pu_ 15 53 37095 ?_
 refine pu_ 16 54 102631 ?_
 refine pu_ 17 55 233703 ?_
 refine pu_ 22 60 4428007 ?_
 refine pu_ 23 61 12816615 ?_
 refine ta_ 3 41 12816623 hHeld ?_
 refine ta_ 8 46 12816879 hHeld ?_
 refine pu_ 9 47 12817391 ?_
 refine pu_ 10 48 12818415 ?_
 refine ta_ 11 49 12820463 hHeld ?_
 refine pu_ 13 51 12828655 ?_
 refine ta_ 18 56 13090799 hHeld ?_
 refine pu_ 19 57 13615087 ?_
 refine pu_ 20 58 14663663 ?_
 refine ta_ 21 59 16760815 hHeld ?_
 refine pu_ 24 62 33538031 ?_
 refine one_ (i := 4) (N := some 42) (bz 29 33538047) rfl rfl (by kernel_rfl) (by decide) (fun K hK => ?_)
 refine va_ ?_
 refine hK.out _ _ ⟨(HL.1.box.blk.alloc _).at 1 _ (by simp [worC]), (HB.1.blk.alloc _).at 1 (.slice (some ⟨g, 0, none⟩) l.length c) rfl⟩ (fun hHeld => ?_)
 clear hK K
 refine no_ 42 ?_
 refine one_ (i := 14) (N := some 52) (bz 29 33554431) rfl rfl (by kernel_rfl) (by decide) (fun K hK => ?_)
 refine TS.step_append_eq rfl _ _ 29 29 rfl _ _ rfl rfl (hr1 _) ?_
 refine hK.out _ _ ⟨HX5.1.at 1 _ (by simp [worC]), HB5.1.at 1 (.slice (some ⟨g, 0, none⟩) l.length c) rfl⟩ (fun hHeld => ?_)
 clear hK K
 refine no_ 52 ?_
 refine one_ (i := 25) (N := some 63) (bz 29 67108863) rfl rfl (by kernel_rfl) (by decide) (fun K hK => ?_)
 refine TS.step_append_eq rfl _ _ 29 29 rfl _ _ rfl rfl (hr2 _) ?_
 refine hK.out _ _ ⟨HX6.1.at 1 _ (by simp [worC]), HB6.1.at 1 (.slice (some ⟨g, 0, none⟩) l.length c) rfl⟩ (fun hHeld => ?_)
 clear hK K
 refine no_ 63 ?_
 refine pu_ 26 64 134217727 ?_
 refine pu_ 27 65 268435455 ?_
 refine last_ (i := 28) (N := none) (bz 29 536870911) rfl rfl (by kernel_rfl) (by decide) (fun K hK => ?_)
 have f7 := HB6.1.fz 1
 refine skip_ (w1 := ?_) (by rfl) rfl ?_ ?_
 rotate_left
 ·go_simp
  rfl
 refine hK.out _ _ ?_
 clear hK K
 refine done_ (by kernel_rfl) ?_
 go_wp2_with fail
 go_ret
 have hfin := HN.1
 exact ⟨rfl, _, _, hfin⟩
theorem law_free_bad (w0 : World) (κ μ : Kol) (b m mo nc : Nat) (t : Top) (a : Ad) (s s' : St) (l : List Ob) (j : Int) (x : Int) (hj : 0 ≤ j) (hj2 : j < nc) (hnc : nc ≤ 1000) (hf : ∀ o ∈ l, (o.addr : Int) ≠ x)
 (hD : Does 43 #[.pointer (some ⟨m, 0, none⟩), .int .i64 j, .int .i64 x] m a s s' (.int .i64 6)) (w : World) (h : LawK w0 κ μ w b m mo nc t a s l) :
 Calls Tryz.prog 19 #[.pointer (some ⟨b, 0, none⟩), .int .i64 j, .int .i64 x] w fun e w' => e = .returned (.bool true) ∧ ∃ κ' μ', LawK w0 κ' μ' w' b m mo nc t a s' l := by
 have HM := ak (hD κ w h.glob h.mach)
 have HL := ak h
 have x0 := h.x0
 have HF := ak (fndI_none l x hf)
 clear h hD hf
 go_enter Tryz.func19, Tryz.ntmps19
 go_upto_region 2 with (go_at_call 43; (with_reducible refine HM.1.mono ?_); rintro e_ w1 ⟨rfl, κ1, q1, q2⟩; have HL1 := ak (HL.1.stepM q1 q2); clear q1 q2)
 clear x0 HM HL
 have x1 := HL1.1.x1
 have HFN := ak (model_find _ mo nc l x _ HL1.1.mod)
 rw [HF.1] at HFN
 go_wp2_with (first | (go_at_call 57; (with_reducible refine (model_cpu _ mo nc l j hj hj2 hnc _ HL1.1.mod).mono ?_); rintro e_ w2 ⟨rfl, rfl⟩) | (go_at_call 60; (with_reducible refine HFN.1.mono ?_); rintro e_ w3 ⟨rfl, rfl⟩))
 go_ret
 have hfin := HL1.1
 exact ⟨rfl, _, _, hfin⟩
theorem obs_set (l : List Ob) (k : Nat) (hk : k < l.length) (bs : List Nat) (hb : bs.length = l[k].bs.length) : obs (l.set k { l[k] with bs := bs }) = obs l := by
 unfold obs
 rw [List.flatMap_def, List.flatMap_def, List.map_set]
 have : Ob.cells { l[k] with bs := bs } = (l.map Ob.cells)[k]'(by simpa using hk) := by
  rw [List.getElem_map]
  simp only [Ob.cells, hb]
 rw [this, List.set_getElem_self]
theorem ModK.wrote {κ : Kol} {w w' : World} {b nc k : Nat} {l : List Ob} (h : ModK κ w b nc l) (hk : k < l.length) (bs : List Nat) (hb : bs.length = l[k].bs.length) (hB : BlkK κ 4 w' l[k].blk (bv bs) 5) (hoth : ∀ q, q ≠ l[k].blk → w'.heap[q]? = w.heap[q]?) (hU : Upd (· = 4) κ w κ w') :
 ModK κ w' b nc (l.set k { l[k] with bs := bs }) := by
 obtain ⟨A, c, h1, h2⟩ := h.row
 have hmem : ∀ o ∈ l.set k { l[k] with bs := bs }, o = { l[k] with bs := bs } ∨ (o ∈ l ∧ o.blk ≠ l[k].blk) := by
  intro o ho
  obtain ⟨q, hq, rfl⟩ := List.mem_iff_getElem.1 ho
  rw [List.length_set] at hq
  by_cases e : k = q
  ·subst e
   exact .inl (List.getElem_set_self _)
  ·rw [List.getElem_set_ne e]
   refine .inr ⟨List.getElem_mem hq, fun e2 => e ?_⟩
   have hn := List.pairwise_iff_getElem.1 (show (l.map Ob.blk).Pairwise (· ≠ ·) from h.nd)
   rcases Nat.lt_or_ge k q with h9 | h9
   ·exact absurd (by rw [List.getElem_map, List.getElem_map]; exact e2.symm) (hn k q (by simpa using hk) (by simpa using hq) h9)
   ·exact absurd (by rw [List.getElem_map, List.getElem_map]; exact e2) (hn q k (by simpa using hq) (by simpa using hk) (by omega))
 refine ⟨⟨A, c, by rw [List.length_set]; exact h1.upd hU (by omega), by rw [List.length_set, obs_set l k hk bs hb]; exact h2.upd hU (by omega)⟩, fun o ho => ?_, ?_, by rw [List.length_set]; exact h.len, fun o ho => ?_⟩
 ·rcases hmem o ho with rfl | ⟨h3, h4⟩
  ·exact hB
  ·exact ⟨(h.bl o h3).kol, (hoth o.blk h4).trans (h.bl o h3).blk⟩
 ·rw [List.map_set]
  have : (l.map Ob.blk).set k l[k].blk = l.map Ob.blk := by
   rw [show l[k].blk = (l.map Ob.blk)[k]'(by simpa using hk) by rw [List.getElem_map], List.set_getElem_self]
  show ((l.map Ob.blk).set k l[k].blk).Nodup
  rw [this]
  exact h.nd
 ·rcases hmem o ho with rfl | ⟨h3, h4⟩
  ·exact ⟨(h.val _ (List.getElem_mem hk)).1, by show bs.length ≤ 1024; rw [hb]; exact (h.val _ (List.getElem_mem hk)).2⟩
  ·exact h.val o h3
theorem copy_obs (κ : Kol) (w : World) (g o z n dc cb : Nat) (B : Option Addr) (xs bs : List Nat) (hg : BlkK κ 4 w g (bv xs) 5) (hz : o + z = xs.length) (hn : n ≤ z) (hr : RdB w B n bs) :
 ∃ v' w', (∀ ty, (Builtin.copy_ #[23, 23] ty #[.slice (some ⟨g, o, none⟩) z dc, .slice B n cb]).run Tryz.prog w = .ok v' w') ∧ BlkK κ 4 w' g (bv (spliceB xs o bs)) 5 ∧ (∀ q, q ≠ g → w'.heap[q]? = w.heap[q]?) ∧ Upd (· = 4) κ w κ w' := by
 have hl := hr.len
 have hinfo : (Tryz.prog.info? 5).map (·.size) = some 1 := by kernel_rfl
 cases B with
 | some ad =>
  refine ⟨goInt n, w.setRow g (bv (spliceB xs o bs)), fun ty => ?_, hg.setRow (bv (spliceB xs o bs)), fun q hq => setRow_other w g q _ hq, Upd.setRow hg.kol _⟩
  ·have hcp := run_copy_row (P := Tryz.prog) (ty := ty) w 23 23 5 g o z dc ad n cb (bv xs) 5 (bs.map fun (x : Nat) => Value.int .u8 x) Tryz.underlying23 hinfo hg.blk
    (by rw [List.length_map, hl]; exact (Nat.min_eq_left hn).symm) (fun j v hv => by
     rw [List.getElem?_map] at hv
     cases hy : bs[j]? with
     | none => rw [hy] at hv; simp at hv
     | some y =>
      rw [hy] at hv; simp at hv; rw [← hv]
      have hj : j < bs.length := (List.getElem?_eq_some_iff.1 hy).1
      obtain ⟨ad2, e2, h2⟩ := hr.cell (by omega)
      obtain rfl := Option.some.inj e2
      exact h2 j y hy)
    (by unfold bv; simp; omega) (by intro v hv; obtain ⟨y, _, rfl⟩ := List.mem_map.1 hv; rfl)
   rw [splice_bv, List.length_map, hl] at hcp
   exact hcp
 | none =>
  obtain rfl : n = 0 := by
   rcases Nat.eq_zero_or_pos n with h | h
   ·exact h
   ·obtain ⟨_, e, _⟩ := hr.cell h
    cases e
  obtain rfl := List.length_eq_zero_iff.1 hl
  have hs : spliceB xs o [] = xs := by unfold spliceB; simp
  rw [hs]
  refine ⟨goInt 0, w, fun ty => ?_, hg, fun q hq => rfl, Upd.refl _ _ _⟩
  cases hq : Tryz.prog.info? 5 with
  | none => simp [hq] at hinfo
  | some i =>
   have hi : i.size = 1 := by simpa [hq] using hinfo
   simp [Builtin.copy_, run_underlying Tryz.underlying23, Builtin.lenOf, Builtin.firstCells, sizeOf, typeInfo, hq, hi]
   try rfl
def DoesW (j x o : Int) (B : Option Addr) (n cb : Nat) (bs : List Nat) (m : Nat) (a : Ad) (s s' : St) : Prop :=
 ∀ κ w, GlobK κ w → MachK κ w m a s → RdS (fun z => 1 ≤ z) κ w B bs → Calls Tryz.prog 23 #[.pointer (some ⟨m, 0, none⟩), .int .i64 j, .int .i64 x, .int .i64 o, .slice B n cb] w fun e w' => e = .returned (.int .i64 0) ∧ ∃ κ', MachK κ' w' m a s' ∧ Upd (fun z => 1 ≤ z) κ w κ' w'
def DoesR (j x o : Int) (n : Nat) (xs : List Nat) (m : Nat) (a : Ad) (s : St) : Prop :=
 ∀ κ w, GlobK κ w → MachK κ w m a s → Calls Tryz.prog 24 #[.pointer (some ⟨m, 0, none⟩), .int .i64 j, .int .i64 x, .int .i64 o, .int .i64 n] w fun e w' => ∃ A cp, e = .returned (.tuple #[.slice A n cp, .int .i64 0]) ∧ RdB w' A n xs ∧ RowKit.Below w.heap.size w w'
theorem law_write (w0 : World) (κ μ : Kol) (b m mo nc : Nat) (t : Top) (a : Ad) (s s' : St) (l : List Ob) (j : Int) (x k o n cb : Nat) (B : Option Addr) (bs : List Nat) (hj : 0 ≤ j) (hj2 : j < nc) (hnc : nc ≤ 1000) (hk : k < l.length) (hf : fndI l x = k) (hfit : o + n ≤ l[k].bs.length) (ho : o < l[k].bs.length)
 (hD : DoesW j x o B n cb bs m a s s') (w : World) (h : LawK w0 κ μ w b m mo nc t a s l) (hs : RdS (fun z => 1 ≤ z) κ w B bs) (hn : bs.length = n) :
 Calls Tryz.prog 18 #[.pointer (some ⟨b, 0, none⟩), .int .i64 j, .int .i64 x, .int .i64 o, .slice B n cb] w fun e w' => e = .returned (.bool true) ∧ ∃ κ' μ', LawK w0 κ' μ' w' b m mo nc t a s' (l.set k { l[k] with bs := spliceB l[k].bs o bs }) := by
 have HM := ak (hD κ w h.glob h.mach hs)
 have HL := ak h
 have HS := ak hs
 have x0 := h.x0
 have HF := ak hf
 have hlen := h.mod.len
 clear h hD hf hs
 go_enter Tryz.func18, Tryz.ntmps18
 go_upto_region 2 with (go_at_call 23; (with_reducible refine HM.1.mono ?_); rintro e_ w1 ⟨rfl, κ1, q1, q2⟩; have HL1 := ak (HL.1.stepM q1 q2); have HRD := ak (HS.1 _ _ q2); clear q1 q2)
 clear x0 HM HL HS
 have x1 := HL1.1.x1
 go_upto_region 7 with (go_at_call 59; (with_reducible refine (model_reach _ mo nc l j hj hj2 hnc x k o n hk HF.1 hfit _ HL1.1.mod).mono ?_); rintro e_ w2 ⟨rfl, rfl⟩)
 clear x1
 obtain ⟨μ1, hμ1⟩ : ∃ μ1, μ.ext w.heap.size 0 = μ1 := ⟨_, rfl⟩
 rw [hμ1] at HL1
 clear hμ1
 rw [hn] at HRD
 obtain ⟨A, c, hB, hR⟩ := HL1.1.mod.row
 obtain ⟨g, rfl, _, s1⟩ := obs_at hR k hk
 have x1 := HL1.1.x1
 have y1 := hB.blk.at 1 (.slice (some ⟨g, 0, none⟩) l.length c) rfl
 obtain ⟨z, hz⟩ : ∃ z, z + o = l[k].bs.length := ⟨l[k].bs.length - o, by omega⟩
 have hk0 : (0 : Int) ≤ (k : Int) := by omega
 have hkI : (k : Int) < (l.length : Int) := by omega
 have hzl := (HL1.1.mod.val l[k] (List.getElem_mem hk)).2
 have HV := ak (And.intro hfit hz)
 rw [← hz] at s1 hfit ho hzl
 have HB := ak hB
 have HR := ak hR
 obtain ⟨bk, hbk⟩ : ∃ bk, l[k].blk = bk := ⟨_, rfl⟩
 rw [hbk] at s1
 have HBK := ak hbk
 have hoz : (o : Int) ≤ (z : Int) + (o : Int) := by omega
 have hz0 : ¬ z = 0 := by omega
 clear hB hR hbk hz
 refine st_ 20 (fun w' => w'.cell? ⟨b, 1, none⟩ = some (.pointer (some ⟨mo, 0, none⟩)) ∧ w'.cell? ⟨mo, 1, none⟩ = some (.slice (some ⟨g, 0, none⟩) l.length c) ∧ w'.cell? ⟨g, k * 2 + 1, none⟩ = some (.slice (some ⟨bk, 0, none⟩) (z + o) (z + o))) [19] ⟨x1, y1, s1⟩ (fun hHeld => ?_)
 have hd_ := below_drew (RowKit.Below.refl w2.heap.size w2)
 have n0_ := ak (HL1.1.below hd_)
 have n1_ := ak (HRD.1.below hd_)
 clear HL1 HRD HB HR x1 y1 s1
 generalize w2.drew = wd at *
 clear hd_
 have HL := n0_
 have HRD := n1_
 clear n0_ n1_
 have HFN := ak (model_find _ mo nc l x _ HL.1.mod)
 rw [HF.1] at HFN
 have hob := HL.1.mod.bl l[k] (List.getElem_mem hk)
 have hlw : (spliceB l[k].bs o bs).length = l[k].bs.length := splice_len _ _ _ (by rw [hn]; exact HV.1.1)
 obtain ⟨v7, w7, hcp, q1, q2, q3⟩ := copy_obs μ1 wd l[k].blk o z n z cb B l[k].bs bs hob (by have := HV.1.2; omega) (by have := HV.1; omega) HRD.1
 have HN := ak (HL.1.stepW (HL.1.mod.wrote hk _ hlw q1 q2 q3) (q3.mono (fun c e => by omega)))
 rw [HBK.1] at hcp
 clear hob hlw q1 q2 q3
 refine pu_ 0 41 1 ?_
 refine pu_ 1 42 3 ?_
 refine pu_ 2 43 7 ?_
 refine pu_ 7 48 135 ?_
 refine pu_ 8 49 391 ?_
 refine pu_ 9 50 903 ?_
 refine pu_ 11 52 2951 ?_
 refine pu_ 16 57 68487 ?_
 refine pu_ 18 59 330631 ?_
 refine ta_ 3 44 330639 hHeld ?_
 refine pu_ 4 45 330655 ?_
 refine pu_ 5 46 330687 ?_
 refine ta_ 6 47 330751 hHeld ?_
 refine ta_ 10 51 331775 hHeld ?_
 refine one_ (i := 12) (N := some 53) (bz 20 335871) rfl rfl (by kernel_rfl) (by decide) (fun K hK => ?_)
 refine goes_ Tryz.func60 (by kernel_rfl) rfl #[.pointer (some ⟨mo, 0, none⟩), .int .i64 x] (by rfl) rfl rfl (by simp only [List.map_toArray, List.map_cons, List.map_nil]; rfl) ?_
 with_reducible refine (HFN.1).mono ?_
 rintro e_ w5 ⟨rfl, rfl⟩
 refine ⟨_, rfl, ?_⟩
 refine hK.out _ _ ⟨hHeld.1, hHeld.2.1, hHeld.2.2⟩ (fun hHeld => ?_)
 clear hK K
 refine no_ 53 ?_
 refine pu_ 13 54 344063 ?_
 refine pu_ 14 55 360447 ?_
 refine ta_ 15 56 393215 hHeld ?_
 refine pu_ 17 58 524287 ?_
 refine last_ (i := 19) (N := some 60) (bz 20 1048575) rfl rfl (by kernel_rfl) (by decide) (fun K hK => ?_)
 refine TS.step_copy_eq rfl _ _ 23 23 rfl _ _ rfl rfl (hcp _) ?_
 refine hK.out _ _ ?_
 clear hK K
 refine no_ 60 ?_
 refine done_ (by kernel_rfl) ?_
 go_wp2_with fail
 go_ret
 exact ⟨rfl, _, _, HN.1⟩
theorem conv_rd (W : World) (A : Option Addr) (n c : Nat) (xs : List Nat) (h : RdB W A n xs) : (convert 23 9 (.slice A n c)).run Tryz.prog W = .ok (.string (strOfNums (xs.map fun (x : Nat) => (x : Int)))) W := by
 have hl := h.len
 cases A with
 | none =>
  obtain rfl : n = 0 := by
   rcases Nat.eq_zero_or_pos n with h9 | h9
   ·exact h9
   ·obtain ⟨_, e, _⟩ := h.cell h9
    cases e
  obtain rfl := List.length_eq_zero_iff.1 hl
  have := run_convert_bytes_nil (P := Tryz.prog) W 23 5 Tryz.underlying23 Tryz.underlying5 0 c 9 Tryz.underlying9
  rw [this]
  rfl
 | some ad =>
  have hq : (loadCells ad n).run Tryz.prog W = .ok ((xs.map fun (x : Nat) => (x : Int)).map (Value.int .u8)).toArray W := by
   have := run_loadCells_list (P := Tryz.prog) W ad (((xs.map fun (x : Nat) => (x : Int)).map (Value.int .u8))) (fun j v hj => by
    rw [List.getElem?_map, List.getElem?_map] at hj
    cases hy : xs[j]? with
    | none => rw [hy] at hj; simp at hj
    | some y =>
     rw [hy] at hj; simp at hj; rw [← hj]
     have hjl : j < xs.length := (List.getElem?_eq_some_iff.1 hy).1
     obtain ⟨ad2, e2, h2⟩ := h.cell (by omega)
     obtain rfl := Option.some.inj e2
     exact h2 j y hy)
   rw [List.length_map, List.length_map, hl] at this
   exact this
  rw [run_convert_bytes_string W 23 9 5 _ n c Tryz.underlying23 Tryz.underlying5 Tryz.underlying9, run_bytesToString W _ n c _ hq, foldl_push_bytes]
  simp [strOfNums, ByteArray.empty, ByteArray.emptyWithCapacity]
  try rfl
theorem rd_obs {κ : Kol} {w : World} {g o n : Nat} {xs : List Nat} (h : BlkK κ 4 w g (bv xs) 5) (hl : o + n ≤ xs.length) (h1 : xs.length ≤ 1024) : RdB w (some ⟨g, o, none⟩) n ((xs.drop o).take n) := by
 exact bv_cells h.blk o n hl (by omega)
theorem cell_keep {w : World} {p : Addr} {v : Value} (o : Obj) (h : w.cell? p = some v) : (w.alloc o).cell? p = some v := (World.cell?_alloc_lt w o p (World.block_lt_of_cell? w p h)).trans h
theorem law_read (w0 : World) (κ μ : Kol) (b m mo nc : Nat) (t : Top) (a : Ad) (s : St) (l : List Ob) (j : Int) (x k o n : Nat) (xs : List Nat) (hj : 0 ≤ j) (hj2 : j < nc) (hnc : nc ≤ 1000) (hk : k < l.length) (hf : fndI l x = k) (hfit : o + n ≤ l[k].bs.length) (h1n : 1 ≤ n)
 (hD : DoesR j x o n xs m a s) (hxs : xs = (l[k].bs.drop o).take n) (w : World) (h : LawK w0 κ μ w b m mo nc t a s l) :
 Calls Tryz.prog 20 #[.pointer (some ⟨b, 0, none⟩), .int .i64 j, .int .i64 x, .int .i64 o, .int .i64 n] w fun e w' => e = .returned (.bool true) ∧ LawK w0 κ μ w' b m mo nc t a s l := by
 have HM := ak (hD κ w h.glob h.mach)
 have HL := ak h
 have x0 := h.x0
 have HF := ak hf
 have hlen := h.mod.len
 have HXS := ak hxs
 clear h hD hf hxs
 go_enter Tryz.func20, Tryz.ntmps20
 go_upto_region 2 with (go_at_call 24; (with_reducible refine HM.1.mono ?_); rintro e_ w1 ⟨A1, c1, rfl, q1, q2⟩; have HL1 := ak (HL.1.below q2); have HRD := ak q1; clear q1 q2)
 clear x0 HM HL
 have x1 := HL1.1.x1
 go_upto_region 7 with (go_at_call 59; (with_reducible refine (model_reach _ mo nc l j hj hj2 hnc x k o n hk HF.1 hfit _ HL1.1.mod).mono ?_); rintro e_ w2 ⟨rfl, rfl⟩)
 clear x1
 obtain ⟨A, c, hB, hR⟩ := HL1.1.mod.row
 obtain ⟨g, rfl, s0, s1⟩ := obs_at hR k hk
 have x1 := HL1.1.x1
 have y1 := hB.blk.at 1 (.slice (some ⟨g, 0, none⟩) l.length c) rfl
 obtain ⟨z, hz⟩ : ∃ z, z + o = l[k].bs.length := ⟨l[k].bs.length - o, by omega⟩
 have hk0 : (0 : Int) ≤ (k : Int) := by omega
 have hkI : (k : Int) < (l.length : Int) := by omega
 have hzl := (HL1.1.mod.val l[k] (List.getElem_mem hk)).2
 have HV := ak (And.intro hfit hz)
 rw [← hz] at s1 hfit hzl
 obtain ⟨bk, hbk⟩ : ∃ bk, l[k].blk = bk := ⟨_, rfl⟩
 rw [hbk] at s1
 obtain ⟨ax, hax⟩ : ∃ ax : Int, (l[k].addr : Int) = ax := ⟨_, rfl⟩
 rw [hax] at s0
 have HBK := ak hbk
 clear hB hR hbk hz hax
 refine st_ 17 (fun w' => w'.cell? ⟨b, 1, none⟩ = some (.pointer (some ⟨mo, 0, none⟩)) ∧ w'.cell? ⟨mo, 1, none⟩ = some (.slice (some ⟨g, 0, none⟩) l.length c) ∧ w'.cell? ⟨g, k * 2, none⟩ = some (.int .i64 ax) ∧ w'.cell? ⟨g, k * 2 + 1, none⟩ = some (.slice (some ⟨bk, 0, none⟩) (z + o) (z + o))) [16] ⟨x1, y1, s0, s1⟩ (fun hHeld => ?_)
 have hd_ := below_drew (RowKit.Below.refl w2.heap.size w2)
 have n0_ := ak (HL1.1.below hd_)
 have n1_ := ak (HRD.1.below hd_)
 clear HL1 HRD x1 y1 s0 s1
 generalize w2.drew = wd at *
 clear hd_
 have HL := n0_
 have HRD := n1_
 clear n0_ n1_
 refine pu_ 0 55 1 ?_
 refine pu_ 1 56 3 ?_
 refine pu_ 2 57 7 ?_
 refine pu_ 7 62 135 ?_
 refine pu_ 8 63 391 ?_
 refine pu_ 9 64 903 ?_
 refine pu_ 11 66 2951 ?_
 refine ta_ 3 58 2959 hHeld ?_
 refine pu_ 4 59 2975 ?_
 refine pu_ 5 60 3007 ?_
 refine ta_ 6 61 3071 hHeld ?_
 refine ta_ 10 65 4095 hHeld ?_
 refine join_ (σ := Unit) 1 (bz 17 65535) (fun sg_ => [(67, .int .i64 k), (14, .pointer (some ⟨wd.heap.size, 0, none⟩)), (68, .pointer (some ⟨g, k * 2, none⟩)), (69, .agg #[.int .i64 ax, .slice (some ⟨bk, 0, none⟩) (z + o) (z + o)])]) (fun sg_ w_ => w_ = wd.alloc (.cells #[.int .i64 0, .slice none 0 0] 45) ∧ w_.cell? ⟨b, 1, none⟩ = some (.pointer (some ⟨mo, 0, none⟩)) ∧ w_.cell? ⟨mo, 1, none⟩ = some (.slice (some ⟨g, 0, none⟩) l.length c) ∧ w_.cell? ⟨g, k * 2, none⟩ = some (.int .i64 ax) ∧ w_.cell? ⟨g, k * 2 + 1, none⟩ = some (.slice (some ⟨bk, 0, none⟩) (z + o) (z + o))) ?_ ?_
 rotate_left
 ·intro hCont
  refine two_ (i := 12) (j := 15) (Ni := some 67) (Nj := some 14) (bz 17 8191) (bz 17 36863) rfl rfl rfl rfl (by kernel_rfl) (by decide) (by decide) (fun K hK => ?_) (fun K hK => ?_)
  ·skip
   have HFN := ak (model_find _ mo nc l x _ HL.1.mod)
   rw [HF.1] at HFN
   refine goes_ Tryz.func60 (by kernel_rfl) rfl #[.pointer (some ⟨mo, 0, none⟩), .int .i64 x] (by rfl) rfl rfl (by simp only [List.map_toArray, List.map_cons, List.map_nil]; rfl) ?_
   with_reducible refine (HFN.1).mono ?_
   rintro e_ w5 ⟨rfl, hw5⟩
   refine ⟨_, rfl, ?_⟩
   subst hw5
   clear HFN
   refine hK.out _ _ ⟨hHeld.1, hHeld.2.1, hHeld.2.2.1, hHeld.2.2.2⟩ (fun hHeld => ?_)
   clear hK K
   refine no_ 67 ?_
   refine pu_ 13 68 16383 ?_
   refine ta_ 14 69 32767 hHeld ?_
   refine one_ (i := 15) (N := some 14) (bz 17 65535) rfl rfl (by kernel_rfl) (by decide) (fun K hK => ?_)
   refine va_ ?_
   refine hK.out _ _ ⟨(cell_keep (.cells #[.int .i64 0, .slice none 0 0] 45) hHeld.1), (cell_keep (.cells #[.int .i64 0, .slice none 0 0] 45) hHeld.2.1), (cell_keep (.cells #[.int .i64 0, .slice none 0 0] 45) hHeld.2.2.1), (cell_keep (.cells #[.int .i64 0, .slice none 0 0] 45) hHeld.2.2.2)⟩ (fun hHeld => ?_)
   clear hK K
   refine no_ 14 ?_
   exact norm_ (by simp only [putAll, Act.put, List.setIfInBounds_toArray, List.set_cons_zero, List.set_cons_succ]) (hCont () _ ⟨rfl, hHeld⟩)
  ·skip
   refine va_ ?_
   refine hK.out _ _ ⟨(cell_keep (.cells #[.int .i64 0, .slice none 0 0] 45) hHeld.1), (cell_keep (.cells #[.int .i64 0, .slice none 0 0] 45) hHeld.2.1), (cell_keep (.cells #[.int .i64 0, .slice none 0 0] 45) hHeld.2.2.1), (cell_keep (.cells #[.int .i64 0, .slice none 0 0] 45) hHeld.2.2.2)⟩ (fun hHeld => ?_)
   clear hK K
   refine no_ 14 ?_
   refine one_ (i := 12) (N := some 67) (bz 17 40959) rfl rfl (by kernel_rfl) (by decide) (fun K hK => ?_)
   have HFN := ak (model_find _ mo nc l x _ (HL.1.below (below_alloc (RowKit.Below.refl _ _) (.cells #[.int .i64 0, .slice none 0 0] 45))).mod)
   rw [HF.1] at HFN
   refine goes_ Tryz.func60 (by kernel_rfl) rfl #[.pointer (some ⟨mo, 0, none⟩), .int .i64 x] (by rfl) rfl rfl (by simp only [List.map_toArray, List.map_cons, List.map_nil]; rfl) ?_
   with_reducible refine (HFN.1).mono ?_
   rintro e_ w5 ⟨rfl, hw5⟩
   refine ⟨_, rfl, ?_⟩
   subst hw5
   clear HFN
   refine hK.out _ _ ⟨hHeld.1, hHeld.2.1, hHeld.2.2.1, hHeld.2.2.2⟩ (fun hHeld => ?_)
   clear hK K
   refine no_ 67 ?_
   refine pu_ 13 68 49151 ?_
   refine ta_ 14 69 65535 hHeld ?_
   exact norm_ (by simp only [putAll, Act.put, List.setIfInBounds_toArray, List.set_cons_zero, List.set_cons_succ]) (hCont () _ ⟨rfl, hHeld⟩)
 rintro ⟨⟩ wj ⟨rfl, hHeld⟩
 refine norm_ (a' := ?_) ?_ ?_
 rotate_left
 ·simp only [putAll, Act.put, List.setIfInBounds_toArray, List.set_cons_zero, List.set_cons_succ]
  rfl
 refine last_ (i := 16) (N := none) (bz 17 131071) rfl rfl (by kernel_rfl) (by decide) (fun K hK => ?_)
 have f0_ := (Blk.new wd #[.int .i64 0, .slice none 0 0] 45).fz 0
 have f1_ := (Blk.new wd #[.int .i64 0, .slice none 0 0] 45).fz 1
 refine skip_ (w1 := ?_) (by rfl) rfl ?_ ?_
 rotate_left
 ·go_simp
  rfl
 refine hK.out _ _ ?_
 clear hK K
 refine done_ (by kernel_rfl) ?_
 go_upto_region 8 with fail
 obtain ⟨W, hW⟩ : ∃ W, wd.alloc (.cells #[.int .i64 ax, .slice (some ⟨bk, 0, none⟩) (z + o) (z + o)] 45) = W := ⟨_, rfl⟩
 have hbw : RowKit.Below wd.heap.size wd W := by rw [← hW]; exact below_alloc (RowKit.Below.refl _ _) _
 have HT := ak (show Blk W wd.heap.size #[.int .i64 ax, .slice (some ⟨bk, 0, none⟩) (z + o) (z + o)] 45 from by rw [← hW]; exact Blk.new wd _ _)
 have HL3 := ak (HL.1.below hbw)
 have HR3 := ak (HRD.1.below hbw)
 have HO3 := ak (show RdB W (some ⟨bk, o, none⟩) n xs from by
  have h9 := rd_obs (n := n) (o := o) (HL3.1.mod.bl l[k] (List.getElem_mem hk)) HV.1.1 (HL3.1.mod.val l[k] (List.getElem_mem hk)).2
  rw [HBK.1, ← HXS.1] at h9
  exact h9)
 rw [hW]
 obtain ⟨tb, htb⟩ : ∃ tb, wd.heap.size = tb := ⟨_, rfl⟩
 rw [htb] at HT ⊢
 clear hW hbw HL HRD htb hHeld
 obtain ⟨q, hq⟩ : ∃ q, strOfNums (xs.map fun (x : Nat) => (x : Int)) = q := ⟨_, rfl⟩
 have hcv1 : ∀ V, RdB V A1 n xs → (convert 23 9 (.slice A1 n c1)).run Tryz.prog V = .ok (.string q) V := fun V h => by rw [← hq]; exact conv_rd V A1 n c1 xs h
 have hcv2 : ∀ V, RdB V (some ⟨bk, o, none⟩) n xs → (convert 23 9 (.slice (some ⟨bk, o, none⟩) n z)).run Tryz.prog V = .ok (.string q) V := fun V h => by rw [← hq]; exact conv_rd V _ n z xs h
 have t1 := HT.1.at 1 (.slice (some ⟨bk, 0, none⟩) (z + o) (z + o)) rfl
 have r1 := HR3.1
 have r2 := HO3.1
 clear hq
 have hz0 : ¬ z = 0 := by omega
 have ho0 : (0 : Int) ≤ (o : Int) := by omega
 obtain ⟨e, he⟩ : ∃ e, o + n = e := ⟨_, rfl⟩
 have he0 : (0 : Int) ≤ (e : Int) := by omega
 have hez : (e : Int) ≤ (z : Int) + (o : Int) := by omega
 have hoe : o ≤ e := by omega
 have heo : e - o = n := by omega
 have hwe : wrap64 ((o : Int) + (n : Int)) = (e : Int) := by rw [IntWalk.wrap64_in _ ⟨by omega, by omega⟩]; omega
 clear he
 refine st_ 12 (fun w' => w'.cell? ⟨tb, 1, none⟩ = some (.slice (some ⟨bk, 0, none⟩) (z + o) (z + o)) ∧ RdB w' A1 n xs ∧ RdB w' (some ⟨bk, o, none⟩) n xs) [] ⟨t1, r1.below (below_drew (RowKit.Below.refl _ _)), r2.below (below_drew (RowKit.Below.refl _ _))⟩ (fun hHeld => ?_)
 have hd_ := below_drew (RowKit.Below.refl W.heap.size W)
 have HL4 := ak (HL3.1.below hd_)
 clear HL3 HR3 HO3 HT t1 r1 r2
 generalize W.drew = we at *
 clear hd_
 refine pu_ 0 70 1 ?_
 refine pu_ 2 72 5 ?_
 refine pu_ 4 74 21 ?_
 refine pu_ 5 75 53 ?_
 refine pu_ 6 76 117 ?_
 refine pu_ 7 77 245 ?_
 refine ta_ 1 71 247 hHeld ?_
 refine ta_ 3 73 255 hHeld ?_
 refine pu_ 8 78 511 ?_
 refine ta_ 9 79 1023 hHeld ?_
 refine pu_ 10 80 2047 ?_
 refine pu_ 11 10 4095 ?_
 refine done_ (by kernel_rfl) ?_
 go_wp2_with fail
 go_ret
 exact ⟨rfl, HL4.1⟩
def topC (n : Nat) : List Int := (List.range n).map (fun (x : Nat) => (x : Int)) ++ [0]
def topD (n : Nat) : List (List Int) := (List.range n).map fun a => (List.range n).map fun b => if a = b then 10 else ((15 + (5 * (a + b)) % 40 : Nat) : Int)
theorem top_all : ∀ n, n < 5 → ∀ f ∈ [8, 16, 32], PH.messuagelaw19_topology.f 60 ((n : Nat) : Int) ((f : Nat) : Int) = some (((n : Nat) : Int), ((f : Nat) : Int), topC n, topD n) := by
 intro n hn f hf
 have h : (List.range 5).all (fun n => [8, 16, 32].all fun f => PH.messuagelaw19_topology.f 60 ((n : Nat) : Int) ((f : Nat) : Int) == some (((n : Nat) : Int), ((f : Nat) : Int), topC n, topD n)) = true := by decide +kernel
 have h1 := List.all_eq_true.1 (List.all_eq_true.1 h n (List.mem_range.2 hn)) f hf
 exact eq_of_beq h1
theorem top_chk : ∀ n, n < 5 → 1 ≤ n → ∀ f ∈ [8, 16, 32], TZ.chk (n : Nat) (f : Nat) (topC n) (topD n) = 0 := by decide +kernel
theorem top_p2 : ∀ f ∈ [8, 16, 32], f ∈ p2s ∧ 8 ≤ f := by decide +kernel
theorem topC_len (n : Nat) : (topC n).length = n + 1 := by simp [topC]
theorem topD_len (n : Nat) : (topD n).length = n := by simp [topD]
theorem topD_row (n : Nat) : ∀ r ∈ topD n, r.length = n := by
 intro r hr
 obtain ⟨x, _, rfl⟩ := List.mem_map.1 hr
 simp
def polZ : List Value := (List.replicate 16 [Value.int .i64 0, .int .u8 0, .int .i64 0]).flatten
theorem shl_f (c1 : Int) : ∃ f : Nat, f ∈ [8, 16, 32] ∧ ∀ W : World, (Op.shift .shl .i64 8 .u64 ((IntKind.u64.wrap c1).tmod 3)).run Tryz.prog W = .ok (.int .i64 (f : Int)) W := by
 have h0 : 0 ≤ IntKind.u64.wrap c1 := by rw [IntKind.wrap_u64]; omega
 have h1 := Int.tmod_nonneg 3 h0
 have h2 := Int.tmod_lt_of_pos (IntKind.u64.wrap c1) (show (0 : Int) < 3 by omega)
 generalize (IntKind.u64.wrap c1).tmod 3 = x at h1 h2
 obtain rfl | rfl | rfl : x = 0 ∨ x = 1 ∨ x = 2 := by omega
 ·exact ⟨8, by simp, fun W => rfl⟩
 ·exact ⟨16, by simp, fun W => rfl⟩
 ·exact ⟨32, by simp, fun W => rfl⟩
theorem least_k (k : Int) : ∃ q : Nat, wrap64 ((IntKind.u64.wrap k).tmod 3) = (q : Int) ∧ q ≤ 2 := by
 have h0 : 0 ≤ IntKind.u64.wrap k := by rw [IntKind.wrap_u64]; omega
 have h1 := Int.tmod_nonneg 3 h0
 have h2 := Int.tmod_lt_of_pos (IntKind.u64.wrap k) (show (0 : Int) < 3 by omega)
 generalize (IntKind.u64.wrap k).tmod 3 = x at h1 h2
 exact ⟨x.toNat, by rw [IntWalk.wrap64_in x ⟨by omega, by omega⟩]; omega, by omega⟩
def begS (n f q : Nat) : St := newS n f (topC n) (topD n) (q : Int) ((q : Int) + 1) ((q : Int) + 2)
def begT (n f : Nat) (A : Option Addr) (ca : Nat) (B : Option Addr) (cb : Nat) : Top := ⟨n, f, topC n, topD n, A, ca, B, cb, polZ⟩
theorem begun (w wa wt wb w5 : World) (κ5 : Kol) (m n f q tb : Nat) (A : Option Addr) (ca : Nat) (B : Option Addr) (cb : Nat) (a : Ad) (HG : GlobR w) (HA : RowKit.Below w.heap.size w wa) (HBT : RowKit.Below wa.heap.size wa wt) (HBB : RowKit.Below wt.heap.size wt wb) (HTE : wt.heap.size = tb) (HM : MachK κ5 w5 m a (newS n f (topC n) (topD n) (q : Int) ((q : Int) + 1) ((q : Int) + 2))) (HO : ∀ b, b < wb.heap.size → κ5 b = 0) (HB5 : RowKit.Below wb.heap.size wb w5)
 (HT5 : Blk w5 tb #[.int .i64 n, .int .i64 f, .slice A (topC n).length ca, .slice B (topD n).length cb] 37)
 (HR2 : Kd.R (Kd.int .i64) 3 wt wa.heap.size (fun _ => True) (.slice A (topC n).length ca) (topC n)) (HR3 : Kd.R (Kd.slice 3 (Kd.int .i64)) 34 wt wa.heap.size (fun k_ => some k_ ≠ (Value.slice A (topC n).length ca).ownBlock) (.slice B (topD n).length cb) (topD n)) :
 LawK w (κ5.ext w5.heap.size 0) (fun x => if x < wa.heap.size then 0 else if x < wt.heap.size then 5 else if x < w5.heap.size then 0 else if x = w5.heap.size then 2 else 1)
  ((w5.alloc (.cells #[.int .i64 ((topC n).length : Int), .slice none 0 0] 31)).alloc (.cells (worC m w5.heap.size (begT n f A ca B cb).cells) 43)) (w5.heap.size + 1) m w5.heap.size (n + 1) (begT n f A ca B cb) a (begS n f q) [] := by
 have z1 := HA.size
 have z2 := HBT.size
 have z3 := HBB.size
 have z4 := HB5.size
 have hbt5 : RowKit.Below wt.heap.size wt w5 := below_then HBB z3 HB5
 have hb5 : RowKit.Below w.heap.size w w5 := below_then (below_then (below_then HA z1 HBT) (by omega) HBB) (by omega) HB5
 obtain ⟨w7, hw7⟩ : ∃ w7, (w5.alloc (.cells #[.int .i64 ((topC n).length : Int), .slice none 0 0] 31)).alloc (.cells (worC m w5.heap.size (begT n f A ca B cb).cells) 43) = w7 := ⟨_, rfl⟩
 have hb7 : RowKit.Below w5.heap.size w5 w7 := by rw [← hw7]; exact below_alloc (below_alloc (RowKit.Below.refl _ _) _) _
 have hmo : Blk w7 w5.heap.size #[.int .i64 ((topC n).length : Int), .slice none 0 0] 31 := by rw [← hw7]; exact (Blk.new w5 _ _).alloc _
 have hbo : Blk w7 (w5.heap.size + 1) (worC m w5.heap.size (begT n f A ca B cb).cells) 43 := by rw [← hw7]; exact Blk.new1 w5 _ _ _
 rw [hw7]
 obtain ⟨μ, hμ⟩ : ∃ μ : Kol, (fun x => if x < wa.heap.size then 0 else if x < wt.heap.size then 5 else if x < w5.heap.size then 0 else if x = w5.heap.size then 2 else 1) = μ := ⟨_, rfl⟩
 have m0 : ∀ x, x < wa.heap.size → μ x = 0 := fun x hx => by rw [← hμ]; exact if_pos hx
 have m5 : ∀ x, wa.heap.size ≤ x → x < wt.heap.size → μ x = 5 := fun x h1 h2 => by rw [← hμ]; show (if x < wa.heap.size then _ else _) = _; rw [if_neg (by omega), if_pos h2]
 have m0' : ∀ x, wt.heap.size ≤ x → x < w5.heap.size → μ x = 0 := fun x h1 h2 => by rw [← hμ]; show (if x < wa.heap.size then _ else _) = _; rw [if_neg (by omega), if_neg (by omega), if_pos h2]
 have m2 : μ w5.heap.size = 2 := by rw [← hμ]; show (if w5.heap.size < wa.heap.size then _ else _) = _; rw [if_neg (by omega), if_neg (by omega), if_neg (by omega), if_pos rfl]
 have m1 : μ (w5.heap.size + 1) = 1 := by rw [← hμ]; show (if w5.heap.size + 1 < wa.heap.size then _ else _) = _; rw [if_neg (by omega), if_neg (by omega), if_neg (by omega), if_neg (by omega)]
 rw [hμ]
 clear hμ hw7
 refine ⟨fun x hx => ⟨?_, m0 x (by omega)⟩, below_then hb5 hb5.size hb7, fun x => ?_, HG, ?_, ⟨m1, hbo⟩, ⟨⟨none, 0, ⟨m2, ?_⟩, RowG.nil _ _ _ _ _⟩, fun o ho => (by cases ho), List.nodup_nil, Nat.zero_le _, fun o ho => (by cases ho)⟩, ?_, ?_⟩
 ·rw [Kol.ext_old κ5 (by omega)]; exact HO x (by omega)
 ·rcases Nat.lt_or_ge x wb.heap.size with h1 | h1
  ·left; rw [Kol.ext_old κ5 (by omega)]; exact HO x h1
  ·rcases Nat.lt_or_ge x w5.heap.size with h2 | h2
   ·right; exact m0' x (by omega) h2
   ·left; exact Kol.ext_new κ5 h2
 ·exact HM.upd (I := fun _ => False) ((Upd.of_below κ5 hb7).paint _ _ (Nat.le_refl _)) (fun _ _ h => h)
 ·rw [topC_len] at hmo
  exact hmo
 ·exact KR.below (KR.made HR2 (fun b h1 h2 => m5 b h1 h2)) (below_then hbt5 hbt5.size hb7)
 ·exact KR.below (KR.made (Kd.R_mono HR3 (fun _ _ => trivial)) (fun b h1 h2 => m5 b h1 h2)) (below_then hbt5 hbt5.size hb7)
theorem law_begin (c0 c1 k : Int) (n f q : Nat) (hn : wrap64 (1 + wrap64 ((IntKind.u64.wrap c0).tmod 4)) = (n : Int)) (hn1 : 1 ≤ n) (hn4 : n ≤ 4) (hf : f ∈ [8, 16, 32]) (hsh : ∀ W : World, (Op.shift .shl .i64 8 .u64 ((IntKind.u64.wrap c1).tmod 3)).run Tryz.prog W = .ok (.int .i64 (f : Int)) W)
 (hq : wrap64 ((IntKind.u64.wrap k).tmod 3) = (q : Int)) (hq2 : q ≤ 2) (w : World) (hg : GlobR w) :
 Calls Tryz.prog 15 #[.agg #[.int .i64 c0, .int .i64 c1], .int .i64 k] w fun e w' => ∃ κ μ b m mo A ca B cb a, e = .returned (.pointer (some ⟨b, 0, none⟩)) ∧ LawK w κ μ w' b m mo (n + 1) (begT n f A ca B cb) a (begS n f q) [] := by
 have HG := ak hg
 have HTP := ak (top_all n (by omega) f hf)
 have hp2 := top_p2 f hf
 have hfl := p2_le f hp2.1
 have HCK := ak (And.intro (top_chk n (by omega) hn1 f hf) hp2.1)
 have hf8 := hp2.2
 clear hg hf hp2
 have HQ := ak hq
 clear hq
 go_enter Tryz.func15, Tryz.ntmps15
 go_upto_region 1 with fail
 have q0 := (Blk.new w #[.int .i64 c0, .int .i64 c1] 22).at 0 (.int .i64 c0) rfl
 have q1 := (Blk.new w #[.int .i64 c0, .int .i64 c1] 22).at 1 (.int .i64 c1) rfl
 refine st_ 13 (fun w' => w'.cell? ⟨w.heap.size, 0, none⟩ = some (.int .i64 c0) ∧ w'.cell? ⟨w.heap.size, 1, none⟩ = some (.int .i64 c1)) [] ⟨q0, q1⟩ (fun hHeld => ?_)
 refine pu_ 0 11 1 ?_
 refine pu_ 6 17 65 ?_
 refine ta_ 1 12 67 hHeld ?_
 refine pu_ 2 13 71 ?_
 refine pu_ 3 14 79 ?_
 refine pu_ 4 15 95 ?_
 refine pu_ 5 16 127 ?_
 refine pu_ 11 5 2175 ?_
 refine ta_ 7 18 2303 hHeld ?_
 refine pu_ 8 19 2559 ?_
 refine pu_ 9 20 3071 ?_
 refine pu_ 10 21 4095 ?_
 refine pu_ 12 6 8191 ?_
 refine done_ (by kernel_rfl) ?_
 clear q0 q1 hHeld hsh hn
 obtain ⟨wa, hwa⟩ : ∃ wa, (w.alloc (.cells #[.int .i64 c0, .int .i64 c1] 22)).drew = wa := ⟨_, rfl⟩
 have HA := ak (show RowKit.Below w.heap.size w wa from by rw [← hwa]; exact below_drew (below_alloc (RowKit.Below.refl _ _) _))
 rw [hwa]
 clear hwa
 go_upto_region 3 with (go_at_call 56; (with_reducible refine (PH.messuagelaw19_topology.calls 60 n f n f (topC n) (topD n) _ HTP.1).mono ?_); rintro e_ wt ⟨v2, v3, rfl, hr2, hr3, hbt⟩; have HR2 := ak hr2; have HR3 := ak (Kd.S_R hr3); have HBT := ak hbt; obtain ⟨A, ca, rfl⟩ := Kd.R_slice hr2; obtain ⟨B, cb, rfl⟩ := Kd.R_slice (Kd.S_R hr3); clear hr2 hr3 hbt)
 obtain ⟨wb, hwb⟩ : ∃ wb, wt.alloc (.cells #[.int .i64 n, .int .i64 f, .slice A (topC n).length ca, .slice B (topD n).length cb] 37) = wb := ⟨_, rfl⟩
 have hbb : RowKit.Below wt.heap.size wt wb := by rw [← hwb]; exact below_alloc (RowKit.Below.refl _ _) _
 have HTB := ak (show Blk wb wt.heap.size #[.int .i64 n, .int .i64 f, .slice A (topC n).length ca, .slice B (topD n).length cb] 37 from by rw [← hwb]; exact Blk.new wt _ _)
 have HBB := ak hbb
 rw [hwb]
 obtain ⟨tb, htb⟩ : ∃ tb, wt.heap.size = tb := ⟨_, rfl⟩
 have HTE := ak htb
 rw [htb] at HTB ⊢
 have hca : (topC n).length ≤ ca := (Kd.R_reads' HR2.1).2.1
 have hcb : (topD n).length ≤ cb := (Kd.R_reads' HR3.1).2.1
 have HMN := ak (mach_new n f A ca (topC n) B cb (topD n) q ((q : Int) + 1) ((q : Int) + 2) HCK.1.1 hn1 (by omega) HCK.1.2 (by rw [topC_len]; omega) (by rw [topC_len]; omega) (topD_len n) (topD_row n) (by omega) (by omega) (by omega) (by omega) wb (Kd.C_below (Kd.R_reads' HR2.1).2.2 hbb) hca (Kd.C_below (Kd.R_reads' HR3.1).2.2 hbb) hcb)
 clear hwb hbb htb hca hcb
 have t0 := HTB.1.at 0 (.int .i64 (n : Int)) rfl
 have t1 := HTB.1.at 1 (.int .i64 (f : Int)) rfl
 have t2 := HTB.1.at 2 (.slice A (topC n).length ca) rfl
 have t3 := HTB.1.at 3 (.slice B (topD n).length cb) rfl
 go_upto_region 4 with fail
 rw [HQ.1]
 have hq3 : (q : Int) ≤ 2 := by omega
 have hq4 : (0 : Int) ≤ (q : Int) := by omega
 go_upto_region 5 with (go_at_call 35; (with_reducible refine HMN.1.mono ?_); rintro e_ w5 ⟨κ5, m, a, rfl, hm, ho, hb⟩; have HM := ak hm; have HO := ak ho; have HB5 := ak hb; have HT5 := ak (HTB.1.below hb); clear hm ho hb)
 clear t0 t1 t2 t3 HMN
 have t2 := HT5.1.at 2 (.slice A (topC n).length ca) rfl
 have u0 := fun o => (HT5.1.alloc o).at 0 (.int .i64 (n : Int)) rfl
 have u1 := fun o => (HT5.1.alloc o).at 1 (.int .i64 (f : Int)) rfl
 have u2 := fun o => (HT5.1.alloc o).at 2 (.slice A (topC n).length ca) rfl
 have u3 := fun o => (HT5.1.alloc o).at 3 (.slice B (topD n).length cb) rfl
 go_wp2_with fail
 go_ret
 have HF := begun w wa wt wb w5 κ5 m n f q tb A ca B cb a HG.1 HA.1 HBT.1 HBB.1 HTE.1 HM.1 HO.1 HB5.1 HT5.1 HR2.1 HR3.1
 exact ⟨_, _, _, m, w5.heap.size, A, ca, B, cb, a, rfl, HF⟩
theorem MachK.cps {κ : Kol} {w : World} {m : Nat} {a : Ad} {s : St} (h : MachK κ w m a s) (j : Nat) (hj : j < s.cpus.length) : ∃ p, a.cps[j]? = some p := by
 have := h.cpus.2.1
 exact ⟨_, List.getElem?_eq_getElem (by omega)⟩
def ndN (n j : Nat) : Nat := if j < n then j else 0
theorem ndN_lt (n j : Nat) (h : 1 ≤ n) : ndN n j < n := by unfold ndN; split <;> omega
theorem topC_get (n j : Nat) (hj : j ≤ n) : (topC n)[j]? = some (ndN n j : Int) := by
 unfold topC ndN
 rcases Nat.lt_or_ge j n with h | h
 ·rw [List.getElem?_append_left (by simpa using h), if_pos h, List.getElem?_map, List.getElem?_range h]
  rfl
 ·obtain rfl : j = n := by omega
  rw [List.getElem?_append_right (by simp), if_neg (by omega)]
  simp
theorem ch_all : ((List.range 5).all fun n => n == 0 || ([8, 16, 32] : List Nat).all fun f => (List.range (n + 1)).all fun j => TZ.chV (n : Int) (f : Int) (topC n) (topD n) 0 0 0 (j : Int) 0 (List.replicate n true) == ((ndN n j : Int), (ndN n j : Int), 0, 0)) = true := by decide +kernel
theorem may_all : (([8, 16, 32] : List Nat).all fun f => (List.range 3).all fun q => (List.range 4).all fun c => mayB (q : Int) (newBud f) (clO c)) = true := by decide +kernel
theorem er_all : ((List.range 5).all fun n => n == 0 || TZ.polR 0 0 0 (n : Int) == 0 && ([8, 16, 32] : List Nat).all fun f => (List.range (n + 1)).all fun j => TZ.erN (n : Int) (f : Int) (topC n) (topD n) (ndN n j : Int) == 0) = true := by decide +kernel
def lgF (f : Nat) : Nat := if f = 8 then 3 else if f = 16 then 4 else 5
theorem bud_all : ∀ f ∈ [8, 16, 32], ∀ k, k < 11 → ((newBud f).fr k).Pairwise (· < ·) ∧ (∀ x ∈ (newBud f).fr k, x + 2 ^ k ≤ f) ∧ ((newBud f).fr k).length ≤ 1024 := by decide +kernel
theorem f_le (f : Nat) (hf : f ∈ [8, 16, 32]) : f ≤ 1024 := by
 have : f = 8 ∨ f = 16 ∨ f = 32 := by simpa using hf
 omega
theorem bud_ok (f : Nat) (hf : f ∈ [8, 16, 32]) : BudOK f (newBud f).fr := ⟨f_le f hf, fun k hk => (bud_all f hf k hk).1, fun k hk => (bud_all f hf k hk).2.1, fun k hk => (bud_all f hf k hk).2.2⟩
theorem lg_all : ∀ f ∈ [8, 16, 32], (newBud f).fr (lgF f) = [0] ∧ lgF f < 11 ∧ ∀ c, c < 4 → clO c ≤ lgF f ∧ ∀ q, q < lgF f → (newBud f).fr q = [] := by decide +kernel
theorem clO_all : ∀ c, c < 4 → TS.takeR ((2 ^ clO c : Nat) : Int) [] = (1, 0, [(1, ((2 ^ clO c : Nat) : Int))]) ∧ 2 ^ clO c ≤ 4 ∧ 1 ≤ clS c ∧ clS c ≤ 64 := by decide +kernel
theorem begP (n f q j cls p : Nat) (a : Ad) (hn1 : 1 ≤ n) (hn4 : n ≤ 4) (hf : f ∈ [8, 16, 32]) (hq : q ≤ 2) (hj : j ≤ n) (hc : cls < 4) (hp : a.cps[j]? = some p) :
 GrowP (begS n f q) a j p (newCpu (ndN n j)) cls (ndN n j) (ndN n j) (ndN n j) 0 (newBud f) (lgF f) 0 [] 1 [(1, ((2 ^ clO cls : Nat) : Int))] := by
 have hnd := ndN_lt n j hn1
 have hfr : f = 8 ∨ f = 16 ∨ f = 32 := by simpa using hf
 have hmay : mayB (q : Int) (newBud f) (clO cls) = true := List.all_eq_true.1 (List.all_eq_true.1 (List.all_eq_true.1 may_all f hf) q (List.mem_range.2 (by omega))) cls (List.mem_range.2 hc)
 have hn0 : (n == 0) = false := beq_eq_false_iff_ne.mpr (by omega)
 have hch := List.all_eq_true.1 ch_all n (List.mem_range.2 (by omega))
 rw [hn0, Bool.false_or] at hch
 have hch := eq_of_beq (List.all_eq_true.1 (List.all_eq_true.1 hch f hf) j (List.mem_range.2 (by omega)))
 have her := List.all_eq_true.1 er_all n (List.mem_range.2 (by omega))
 rw [hn0, Bool.false_or, Bool.and_eq_true] at her
 have hpol := eq_of_beq her.1
 have her := eq_of_beq (List.all_eq_true.1 (List.all_eq_true.1 her.2 f hf) j (List.mem_range.2 (by omega)))
 obtain ⟨l1, l2, l3⟩ := lg_all f hf
 obtain ⟨o1, o2, _⟩ := clO_all cls hc
 have hmul : ndN n j * f + f ≤ n * f := by
  have := Nat.mul_le_mul_right f (show ndN n j + 1 ≤ n by omega)
  rw [Nat.add_mul, Nat.one_mul] at this
  exact this
 refine ⟨hc, by show (0 : Nat) < 256; omega, hp, ?_, ?_, ?_, ⟨bud_ok f hf, by show (0 : Nat) < _; omega, (l3 cls hc).1, l2, l1, fun z _ hz => (l3 cls hc).2 z hz, hmay⟩, ?_, by show (-100000 : Int) ≤ (q : Int); omega, rfl, hnd, hnd, hnd, by show n ≤ 8; omega, by show f ≤ 1024; omega, Nat.zero_le _, o1, by omega, fun _ _ => rfl, fun _ _ => rfl, by show ndN n j * f + 0 + 2 ^ clO cls ≤ n * f; omega, Nat.zero_le _, Nat.zero_le _, hpol, her, fun _ => rfl, rfl, ?_⟩
 ·show ((topC n).map newCpu)[j]? = _
  rw [List.getElem?_map, topC_get n j hj]
  rfl
 ·show TZ.chV (n : Int) (f : Int) (topC n) (topD n) 0 0 0 (j : Int) 0 ((List.replicate n (newBud f)).map fun x => mayB (q : Int) x (clO cls)) = _
  rw [List.map_replicate, hmay]
  exact hch
 ·show (List.replicate n (newBud f))[ndN n j]? = _
  rw [List.getElem?_replicate, if_pos hnd]
 ·intro x hx k hk
  obtain rfl := List.eq_of_mem_replicate hx
  exact (bud_all f hf k hk).2.2
 ·show (List.replicate (n * f * 64) 0).length = _
  rw [List.length_replicate]
  rfl
structure One (s : St) (j : Nat) (c : Cpu) (x n1 cls nd fr page : Nat) (y : Int) (hd : Held) (bs : List Nat) : Prop where
 live : s.live (x : Int) = some ((n1 : Nat) : Int)
 on : OnPage s x (clS cls) fr
 fit : n1 ≤ clS cls
 len : bs.length = n1
 cont : (s.l.drop (fr * 64 + x % 64)).take n1 = bs
 hof : TS.ofR s.rs ((x / 64 : Nat) : Int) = ((page : Int), y, true)
 hpage : page < 4096
 hsp : s.sp page = some hd
 hcls : hd.cls = cls
 hnode : hd.node = nd
 hcpu : s.cpus[j]? = some c
 cnode : c.node = (nd : Int)
 cL : (c.L cls).length < 8
 hc4 : cls < 4
 ln : s.ln < 1000000
theorem splice_window (L : List Nat) (b o n : Nat) (ys : List Nat) (h1 : o + ys.length ≤ n) (h2 : b + n ≤ L.length) : ((spliceB L (b + o) ys).drop b).take n = spliceB ((L.drop b).take n) o ys := by
 unfold spliceB
 apply List.ext_getElem?
 intro i
 simp only [List.getElem?_take, List.getElem?_drop, List.getElem?_append, List.length_append, List.length_take, List.length_drop]
 repeat' split
 all_goals first | rfl | (exfalso; omega) | (congr 1; omega) | skip
 all_goals (try (rw [List.getElem?_eq_none (by omega)]))
theorem splice_at (L : List Nat) (b k : Nat) (ys : List Nat) (hb : b ≤ L.length) (hk : k ≤ ys.length) : ((spliceB L b ys).drop b).take k = ys.take k := by
 unfold spliceB
 rw [List.append_assoc, List.drop_append_of_le_length (by rw [List.length_take]; omega), List.drop_of_length_le (by rw [List.length_take]; omega), List.nil_append, List.take_append_of_le_length hk]
theorem of_all : ∀ c, c < 4 → TS.ofR [(1, ((2 ^ clO c : Nat) : Int))] 1 = (1, ((2 ^ clO c : Nat) : Int), true) := by decide +kernel
theorem clOf_lt (n : Nat) : clOf n < 4 := by unfold clOf; split <;> (try split) <;> (try split) <;> omega
theorem clOf_fit (n : Nat) (h : n ≤ 64) : n ≤ clS (clOf n) := by
 have e : clS 0 = 8 ∧ clS 1 = 16 ∧ clS 2 = 32 ∧ clS 3 = 64 := by decide
 unfold clOf
 split
 ·omega
 ·split
  ·omega
  ·split <;> omega
theorem does_new [SortI] (n f q j n1 m : Nat) (a : Ad) (hn1 : 1 ≤ n) (hn4 : n ≤ 4) (hf : f ∈ [8, 16, 32]) (hq : q ≤ 2) (hj : j ≤ n) (h1 : 1 ≤ n1) (h64 : n1 ≤ 64) :
 ∃ s1 c1 fr hd y, Does 21 #[.pointer (some ⟨m, 0, none⟩), .int .i64 j, .int .i64 n1] m a (begS n f q) s1 (.tuple #[.int .i64 (64 : Nat), .int .i64 0]) ∧ One s1 j c1 64 n1 (clOf n1) (ndN n j) fr 1 y hd (List.replicate n1 0) ∧ s1.cpus.length = n + 1 ∧ s1.ln = 1 ∧ s1.qs = List.replicate n [] := by
 obtain ⟨cls, hcl⟩ : ∃ cls, clOf n1 = cls := ⟨_, rfl⟩
 have hc4 : cls < 4 := by rw [← hcl]; exact clOf_lt n1
 have hfit : n1 ≤ clS cls := by rw [← hcl]; exact clOf_fit n1 h64
 have hnd := ndN_lt n j hn1
 have hfr := f_le f hf
 obtain ⟨c, hc⟩ : ∃ c, newCpu (ndN n j) = c := ⟨_, rfl⟩
 obtain ⟨nd, hnd'⟩ : ∃ nd, ndN n j = nd := ⟨_, rfl⟩
 rw [hnd'] at hc hnd ⊢
 have hP : ∀ p, a.cps[j]? = some p → GrowP (begS n f q) a j p c cls nd nd nd 0 (newBud f) (lgF f) 0 [] 1 [(1, ((2 ^ clO cls : Nat) : Int))] := by
  intro p hp
  have := begP n f q j cls p a hn1 hn4 hf hq hj hc4 hp
  rw [hnd', hc] at this
  exact this
 obtain ⟨sT, hsT⟩ : ∃ sT, takS (begS n f q) j c cls nd nd nd 0 (newBud f) (lgF f) 0 1 [(1, ((2 ^ clO cls : Nat) : Int))] = sT := ⟨_, rfl⟩
 obtain ⟨s2, hs2⟩ : ∃ s2 : St, { sT with l := spliceB (begS n f q).l ((nd * f + 0) * 64 + 1 * 64 % 64) (List.replicate (clS cls) 0), pn := sT.pn, pf := sT.pf, pg := sT.pg } = s2 := ⟨_, rfl⟩
 have hcl0 : (begS n f q).cpus[j]? = some c := by
  show ((topC n).map newCpu)[j]? = _
  rw [List.getElem?_map, topC_get n j hj, hnd', ← hc]
  rfl
 have hlen0 : (begS n f q).l.length = n * f * 64 := by
  show (List.replicate (n * f * 64) 0).length = _
  rw [List.length_replicate]
 have hmul : nd * f + f ≤ n * f := by
  have := Nat.mul_le_mul_right f (show nd + 1 ≤ n by omega)
  rw [Nat.add_mul, Nat.one_mul] at this
  exact this
 have hf8 := (top_p2 f hf).2
 have hcz := (clO_all cls hc4).2.2
 have hcpl : (begS n f q).cpus.length = n + 1 := by
  show ((topC n).map newCpu).length = _
  rw [List.length_map, topC_len]
 have hcpus : s2.cpus = ((begS n f q).cpus.set j { c with cur := 0 }).set j { ({ c with cur := 0 } : Cpu) with L := fiL { c with cur := 0 } 1 cls 0 4 } := by
  rw [← hs2, ← hsT]
  rfl
 refine ⟨liveS s2 64 n1, { ({ c with cur := 0 } : Cpu) with L := fiL { c with cur := 0 } 1 cls 0 4 }, nd * f + 0, ⟨nd, clO cls, nd * f + 0, cls, tkI 0 4⟩, ((2 ^ clO cls : Nat) : Int), fun κ w hg hM => ?_, ⟨?_, ?_, by rw [hcl]; exact hfit, by rw [List.length_replicate], ?_, ?_, by omega, ?_, hcl.symm, rfl, ?_, ?_, ?_, clOf_lt n1, ?_⟩, ?_, ?_, ?_⟩
 ·obtain ⟨p, hp⟩ := hM.cps j (by rw [hcpl]; omega)
  have hsm := small_new κ m a (begS n f q) j p c n1 h1 h64 nd nd nd 0 (newBud f) (lgF f) 0 [] 1 [(1, ((2 ^ clO cls : Nat) : Int))] (by rw [hcl]; exact hP p hp) w hg hM
  rw [hcl, hsT] at hsm
  have hsm2 := malloc_small κ m a (begS n f q) s2 j p n1 64 h1 h64 (by omega) hp (by rw [← hs2, ← hsT]; show (0 : Nat) < _; omega) w hg hM (by rw [← hs2]; exact hsm)
  exact hsm2
 ·show putF s2.live 64 n1 64 = _
  unfold putF
  rw [if_pos rfl]
 ·have hF := (hP 0 · |>.onPage hcz.2)
  have h9 : OnPage sT (1 * 64) (clS cls) (nd * f + 0) := by
   rw [← hsT]
   refine ⟨?_, by show nd * f + 0 < n * f; omega, by omega, by omega, by show n * f ≤ 100000; exact Nat.le_trans (Nat.mul_le_mul hn4 hfr) (by omega), by show (begS n f q).l.length = _; exact hlen0⟩
   show mapF (begS n f q).pf 1 (nd * f + 0 : Nat) (2 ^ clO cls) ((1 * 64 / 64 : Nat) : Int) = _
   unfold mapF
   have := Nat.one_le_two_pow (n := clO cls)
   rw [if_pos (by omega)]
   congr 1
  rw [hcl]
  refine ⟨?_, ?_, h9.fit, h9.max, ?_, ?_⟩
  ·rw [← hs2]; exact h9.f
  ·rw [← hs2]; exact h9.lt
  ·rw [← hs2]; exact h9.N
  ·rw [← hs2]
   show (spliceB (begS n f q).l ((nd * f + 0) * 64 + 1 * 64 % 64) (List.replicate (clS cls) 0)).length = sT.n * sT.f * 64
   rw [splice_len _ _ _ (by rw [hlen0, List.length_replicate]; omega), hlen0, ← hsT]
   rfl
 ·show (s2.l.drop ((nd * f + 0) * 64 + 64 % 64)).take n1 = _
  rw [← hs2]
  show ((spliceB (begS n f q).l ((nd * f + 0) * 64 + 1 * 64 % 64) (List.replicate (clS cls) 0)).drop ((nd * f + 0) * 64 + 64 % 64)).take n1 = _
  rw [show 1 * 64 % 64 = 64 % 64 by omega, splice_at _ _ _ _ (by rw [hlen0]; omega) (by rw [List.length_replicate]; exact hfit), List.take_replicate, Nat.min_eq_left hfit]
 ·show TS.ofR s2.rs ((64 / 64 : Nat) : Int) = _
  rw [← hs2, ← hsT]
  exact of_all cls hc4
 ·show s2.sp 1 = _
  rw [← hs2, ← hsT]
  rfl
 ·show s2.cpus[j]? = _
  rw [hcpus]
  exact List.getElem?_set_self (by rw [List.length_set, hcpl]; omega)
 ·show c.node = _
  rw [← hc]
  rfl
 ·rw [hcl]
  show ((fiL { c with cur := 0 } 1 cls 0 4) cls).length < 8
  rw [fiL_len, ← hc]
  show ([] : List Int).length + (4 - 1) < 8
  decide
 ·show s2.ln + 1 < 1000000
  rw [← hs2, ← hsT]
  show (0 : Nat) + 1 < _
  omega
 ·show s2.cpus.length = _
  rw [hcpus, List.length_set, List.length_set, hcpl]
 ·show s2.ln + 1 = 1
  rw [← hs2, ← hsT]
  rfl
 ·show s2.qs = _
  rw [← hs2, ← hsT]
  rfl
section
variable {s : St} {j : Nat} {c : Cpu} {x n1 cls nd fr page : Nat} {y : Int} {hd : Held} {bs : List Nat}
def wrS (s : St) (a : Nat) (ys : List Nat) : St := { s with l := spliceB s.l a ys, pn := s.pn, pf := s.pf, pg := s.pg }
theorem wrS_nil (s : St) (a : Nat) : wrS s a [] = s := by
 unfold wrS
 rw [show spliceB s.l a [] = s.l by unfold spliceB; simp]
theorem One.wrote (h : One s j c x n1 cls nd fr page y hd bs) (o : Nat) (ys : List Nat) (hfit : o + ys.length ≤ n1) : One (wrS s (fr * 64 + x % 64 + o) ys) j c x n1 cls nd fr page y hd (spliceB bs o ys) := by
 have h1 := h.on
 have h2 := h.fit
 have h3 := h1.fit
 have h4 := h1.lt
 have h5 := h1.len
 have hin : fr * 64 + x % 64 + n1 ≤ s.l.length := by
  rw [h5]
  have := Nat.mul_le_mul_right 64 (show fr + 1 ≤ s.n * s.f by omega)
  omega
 refine ⟨h.live, ⟨h1.f, h1.lt, h1.fit, h1.max, h1.N, ?_⟩, h.fit, ?_, ?_, h.hof, h.hpage, h.hsp, h.hcls, h.hnode, h.hcpu, h.cnode, h.cL, h.hc4, h.ln⟩
 ·show (spliceB s.l (fr * 64 + x % 64 + o) ys).length = _
  rw [splice_len _ _ _ (by omega)]
  exact h5
 ·rw [splice_len _ _ _ (by rw [h.len]; exact hfit)]
  exact h.len
 ·show ((spliceB s.l (fr * 64 + x % 64 + o) ys).drop (fr * 64 + x % 64)).take n1 = _
  rw [splice_window _ _ _ _ _ hfit hin, h.cont]
theorem One.at (h : One s j c x n1 cls nd fr page y hd bs) (o k : Nat) (hk : 1 ≤ k) (hfit : o + k ≤ n1) : (x + o) / 64 = x / 64 ∧ (x + o) % 64 = x % 64 + o ∧ Lives s x o k n1 fr := by
 have h1 := h.on
 have h2 := h.fit
 have h3 := h1.fit
 have h4 := h1.max
 have e1 : (x + o) / 64 = x / 64 := by omega
 have e2 : (x + o) % 64 = x % 64 + o := by omega
 exact ⟨e1, e2, h.live, by omega, hfit, by rw [e1]; exact h1.f, h1.lt, by omega, by omega, h1.N, h1.len⟩
theorem one_write (h : One s j c x n1 cls nd fr page y hd bs) (i m o cb : Nat) (a : Ad) (B : Option Addr) (ys : List Nat) (hi : i < s.cpus.length) (hfit : o + ys.length ≤ n1) (hcb : ys.length ≤ cb) :
 DoesW i x o B ys.length cb ys m a s (wrS s (fr * 64 + x % 64 + o) ys) := by
 intro κ w hg hM hb
 obtain ⟨p, hp⟩ := hM.cps i hi
 rcases Nat.eq_zero_or_pos ys.length with h0 | h0
 ·obtain rfl := List.length_eq_zero_iff.1 h0
  rw [wrS_nil]
  have h1 := h.on
  have h2 := h.fit
  have h3 := h1.fit
  have h4 := h1.max
  refine (write_zero κ m a s i p x o n1 cb B hp (by simp at hfit; omega) h.live (by simp at hfit; omega) (by omega) h1.N w hM).mono ?_
  rintro e w' ⟨he, κ', q1, q2⟩
  exact ⟨he, κ', q1, q2.mono (fun c hc => by omega)⟩
 ·obtain ⟨e1, e2, hl⟩ := h.at o ys.length h0 hfit
  have hw := write_own κ m a s i p x o n1 fr cb ys B hp h0 hcb hl w hM (fun κ' w' hU => hb κ' w' (hU.mono (fun c hc => by omega)))
  refine hw.mono ?_
  rintro e w' ⟨he, κ', q1, q2⟩
  refine ⟨he, κ', ?_, q2.mono (fun c hc => by omega)⟩
  rw [e2, ← Nat.add_assoc] at q1
  exact q1
theorem one_read (h : One s j c x n1 cls nd fr page y hd bs) (i m o k : Nat) (a : Ad) (hi : i < s.cpus.length) (hk : 1 ≤ k) (hfit : o + k ≤ n1) : DoesR i x o k ((bs.drop o).take k) m a s := by
 intro κ w hg hM
 obtain ⟨p, hp⟩ := hM.cps i hi
 obtain ⟨e1, e2, hl⟩ := h.at o k hk hfit
 have hr := read_own κ m a s i p x o k n1 fr hp hk hl w hM
 rw [e2, ← Nat.add_assoc] at hr
 have e3 : (bs.drop o).take k = (s.l.drop (fr * 64 + x % 64 + o)).take k := by
  rw [← h.cont, List.drop_take, List.take_take, List.drop_drop, Nat.min_eq_left (by omega)]
 rw [e3]
 exact hr
theorem one_free (h : One s j c x n1 cls nd fr page y hd bs) (m : Nat) (a : Ad) : Does 43 #[.pointer (some ⟨m, 0, none⟩), .int .i64 j, .int .i64 x] m a s (freeS_ s j c cls x) (.int .i64 0) := by
 intro κ w hg hM
 have hj := (List.getElem?_eq_some_iff.1 h.hcpu).1
 obtain ⟨p, hp⟩ := hM.cps j hj
 have := h.on.max
 have hf := free_own κ m a s j p c x n1 page y hd (by omega) hp h.hcpu h.live h.hpage h.hof h.hsp (by rw [h.cnode, h.hnode]) (by rw [h.hcls]; exact h.hc4) (by rw [h.hcls]; exact h.cL) w hM
 rw [h.hcls] at hf
 exact hf
theorem bad_free (i m : Nat) (x : Int) (a : Ad) (s : St) (hx : I64 x) (hi : i < s.cpus.length) (hl : s.live x = none) : Does 43 #[.pointer (some ⟨m, 0, none⟩), .int .i64 i, .int .i64 x] m a s s (.int .i64 6) := by
 intro κ w hg hM
 obtain ⟨p, hp⟩ := hM.cps i hi
 refine (free_bad κ m a s i p x hx hp hl w hM).mono ?_
 rintro e w' ⟨he, rfl⟩
 exact ⟨he, κ, hM, Upd.refl _ _ _⟩
end
end Go.Proofs.YtenkdmloolbdaaaGreatDoor.T
end
