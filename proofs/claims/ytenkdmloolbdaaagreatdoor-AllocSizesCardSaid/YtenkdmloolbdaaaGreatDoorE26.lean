import Derived.Test.YtenkdmloolbdaaaGreatDoorE16
import Derived.Test.YtenkdmloolbdaaaGreatDoorE04
set_option linter.unusedVariables false
set_option linter.unusedSimpArgs false
set_option maxHeartbeats 8000000
set_option maxRecDepth 100000
section
namespace Go.Proofs.YtenkdmloolbdaaaGreatDoor.T
open Go.RowKit Go.Maps Go.WideShapes Go.Proofs.YtenkdmloolbdaaaGreatDoorW.PrintWords Go.Proofs.YtenkdmloolbdaaaGreatDoorW.PrintLast Go.Proofs.YtenkdmloolbdaaaGreatDoorW.PrintMore
theorem clone_R (A : Addr) (n c : Nat) (xs : List Int) (hn : n ≤ 1000000) (W : World) (h : (Kd.int .i64).C W (some A) n xs) :
 Calls Tryz.prog 138 #[.slice (some A) n c] W fun e w' => ∃ A' c', e = .returned (.slice A' n c') ∧ Kd.R (Kd.int .i64) 3 w' W.heap.size (fun _ => True) (.slice A' n c') xs ∧ RowKit.Below W.heap.size W w' := by
 have hl : xs.length = n := h.1
 have HCM := ak h
 have HL := ak hl
 have info4 : (Tryz.prog.info? 3).map (fun i => (i.zero, i.size, i.bytes)) = some (some (.int .i64 0), 1, 8) := by kernel_rfl
 have hnil := Lib.run_eql_slice_nil (P := Tryz.prog) W 34 3 (some A) n c 0 0 Tryz.underlying34
 clear h hl
 go_enter Tryz.func138, Tryz.ntmps138
 go_wp2_with ((with_reducible refine gate_builtin (b := .append) (xs := #[.tmp 5, .tmp 6]) rfl ?_); at_builtin; refine Kd.R_append_rows (Kd.int .i64) (w0 := W) W.heap.size rfl (.tmp 5) (.tmp 6) 34 3 (.int .i64 0) 8 rfl Tryz.underlying34 info4 rfl (by decide) (by omega) _ ([] : List Int) xs (some A) n c (fun _ => True) (fun _ => False) rfl rfl ?aO ?aR (fun _ _ h => h) (fun _ h => h.elim) ?aF ?aB ?aS ?aL ?_; (case aO => exact R_empty_int W _ trivial _ (Nat.le_refl _)); (case aR => exact Kd.C_below HCM.1 (below_alloc (RowKit.Below.refl _ _) _)); (case aB => exact below_alloc (RowKit.Below.refl _ _) _); (case aF => exact (fun _ _ => trivial)); (case aS => simp); (case aL => simp; omega); intro v7 w7 ho hb hg hat; have HO7 := ak ho; have HB7 := ak hb; clear ho hb hg hat)
 go_ret
 obtain ⟨A', c', rfl, hc, hr⟩ := R_open_int HO7.1 HL.1
 exact ⟨A', c', rfl, HO7.1, HB7.1⟩
theorem rows_at {w : World} {B : Option Addr} {n : Nat} {ds : List (List Int)} (h : (Kd.slice 3 (Kd.int .i64)).C w B n ds) (i : Nat) (hi : i < n) (r : List Int) (hr : ds[i]? = some r) : ∃ ad A c, B = some ad ∧ w.cell? (ad.add i) = some (.slice A r.length c) ∧ r.length ≤ c ∧ (Kd.int .i64).C w A r.length r := by
 obtain ⟨ad, c, e, hl, hK, hc⟩ := Kd.C_get h [] (i : Int) (by omega) (by omega)
 rw [Int.toNat_natCast, List.getD_eq_getElem?_getD, hr] at hK
 obtain ⟨A, c', rfl, h1, h2⟩ := hK
 have := hc 0 _ rfl
 rw [Int.toNat_natCast] at this
 simp only [show (Kd.slice 3 (Kd.int .i64)).sz = 1 from rfl, Nat.mul_one, Nat.add_zero] at this
 exact ⟨ad, A, c', e, this, h1, h2⟩
theorem C_some {w : World} {A : Option Addr} {n : Nat} {xs : List Int} (h : (Kd.int .i64).C w A n xs) (hn : 1 ≤ n) : ∃ a, A = some a := by
 obtain ⟨a, e, _⟩ := h.2.2 (by omega)
 exact ⟨a, e⟩
theorem Blk.grown {w w' : World} {b : Nat} {cs : Array Value} {t : TypeId} {row : Option Nat} (h : Blk w b cs t) (hg : w.grownBy w' row) (hne : some b ≠ row) : Blk w' b cs t := (hg.block b h.lt hne).trans h
def RelCp (w : World) (n f : Int) (v1 : Value) (cs : List Int) (ds : List (List Int)) (v15 : Value) (wr : World) : Prop :=
 ∃ (i : Nat) (v2 : Value), v15 = .int .i64 i ∧ i ≤ ds.length ∧ Blk wr w.heap.size #[.int .i64 n, .int .i64 f, v1, v2] 37 ∧ Blk wr (w.heap.size + 1) #[.int .i64 0, .int .i64 0, .slice none 0 0, .slice none 0 0] 37 ∧ Kd.R (Kd.int .i64) 3 wr w.heap.size (fun _ => True) v1 cs ∧ Kd.R (Kd.slice 3 (Kd.int .i64)) 34 wr w.heap.size (fun _ => True) v2 (ds.take i) ∧ RowKit.Below w.heap.size w wr
theorem copied_own (n f : Int) (A : Option Addr) (ca : Nat) (cs : List Int) (B : Option Addr) (cb : Nat) (ds : List (List Int)) (w : World) (hA : (Kd.int .i64).C w A cs.length cs) (hB : (Kd.slice 3 (Kd.int .i64)).C w B ds.length ds) (h1 : 1 ≤ cs.length) (h2 : cs.length ≤ 1000) (h3 : ds.length ≤ 1000) (h4 : ∀ r ∈ ds, 1 ≤ r.length ∧ r.length ≤ 1000) :
 Calls Tryz.prog 83 #[.agg #[.int .i64 n, .int .i64 f, .slice A cs.length ca, .slice B ds.length cb]] w fun e w' => ∃ v1 v2, e = .returned (.agg #[.int .i64 n, .int .i64 f, v1, v2]) ∧ Kd.R (Kd.int .i64) 3 w' w.heap.size (fun _ => True) v1 cs ∧ Kd.R (Kd.slice 3 (Kd.int .i64)) 34 w' w.heap.size (fun _ => True) v2 ds ∧ RowKit.Below w.heap.size w w' := by
 obtain ⟨a, rfl⟩ := C_some hA h1
 have HA := ak hA
 have HB := ak hB
 have HD := ak h4
 have info3 : (Tryz.prog.info? 34).map (fun i => (i.zero, i.size, i.bytes)) = some (some (.slice none 0 0), 1, 24) := by kernel_rfl
 obtain ⟨q, hq⟩ : ∃ q, cs.length = q := ⟨_, rfl⟩
 obtain ⟨dn, hdn⟩ : ∃ dn, ds.length = dn := ⟨_, rfl⟩
 have HQ := ak (And.intro hq hdn)
 rw [hq] at HA h1 h2 ⊢
 rw [hdn] at HB h3 ⊢
 clear hA hB h4 hq hdn
 go_enter Tryz.func83, Tryz.ntmps83
 go_upto_region 2 with (go_at_call 138; (with_reducible refine (clone_R a q ca cs (by omega) _ (Kd.C_below HA.1 (below_alloc (below_alloc (RowKit.Below.refl _ _) _) _))).mono ?_); rintro e_ w1 ⟨A', c', rfl, q1, q2⟩; have HR := ak q1; have HX := ak (((Blk.new w #[.int .i64 n, .int .i64 f, .slice (some a) q ca, .slice B dn cb] 37).alloc _).below q2); have HY := ak ((Blk.new1 w _ #[.int .i64 0, .int .i64 0, .slice none 0 0, .slice none 0 0] 37).below q2); have HBL := ak (below_then (below_alloc (below_alloc (RowKit.Below.refl w.heap.size w) _) _) (by simp only [World.size_alloc]; omega) q2); clear q1 q2; have x2 := HX.1.at 2 (.slice (some a) q ca) rfl; have f2 := HX.1.fz 2)
 clear x2 f2
 have HX2 := ak (HX.1.set 2 (.slice A' q c'))
 have HY2 := ak (HY.1.other ⟨w.heap.size, 2, none⟩ (by show w.heap.size + 1 ≠ w.heap.size; omega) (.slice A' q c'))
 have HR2 := ak (Kd.R_set HR.1 HX.1 (fun e he => by simp [Kd.int, Kd.scalar] at he; subst he; decide) 2 (.slice A' q c'))
 have HBL2 := ak (RowKit.Below.setCell (p := ⟨w.heap.size, 2, none⟩) HBL.1 (Nat.le_refl _) (.slice A' q c'))
 clear HX HY HR HBL
 generalize w1.setCell ⟨w.heap.size, 2, none⟩ (.slice A' q c') = w2 at *
 have x3 := HX2.1.at 3 (.slice B dn cb) rfl
 have f3 := HX2.1.fz 3
 go_wp2_with fail
 have HX3 := ak (HX2.1.set 3 (.slice none 0 0))
 have HY3 := ak (HY2.1.other ⟨w.heap.size, 3, none⟩ (by show w.heap.size + 1 ≠ w.heap.size; omega) (.slice none 0 0))
 have HR3 := ak (Kd.R_set HR2.1 HX2.1 (fun e he => by simp [Kd.int, Kd.scalar] at he; subst he; decide) 3 (.slice none 0 0))
 have HBL3 := ak (RowKit.Below.setCell (p := ⟨w.heap.size, 3, none⟩) HBL2.1 (Nat.le_refl _) (.slice none 0 0))
 clear HX2 HY2 HR2 HBL2 x3 f3
 generalize w2.setCell ⟨w.heap.size, 3, none⟩ (.slice none 0 0) = w3 at *
 have H0 := ak (show RelCp w n f (.slice A' q c') cs ds (.int .i64 0) w3 from ⟨0, .slice none 0 0, rfl, Nat.zero_le _, HX3.1, HY3.1, Kd.R_lower HR3.1 (by simp only [World.size_alloc]; omega), Kd.R_nil _ _ _ _ _, HBL3.1⟩)
 go_loopw [5, 15] (fun _ v15 wr => RelCp w n f (.slice A' q c') cs ds v15 wr) (fun _ v15 _ => dn - (RowKit.intOf v15).toNat)
 case atStart => exact H0.1
 case round =>
  clear H0
  obtain ⟨i, v2, rfl, hi, hx, hy, hr1, hr2, hb⟩ := hrel
  rw [HQ.1.2] at hi
  have HX := ak hx
  have HY := ak hy
  have HR1 := ak hr1
  have HR2 := ak hr2
  have HBL := ak hb
  by_cases hlt : i < dn
  ·have iI : (i : Int) < (dn : Int) := by omega
   have i0 : (0 : Int) ≤ (i : Int) := by omega
   obtain ⟨r, hr⟩ : ∃ r, ds[i]? = some r := ⟨_, List.getElem?_eq_getElem (by rw [HQ.1.2]; exact hlt)⟩
   obtain ⟨ad, A5, c5, rfl, s0, hle, hC⟩ := rows_at (Kd.C_below HB.1 hb) i hlt r hr
   have hrl := HD.1 r (List.mem_of_getElem? hr)
   obtain ⟨a5, rfl⟩ := C_some hC hrl.1
   have HC := ak hC
   have HRR := ak hr
   obtain ⟨rl, hrl2⟩ : ∃ rl, r.length = rl := ⟨_, rfl⟩
   rw [hrl2] at s0 hrl HC
   have HRL := ak (And.intro hrl2 hrl)
   clear hx hy hr1 hr2 hb hr hC hle hrl2 hrl
   go_upto_region 7 with fail
   have x3 := HX.1.at 3 v2 rfl
   refine st_ 8 (fun w' => w'.cell? ⟨w.heap.size, 3, none⟩ = some v2) [5, 7] (x3) (fun hHeld => ?_)
   have hd_ := below_drew (RowKit.Below.refl wr.heap.size wr)
   have n0_ := ak (HX.1.below hd_)
   have n1_ := ak (HY.1.below hd_)
   have n2_ := ak (Kd.R_below HR1.1 hd_)
   have n3_ := ak (Kd.R_below HR2.1 hd_)
   have n4_ := ak (below_then HBL.1 HBL.1.size hd_)
   have n5_ := ak (Kd.C_below HC.1 hd_)
   clear HX HY HR1 HR2 HBL HC x3 hd_
   have HX := n0_
   have HY := n1_
   have HR1 := n2_
   have HR2 := n3_
   have HBL := n4_
   have HC := n5_
   clear n0_ n1_ n2_ n3_ n4_ n5_
   have x3 := HX.1.at 3 v2 rfl
   generalize wr.drew = wd at *
   have HSZ := ak HBL.1.size
   have HLT := ak (fun k (hk : v2.ownBlock = some k) => Kd.R_lt HR2.1 k hk)
   refine pu_ 0 19 1 ?_
   refine pu_ 2 21 5 ?_
   refine ta_ 1 20 7 hHeld ?_
   refine one_ (i := 3) (N := some 22) (bz 8 15) rfl rfl (by kernel_rfl) (by decide) (fun K hK => ?_)
   refine goes_ Tryz.func138 (by kernel_rfl) rfl #[.slice (some a5) rl c5] (by rfl) rfl rfl (by simp only [List.map_toArray, List.map_cons, List.map_nil]; rfl) ?_
   with_reducible refine (clone_R a5 rl c5 r (by have := HRL.1.2.2; omega) _ HC.1).mono ?_
   rintro e_ wc ⟨A8, c8, rfl, q1_, hb⟩
   refine ⟨_, rfl, ?_⟩
   have HN := ak q1_
   clear q1_
   have n0_ := ak (HX.1.below hb)
   have n1_ := ak (HY.1.below hb)
   have n2_ := ak (Kd.R_below HR1.1 hb)
   have n3_ := ak (Kd.R_below HR2.1 hb)
   have n4_ := ak (below_then HBL.1 HBL.1.size hb)
   have n5_ := ak (Kd.C_below HC.1 hb)
   clear HX HY HR1 HR2 HBL HC x3 hb
   have HX := n0_
   have HY := n1_
   have HR1 := n2_
   have HR2 := n3_
   have HBL := n4_
   have HC := n5_
   clear n0_ n1_ n2_ n3_ n4_ n5_
   have x3 := HX.1.at 3 v2 rfl
   refine hK.out _ _ (x3) (fun hHeld => ?_)
   clear hK K
   refine no_ 22 ?_
   refine one_ (i := 4) (N := some 23) (bz 8 31) rfl rfl (by kernel_rfl) (by decide) (fun K hK => ?_)
   refine va_ ?_
   have hUb := below_alloc (RowKit.Below.refl wc.heap.size wc) (.cells #[.slice A8 rl c8] 34)
   refine hK.out _ _ ((HX.1.alloc _).at 3 v2 rfl) (fun hHeld => ?_)
   clear hK K
   refine no_ 23 ?_
   refine last_ (i := 5) (N := some 24) (bz 8 63) rfl rfl (by kernel_rfl) (by decide) (fun K hK => ?_)
   refine Kd.R_append_step (Kd.slice 3 (Kd.int .i64)) (w0 := w) w.heap.size rfl (.tmp 20) (.tmp 23) 35 34 (.slice none 0 0) 24 rfl Tryz.underlying35 info3 rfl (by decide) (by decide) v2 (ds.take i) r [.slice A8 rl c8] (fun _ => True) (fun k => wd.heap.size ≤ k) rfl rfl ?aP ?aK (fun _ _ => trivial) HR2.1 HBL.1 HBL.1.size ?aL ?_
   (case aP => exact ⟨.slice A8 rl c8, rfl, Kd.R_lower (Kd.R_mono (Kd.R_bound HN.1) (fun k hk => hk.2.1)) HSZ.1⟩)
   (case aK => exact fun k hk => ⟨trivial, fun e => by have := HLT.1 k e.symm; omega⟩)
   (case aL => (rw [List.length_take]; have := HQ.1.2; omega))
   intro v7 w7 ho7 hb7 hg7 hat7
   obtain ⟨A7, c7, rfl⟩ := Kd.R_slice ho7
   have H7 := ak (And.intro ho7 hb7)
   have HX7 := ak (HX.1.grown hg7 (Kd.R_ne HR2.1 HX.1 (by decide)))
   have HY7 := ak (HY.1.grown hg7 (Kd.R_ne HR2.1 HY.1 (by decide)))
   have HR17 := ak (Kd.R_mono (Kd.R_grown (Kd.R_bound HR1.1) hg7 (fun k hk => by obtain ⟨_, _, _, q9, hq9, cells9, hc9⟩ := hk; refine Kd.R_ne HR2.1 hc9 (fun e9 => ?_); subst e9; simp [Kd.int, Kd.scalar] at hq9)) (fun _ _ => trivial) : Kd.R (Kd.int .i64) 3 w7 w.heap.size (fun _ => True) (.slice A' q c') cs)
   have x7 := HX7.1.at 3 v2 rfl
   have f7 := HX7.1.fz 3
   clear ho7 hb7 hg7 hat7
   refine hK.out _ _ ?_
   clear hK K
   refine no_ 24 ?_
   refine pu_ 6 25 127 ?_
   refine last_ (i := 7) (N := none) (bz 8 255) rfl rfl (by kernel_rfl) (by decide) (fun K hK => ?_)
   refine skip_ (w1 := ?_) (by rfl) rfl ?_ ?_
   rotate_left
   ·go_simp
    rfl
   refine hK.out _ _ ?_
   clear hK K
   refine done_ (by kernel_rfl) ?_
   go_wp2_with fail
   have hl7 : (ds.take i ++ [r]).length = (ds.take i).length + 1 := by simp
   have hr7 := H7.1.1
   have hb7 := RowKit.Below.setCell (p := ⟨w.heap.size, 3, none⟩) H7.1.2 (Nat.le_refl _) (.slice A7 (ds.take i ++ [r]).length c7)
   have hx7 := (HX7.1.set 3 (.slice A7 (ds.take i ++ [r]).length c7))
   have hy7 := (HY7.1.other ⟨w.heap.size, 3, none⟩ (by show w.heap.size + 1 ≠ w.heap.size; omega) (.slice A7 (ds.take i ++ [r]).length c7))
   have ha7 := Kd.R_set HR17.1 HX7.1 (fun e he => by simp [Kd.int, Kd.scalar] at he; subst he; decide) 3 (.slice A7 (ds.take i ++ [r]).length c7)
   have hd7 := Kd.R_set hr7 HX7.1 (fun e he => by simp [Kd.slice, Kd.int, Kd.scalar] at he; rcases he with rfl | rfl <;> decide) 3 (.slice A7 (ds.take i ++ [r]).length c7)
   have he7 : ds.take (i + 1) = ds.take i ++ [r] := by rw [List.take_add_one, HRR.1]; rfl
   rw [show (ds.take i ++ [r]).length = min i ds.length + 1 by simp] at hb7 hx7 hy7 ha7 hd7
   exact ⟨⟨i + 1, .slice A7 (min i ds.length + 1) c7, by simp, by rw [HQ.1.2]; exact hlt, hx7, hy7, ha7, by rw [he7]; exact hd7, hb7⟩, by simp only [RowKit.intOf]; omega⟩
  ·obtain rfl : i = dn := by omega
   rw [List.take_of_length_le (by rw [HQ.1.2]; exact Nat.le_refl _)] at hr2
   obtain ⟨A2, c2, rfl, _, _⟩ := Kd.R_reads hr2
   have HR2' := ak hr2
   have x0 := hx.at 0 (.int .i64 n) rfl
   have x1 := hx.at 1 (.int .i64 f) rfl
   have x2 := hx.at 2 (.slice A' q c') rfl
   have x3 := hx.at 3 (.slice A2 ds.length c2) rfl
   have y0 := hy.at 0 (.int .i64 0) rfl
   have y1 := hy.at 1 (.int .i64 0) rfl
   have y2 := hy.at 2 (.slice none 0 0) rfl
   have y3 := hy.at 3 (.slice none 0 0) rfl
   have g0 := hy.fz 0
   have g1 := hy.fz 1
   have g2 := hy.fz 2
   have g3 := hy.fz 3
   clear hx hy hr1 hr2 hb HR2
   go_wp2_with fail
   refine bodyPost_ret (results_cell_row rfl _ _ (w.heap.size + 1) 37 #[.int .i64 n, .int .i64 f, .slice A' q c', .slice A2 ds.length c2] (0, 0) _ rfl ((((HY.1.set 0 _).set 1 _).set 2 _).set 3 _) Tryz.underlying37 rfl (by kernel_rfl)) rfl ?_
   have hset : ∀ {α : Type} {d : Kd α} {e : Nat} {v : Value} {xs : List α}, Kd.R d e wr w.heap.size (fun _ => True) v xs → (∀ q, q ∈ e :: d.E → q ≠ 37) → Kd.R d e ((((wr.setCell ⟨w.heap.size + 1, 0, none⟩ (.int .i64 n)).setCell ⟨w.heap.size + 1, 1, none⟩ (.int .i64 f)).setCell ⟨w.heap.size + 1, 2, none⟩ (.slice A' q c')).setCell ⟨w.heap.size + 1, 3, none⟩ (.slice A2 ds.length c2)) w.heap.size (fun _ => True) v xs := fun hR ht =>
    Kd.R_set (Kd.R_set (Kd.R_set (Kd.R_set hR HY.1 ht 0 _) (HY.1.set 0 _) ht 1 _) ((HY.1.set 0 _).set 1 _) ht 2 _) (((HY.1.set 0 _).set 1 _).set 2 _) ht 3 _
   refine ⟨_, _, rfl, hset HR1.1 (fun e he => by simp [Kd.int, Kd.scalar] at he; subst he; decide), hset HR2'.1 (fun e he => by simp [Kd.slice, Kd.int, Kd.scalar] at he; rcases he with rfl | rfl <;> decide), ?_⟩
   exact RowKit.Below.setCell (p := ⟨w.heap.size + 1, 3, none⟩) (RowKit.Below.setCell (p := ⟨w.heap.size + 1, 2, none⟩) (RowKit.Below.setCell (p := ⟨w.heap.size + 1, 1, none⟩) (RowKit.Below.setCell (p := ⟨w.heap.size + 1, 0, none⟩) HBL.1 (by show w.heap.size ≤ w.heap.size + 1; omega) _) (by show w.heap.size ≤ w.heap.size + 1; omega) _) (by show w.heap.size ≤ w.heap.size + 1; omega) _) (by show w.heap.size ≤ w.heap.size + 1; omega) _
end Go.Proofs.YtenkdmloolbdaaaGreatDoor.T
end
