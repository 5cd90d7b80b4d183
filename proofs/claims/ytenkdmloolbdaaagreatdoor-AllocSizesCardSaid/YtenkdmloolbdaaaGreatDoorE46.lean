import Derived.Test.YtenkdmloolbdaaaGreatDoorE44
import Derived.Lib.SlBytesConst
set_option linter.unusedVariables false
set_option linter.unusedSimpArgs false
set_option maxHeartbeats 8000000
set_option maxRecDepth 100000
section
namespace Go.Proofs.YtenkdmloolbdaaaGreatDoor.T
open Go.RowKit Go.Maps Go.WideShapes Go.Proofs.YtenkdmloolbdaaaGreatDoorW.PrintWords Go.Proofs.YtenkdmloolbdaaaGreatDoorW.PrintLast Go.Proofs.YtenkdmloolbdaaaGreatDoorW.PrintMore
theorem LawK.row {w0 w : World} {κ μ : Kol} {b m mo nc : Nat} {t : Top} {a : Ad} {s : St} {l : List Ob} (h : LawK w0 κ μ w b m mo nc t a s l) (o : Obj) : LawK w0 (κ.ext w.heap.size 0) (μ.ext w.heap.size 0) (w.alloc o) b m mo nc t a s l := by
 have hb := below_alloc (RowKit.Below.refl w.heap.size w) o
 have h1 := h.stepM (κ' := κ.ext w.heap.size 0) (h.mach.upd (I := fun _ => False) ((Upd.of_below κ hb).paint _ _ (Nat.le_refl _)) (fun _ _ h => h)) (((Upd.of_below κ hb).paint _ _ (Nat.le_refl _)))
 exact h1
theorem LawK.cells {w0 w : World} {κ μ : Kol} {b m mo nc : Nat} {t : Top} {a : Ad} {s : St} {l : List Ob} (h : LawK w0 κ μ w b m mo nc t a s l) : ∃ A c, w.cell? ⟨b, 1, none⟩ = some (.pointer (some ⟨mo, 0, none⟩)) ∧ w.cell? ⟨mo, 1, none⟩ = some (.slice A l.length c) ∧ (∀ (i : Nat) (hi : i < l.length), ∃ g, A = some ⟨g, 0, none⟩ ∧ w.cell? ⟨g, i * 2, none⟩ = some (.int .i64 l[i].addr)) := by
 obtain ⟨A, c, hB, hR⟩ := h.mod.row
 exact ⟨A, c, h.x1, hB.blk.at 1 _ rfl, fun i hi => by obtain ⟨g, e, h1, _⟩ := obs_at hR i hi; exact ⟨g, e, h1⟩⟩
theorem LawK.cell1 {w0 w : World} {κ μ : Kol} {b m mo nc : Nat} {t : Top} {a : Ad} {s : St} {o : Ob} (h : LawK w0 κ μ w b m mo nc t a s [o]) (x : Int) (hx : (o.addr : Int) = x) : ∃ g c, w.cell? ⟨b, 1, none⟩ = some (.pointer (some ⟨mo, 0, none⟩)) ∧ w.cell? ⟨mo, 1, none⟩ = some (.slice (some ⟨g, 0, none⟩) 1 c) ∧ w.cell? ⟨g, 0, none⟩ = some (.int .i64 x) := by
 obtain ⟨A, c, h1, h2, h3⟩ := h.cells
 obtain ⟨g, rfl, h4⟩ := h3 0 (by simp)
 exact ⟨g, c, h1, h2, by rw [← hx]; exact h4⟩
theorem RdS.mark (κ : Kol) (w : World) (bs : List Nat) (hl : bs.length ≤ 1000000) (t : TypeId) (fr : Nat × Nat) : RdS (fun z => 1 ≤ z) (κ.ext w.heap.size 0) (w.alloc (.cells (bv bs) t fr)) (some ⟨w.heap.size, 0, none⟩) bs := fun κ' w' hU => by
 refine RdB.mk rfl hl (fun j y hy => ?_)
 rw [add_lit_, Nat.zero_add]
 have hk : (κ.ext w.heap.size 0) w.heap.size = 0 := Kol.ext_new κ (Nat.le_refl _)
 have hb := hU.chg.block w.heap.size (by rw [World.size_alloc]; exact Nat.lt_succ_self _) (fun h => by have h : 1 ≤ (κ.ext w.heap.size 0) w.heap.size := h; omega)
 rw [World.cell?_of_block (a := ⟨w.heap.size, j, none⟩) hb, World.cell?_alloc_mark]
 unfold bv
 rw [List.getElem?_toArray, List.getElem?_map, hy]
 rfl
theorem gives_w (w w2 : World) (κ2 μ2 : Kol) (b m mo bk : Nat) (T : Top) (a : Ad) (s1 : St) (c1 : Cpu) (fr : Nat) (hd : Held) (y : Int) (HO : One s1 0 c1 64 8 (clOf 8) (ndN 2 0) fr 1 y hd (List.replicate 8 0)) (HC : s1.cpus.length = 2 + 1) (h : LawK w κ2 μ2 w2 b m mo 3 T a s1 [⟨64, bk, List.replicate 8 0⟩]) :
 Calls Tryz.prog 18 #[.pointer (some ⟨b, 0, none⟩), .int .i64 0, .int .i64 64, .int .i64 2, .slice (some ⟨w2.heap.size, 0, none⟩) 2 2] (w2.alloc (.cells #[.int .u8 97, .int .u8 98] 5 (2, 3))) fun e w' => e = .returned (.bool true) ∧ ∃ κ' μ', LawK w κ' μ' w' b m mo 3 T a (wrS s1 (fr * 64 + 64 % 64 + 2) [97, 98]) [⟨64, bk, spliceB (List.replicate 8 0) 2 [97, 98]⟩] := by
 have h1 := h.row (.cells (bv [97, 98]) 5 (2, 3))
 have h2 := RdS.mark κ2 w2 [97, 98] (by simp) 5 (2, 3)
 have h3 := law_write w _ _ b m mo 3 T a s1 (wrS s1 (fr * 64 + 64 % 64 + 2) [97, 98]) [⟨64, bk, List.replicate 8 0⟩] 0 64 0 2 2 2 (some ⟨w2.heap.size, 0, none⟩) [97, 98] (by omega) (by omega) (by omega) (by simp) rfl (by simp) (by simp) (one_write HO 0 m 2 2 a (some ⟨w2.heap.size, 0, none⟩) [97, 98] (by rw [HC]; omega) (by simp) (by simp)) _ h1 h2 rfl
 exact h3
theorem gives_r (w w3 : World) (κ3 μ3 : Kol) (b m mo bk : Nat) (T : Top) (a : Ad) (s1 : St) (c1 : Cpu) (fr : Nat) (hd : Held) (y : Int) (HO : One s1 0 c1 64 8 (clOf 8) (ndN 2 0) fr 1 y hd (List.replicate 8 0)) (HC : s1.cpus.length = 2 + 1) (h : LawK w κ3 μ3 w3 b m mo 3 T a (wrS s1 (fr * 64 + 64 % 64 + 2) [97, 98]) [⟨64, bk, spliceB (List.replicate 8 0) 2 [97, 98]⟩]) :
 Calls Tryz.prog 20 #[.pointer (some ⟨b, 0, none⟩), .int .i64 1, .int .i64 64, .int .i64 0, .int .i64 8] w3 fun e w' => e = .returned (.bool true) ∧ LawK w κ3 μ3 w' b m mo 3 T a (wrS s1 (fr * 64 + 64 % 64 + 2) [97, 98]) [⟨64, bk, spliceB (List.replicate 8 0) 2 [97, 98]⟩] := by
 have hr := one_read (HO.wrote 2 [97, 98] (by simp)) 1 m 0 8 a (by show 1 < s1.cpus.length; rw [HC]; omega) (by omega) (by omega)
 have := law_read w κ3 μ3 b m mo 3 T a (wrS s1 (fr * 64 + 64 % 64 + 2) [97, 98]) [⟨64, bk, spliceB (List.replicate 8 0) 2 [97, 98]⟩] 1 64 0 0 8 _ (by omega) (by omega) (by omega) (by simp) rfl (by simp [spliceB]) (by omega) hr rfl w3 h
 exact this
theorem gives_f (w w4 : World) (κ3 μ3 : Kol) (b m mo bk : Nat) (T : Top) (a : Ad) (s1 : St) (c1 : Cpu) (fr : Nat) (hd : Held) (y : Int) (HO : One s1 0 c1 64 8 (clOf 8) (ndN 2 0) fr 1 y hd (List.replicate 8 0)) (HC : s1.cpus.length = 2 + 1) (h : LawK w κ3 μ3 w4 b m mo 3 T a (wrS s1 (fr * 64 + 64 % 64 + 2) [97, 98]) [⟨64, bk, spliceB (List.replicate 8 0) 2 [97, 98]⟩]) :
 Calls Tryz.prog 19 #[.pointer (some ⟨b, 0, none⟩), .int .i64 0, .int .i64 64] w4 fun e w' => e = .returned (.bool true) ∧ ∃ κ' μ', LawK w κ' μ' w' b m mo 3 T a (freeS_ (wrS s1 (fr * 64 + 64 % 64 + 2) [97, 98]) 0 c1 (clOf 8) 64) [] := by
 have hf := one_free (HO.wrote 2 [97, 98] (by simp)) m a
 have := law_free w κ3 μ3 b m mo 3 T a _ _ [⟨64, bk, spliceB (List.replicate 8 0) 2 [97, 98]⟩] 0 64 0 (by omega) (by omega) (by omega) (by simp) rfl hf w4 h
 exact this
theorem gives_b (w w5 : World) (κ5 μ5 : Kol) (b m mo : Nat) (T : Top) (a : Ad) (s1 : St) (c1 : Cpu) (fr : Nat) (HC : s1.cpus.length = 2 + 1) (h : LawK w κ5 μ5 w5 b m mo 3 T a (freeS_ (wrS s1 (fr * 64 + 64 % 64 + 2) [97, 98]) 0 c1 (clOf 8) 64) []) :
 Calls Tryz.prog 19 #[.pointer (some ⟨b, 0, none⟩), .int .i64 0, .int .i64 64] w5 fun e w' => e = .returned (.bool true) ∧ ∃ κ' μ', LawK w κ' μ' w' b m mo 3 T a (freeS_ (wrS s1 (fr * 64 + 64 % 64 + 2) [97, 98]) 0 c1 (clOf 8) 64) [] := by
 have hb := bad_free 0 m 64 a (freeS_ (wrS s1 (fr * 64 + 64 % 64 + 2) [97, 98]) 0 c1 (clOf 8) 64) (i64o 64 (by omega) (by omega)) (by show 0 < (s1.cpus.set 0 _).length; rw [List.length_set, HC]; omega) (by show outF s1.live 64 64 = none; unfold outF; rw [if_pos rfl])
 exact law_free_bad w κ5 μ5 b m mo 3 T a _ _ [] 0 64 (by omega) (by omega) (by omega) (fun o ho => by cases ho) hb w5 h
theorem gives_own [SortI] (w : World) (hg : GlobR w) : Calls Tryz.prog 16 #[] w fun e w' => e = .returned (.bool true) ∧ RowKit.Below w.heap.size w w' := by
 have HBG := ak (law_begin 1 1 0 2 16 0 (by decide +kernel) (by omega) (by omega) (by simp) (fun W => rfl) (by decide +kernel) (by omega) w hg)
 have HN := ak (fun m a => does_new 2 16 0 0 8 m a (by omega) (by omega) (by simp) (by omega) (by omega) (by omega) (by omega))
 clear hg
 go_enter Tryz.func16, Tryz.ntmps16
 go_upto_region 2 with (go_at_call 15; (with_reducible refine HBG.1.mono ?_); rintro e_ w1 ⟨κ1, μ1, b, m, mo, A1, ca1, B1, cb1, a, rfl, h1⟩; have HL1 := ak h1; clear h1)
 obtain ⟨s1, c1, fr, hd, y, hD1, hO1, hcl1, _⟩ := HN.1 m a
 obtain ⟨T, hT⟩ : ∃ T, begT 2 16 A1 ca1 B1 cb1 = T := ⟨_, rfl⟩
 rw [hT] at HL1
 clear hT HBG HN
 have HO := ak (And.intro hO1 hcl1)
 have HM := ak (show Calls Tryz.prog 17 #[.pointer (some ⟨b, 0, none⟩), .int .i64 0, .int .i64 8] w1 fun e w' => e = .returned (.bool true) ∧ ∃ κ' μ' bk, LawK w κ' μ' w' b m mo 3 T a s1 [⟨64, bk, List.replicate 8 0⟩] from
  law_malloc w κ1 μ1 b m mo 3 T a (begS 2 16 0) s1 [] 0 64 8 (by omega) (by omega) (by omega) (by omega) (by omega) (by simp) hD1 ⟨by omega, by omega, fun o ho => by cases ho⟩ w1 HL1.1)
 clear hD1 hO1 hcl1
 have kc := fun (w : World) (C : Array Value) (n c : Nat) => Lib.run_convert_bytes_const (P := Tryz.prog) w 23 5 C n c Tryz.underlying23 Tryz.underlying5
 go_wp2_with (first
  | (go_at_call 17; (with_reducible refine HM.1.mono ?_); rintro e_ w2 ⟨rfl, κ2, μ2, bk, h2⟩; have HL2 := ak h2; obtain ⟨g, cp, x1, y1, z1⟩ := h2.cell1 64 rfl; clear h2)
  | (go_at_call 18; (with_reducible refine (gives_w w w2 κ2 μ2 b m mo bk T a s1 c1 fr hd y HO.1.1 HO.1.2 HL2.1).mono ?_); rintro e_ w3 ⟨rfl, κ3, μ3, h3⟩; have HL3 := ak h3; clear x1 y1 z1; obtain ⟨g3, cp3, x1, y1, z1⟩ := h3.cell1 64 rfl; clear h3)
  | (go_at_call 20; (with_reducible refine (gives_r w w3 κ3 μ3 b m mo bk T a s1 c1 fr hd y HO.1.1 HO.1.2 HL3.1).mono ?_); rintro e_ w4 ⟨rfl, h4⟩; have HL4 := ak h4; clear x1 y1 z1; obtain ⟨g4, cp4, x1, y1, z1⟩ := h4.cell1 64 rfl; clear h4)
  | (go_at_call 19; (with_reducible refine (gives_f w w4 κ3 μ3 b m mo bk T a s1 c1 fr hd y HO.1.1 HO.1.2 HL4.1).mono ?_); rintro e_ w5 ⟨rfl, κ5, μ5, h5⟩; have HL5 := ak h5; clear x1 y1 z1 h5)
  | (go_at_call 19; (with_reducible refine (gives_b w w5 κ5 μ5 b m mo T a s1 c1 fr HO.1.2 HL5.1).mono ?_); rintro e_ w6 ⟨rfl, κ6, μ6, h6⟩; have HL6 := ak h6; clear h6))
 go_ret
 exact ⟨rfl, HL6.1.bel⟩
end Go.Proofs.YtenkdmloolbdaaaGreatDoor.T
end
