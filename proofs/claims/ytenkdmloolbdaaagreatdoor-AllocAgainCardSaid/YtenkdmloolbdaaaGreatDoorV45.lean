/- gives: is a write read? It is. The law AllocAgain, walked. Arguments opened; the class table, as the condition lays it. -/
import Derived.Test.YtenkdmloolbdaaaGreatDoorV44
import Derived.Lib.SlBytesConst
import Derived.OpenShut
import Derived.Deep.Slices
import Derived.Deep.Strs
import Derived.ChangeArms
import Derived.ChangeSlices
import Derived.ChangeSame
import Derived.WideKeyPair
section
namespace Go.Proofs.YtenkdmloolbdaaaGreatDoor.T
open Go.RowKit Go.Maps Go.WideShapes Go.Proofs.YtenkdmloolbdaaaGreatDoorW.PrintWords Go.Proofs.YtenkdmloolbdaaaGreatDoorW.PrintLast Go.Proofs.YtenkdmloolbdaaaGreatDoorW.PrintMore
set_option linter.unusedVariables false
set_option linter.unusedSimpArgs false
/-- A row of a law's own, beside the machine and the model. -/
theorem LawK.row {w0 w : World} {κ μ : Kol} {b m mo nc : Nat} {t : Top} {a : Ad} {s : St} {l : List Ob} (h : LawK w0 κ μ w b m mo nc t a s l) (o : Obj) : LawK w0 (κ.ext w.heap.size 0) (μ.ext w.heap.size 0) (w.alloc o) b m mo nc t a s l := by
  have hb := below_alloc (RowKit.Below.refl w.heap.size w) o
  have h1 := h.stepM (κ' := κ.ext w.heap.size 0) (h.mach.upd (I := fun _ => False) ((Upd.of_below κ hb).paint _ _ (Nat.le_refl _)) (fun _ _ h => h)) (((Upd.of_below κ hb).paint _ _ (Nat.le_refl _)))
  exact h1
theorem LawK.cells {w0 w : World} {κ μ : Kol} {b m mo nc : Nat} {t : Top} {a : Ad} {s : St} {l : List Ob} (h : LawK w0 κ μ w b m mo nc t a s l) : ∃ A c, w.cell? ⟨b, 1, none⟩ = some (.pointer (some ⟨mo, 0, none⟩)) ∧ w.cell? ⟨mo, 1, none⟩ = some (.slice A l.length c) ∧ (∀ (i : Nat) (hi : i < l.length), ∃ g, A = some ⟨g, 0, none⟩ ∧ w.cell? ⟨g, i * 2, none⟩ = some (.int .i64 l[i].addr)) := by
  obtain ⟨A, c, hB, hR⟩ := h.mod.row
  exact ⟨A, c, h.x1, hB.blk.at 1 _ rfl, fun i hi => by obtain ⟨g, e, h1, _⟩ := obs_at hR i hi; exact ⟨g, e, h1⟩⟩
theorem LawK.cell1 {w0 w : World} {κ μ : Kol} {b m mo nc : Nat} {t : Top} {a : Ad} {s : St} {o : Ob} (h : LawK w0 κ μ w b m mo nc t a s [o]) (x : Int) (hx : (o.addr : Int) = x) : ∃ g c, w.cell? ⟨b, 1, none⟩ = some (.pointer (some ⟨mo, 0, none⟩)) ∧ w.cell? ⟨mo, 1, none⟩ = some (.slice (some ⟨g, 0, none⟩) 1 c) ∧ w.cell? ⟨g, 0, none⟩ = some (.int .i64 x) := by
  obtain ⟨A, c, h1, h2, h3⟩ := h.cells
  obtain ⟨g, rfl, h4⟩ := h3 0 (by simp)
  exact ⟨g, c, h1, h2, by rw [← hx]; exact h4⟩
/-- Bytes of a text's own row, whatever its mark. -/
theorem RdS.mark (κ : Kol) (w : World) (bs : List Nat) (hl : bs.length ≤ 1000000) (t : TypeId) (fr : Nat × Nat) : RdS (fun z => 1 ≤ z) (κ.ext w.heap.size 0) (w.alloc (.cells (bv bs) t fr)) (some ⟨w.heap.size, 0, none⟩) bs := fun κ' w' hU => by
  refine RdB.mk rfl hl (fun j y hy => ?_)
  rw [add_lit_, Nat.zero_add]
  have hk : (κ.ext w.heap.size 0) w.heap.size = 0 := Kol.ext_new κ (Nat.le_refl _)
  have hb := hU.chg.block w.heap.size (by rw [World.size_alloc]; exact Nat.lt_succ_self _) (fun h => by have h : 1 ≤ (κ.ext w.heap.size 0) w.heap.size := h; omega)
  rw [World.cell?_of_block (a := ⟨w.heap.size, j, none⟩) hb, World.cell?_alloc_mark]
  unfold bv
  rw [List.getElem?_toArray, List.getElem?_map, hy]
  rfl
theorem gives_w (w w2 : World) (κ2 μ2 : Kol) (b m mo bk : Nat) (T : Top) (a : Ad) (s1 : St) (c1 : Cpu) (fr : Nat) (hd : Held) (y : Int) (HO : One s1 0 c1 64 8 (clOf 8) (ndN 2 0) fr 1 y hd (List.replicate 8 0)) (HC : s1.cpus.length = 2 + 1) (h : LawK w κ2 μ2 w2 b m mo 3 T a s1 [⟨64, bk, List.replicate 8 0⟩]) :
    Calls Tryz.prog 18 #[.pointer (some ⟨b, 0, none⟩), .int .i64 0, .int .i64 64, .int .i64 2, .slice (some ⟨w2.heap.size, 0, none⟩) 2 2] (w2.alloc (.cells #[.int .u8 97, .int .u8 98] 5 (2, 3))) fun e w' => e = .returned (.bool true) ∧ ∃ κ' μ', LawK w κ' μ' w' b m mo 3 T a (wrS s1 (fr * 64 + 64 % 64 + 2) [97, 98]) [⟨64, bk, spliceB (List.replicate 8 0) 2 [97, 98]⟩] := by
  have h1 := h.row (.cells (bv [97, 98]) 5 (2, 3))
  have h2 := RdS.mark κ2 w2 [97, 98] (by simp) 5 (2, 3)
  have h3 := law_write w _ _ b m mo 3 T a s1 (wrS s1 (fr * 64 + 64 % 64 + 2) [97, 98]) [⟨64, bk, List.replicate 8 0⟩] 0 64 0 2 2 2 (some ⟨w2.heap.size, 0, none⟩) [97, 98] (by omega) (by omega) (by omega) (by simp) rfl (by simp) (by simp) (one_write HO 0 m 2 2 a (some ⟨w2.heap.size, 0, none⟩) [97, 98] (by rw [HC]; omega) (by simp) (by simp)) _ h1 h2 rfl
  exact h3
theorem gives_r (w w3 : World) (κ3 μ3 : Kol) (b m mo bk : Nat) (T : Top) (a : Ad) (s1 : St) (c1 : Cpu) (fr : Nat) (hd : Held) (y : Int) (HO : One s1 0 c1 64 8 (clOf 8) (ndN 2 0) fr 1 y hd (List.replicate 8 0)) (HC : s1.cpus.length = 2 + 1) (h : LawK w κ3 μ3 w3 b m mo 3 T a (wrS s1 (fr * 64 + 64 % 64 + 2) [97, 98]) [⟨64, bk, spliceB (List.replicate 8 0) 2 [97, 98]⟩]) :
    Calls Tryz.prog 20 #[.pointer (some ⟨b, 0, none⟩), .int .i64 1, .int .i64 64, .int .i64 0, .int .i64 8] w3 fun e w' => e = .returned (.bool true) ∧ LawK w κ3 μ3 w' b m mo 3 T a (wrS s1 (fr * 64 + 64 % 64 + 2) [97, 98]) [⟨64, bk, spliceB (List.replicate 8 0) 2 [97, 98]⟩] := by
  have hr := one_read (HO.wrote 2 [97, 98] (by simp)) 1 m 0 8 a (by show 1 < s1.cpus.length; rw [HC]; omega) (by omega) (by omega)
  have := law_read w κ3 μ3 b m mo 3 T a (wrS s1 (fr * 64 + 64 % 64 + 2) [97, 98]) [⟨64, bk, spliceB (List.replicate 8 0) 2 [97, 98]⟩] 1 64 0 0 8 _ (by omega) (by omega) (by omega) (by simp) rfl (by simp [spliceB]) (by omega) hr rfl w3 h
  exact this
theorem gives_f (w w4 : World) (κ3 μ3 : Kol) (b m mo bk : Nat) (T : Top) (a : Ad) (s1 : St) (c1 : Cpu) (fr : Nat) (hd : Held) (y : Int) (HO : One s1 0 c1 64 8 (clOf 8) (ndN 2 0) fr 1 y hd (List.replicate 8 0)) (HC : s1.cpus.length = 2 + 1) (h : LawK w κ3 μ3 w4 b m mo 3 T a (wrS s1 (fr * 64 + 64 % 64 + 2) [97, 98]) [⟨64, bk, spliceB (List.replicate 8 0) 2 [97, 98]⟩]) :
    Calls Tryz.prog 19 #[.pointer (some ⟨b, 0, none⟩), .int .i64 0, .int .i64 64] w4 fun e w' => e = .returned (.bool true) ∧ ∃ κ' μ', LawK w κ' μ' w' b m mo 3 T a (freeS_ (wrS s1 (fr * 64 + 64 % 64 + 2) [97, 98]) 0 c1 (clOf 8) 64) [] := by
  have hf := one_free (HO.wrote 2 [97, 98] (by simp)) m a
  have := law_free w κ3 μ3 b m mo 3 T a _ _ [⟨64, bk, spliceB (List.replicate 8 0) 2 [97, 98]⟩] 0 64 0 (by omega) (by omega) (by omega) (by simp) rfl hf w4 h
  exact this
theorem gives_b (w w5 : World) (κ5 μ5 : Kol) (b m mo : Nat) (T : Top) (a : Ad) (s1 : St) (c1 : Cpu) (fr : Nat) (HC : s1.cpus.length = 2 + 1) (h : LawK w κ5 μ5 w5 b m mo 3 T a (freeS_ (wrS s1 (fr * 64 + 64 % 64 + 2) [97, 98]) 0 c1 (clOf 8) 64) []) :
    Calls Tryz.prog 19 #[.pointer (some ⟨b, 0, none⟩), .int .i64 0, .int .i64 64] w5 fun e w' => e = .returned (.bool true) ∧ ∃ κ' μ', LawK w κ' μ' w' b m mo 3 T a (freeS_ (wrS s1 (fr * 64 + 64 % 64 + 2) [97, 98]) 0 c1 (clOf 8) 64) [] := by
  have hb := bad_free 0 m 64 a (freeS_ (wrS s1 (fr * 64 + 64 % 64 + 2) [97, 98]) 0 c1 (clOf 8) 64) (i64o 64 (by omega) (by omega)) (by show 0 < (s1.cpus.set 0 _).length; rw [List.length_set, HC]; omega) (by show outF s1.live 64 64 = none; unfold outF; rw [if_pos rfl])
  exact law_free_bad w κ5 μ5 b m mo 3 T a _ _ [] 0 64 (by omega) (by omega) (by omega) (fun o ho => by cases ho) hb w5 h
set_option maxHeartbeats 4000000 in
set_option maxRecDepth 100000 in
theorem gives_own [SortI] (w : World) (hg : GlobR w) : Calls Tryz.prog 16 #[] w fun e w' => e = .returned (.bool true) ∧ RowKit.Below w.heap.size w w' := by
  have HBG := Aside0.mk (law_begin 1 1 0 2 16 0 (by decide +kernel) (by omega) (by omega) (by simp) (fun W => rfl) (by decide +kernel) (by omega) w hg)
  have HN := Aside0.mk (fun m a => does_new 2 16 0 0 8 m a (by omega) (by omega) (by simp) (by omega) (by omega) (by omega) (by omega))
  clear hg
  go_enter Tryz.func16, Tryz.ntmps16
  go_upto_region 2 with (go_at_call 15; (with_reducible refine HBG.out.mono ?_); rintro e_ w1 ⟨κ1, μ1, b, m, mo, A1, ca1, B1, cb1, a, rfl, h1⟩; have HL1 := Aside0.mk h1; clear h1)
  obtain ⟨s1, c1, fr, hd, y, hD1, hO1, hcl1, _⟩ := HN.out m a
  obtain ⟨T, hT⟩ : ∃ T, begT 2 16 A1 ca1 B1 cb1 = T := ⟨_, rfl⟩
  rw [hT] at HL1
  clear hT HBG HN
  have HO := Aside0.mk (And.intro hO1 hcl1)
  have HM := Aside0.mk (show Calls Tryz.prog 17 #[.pointer (some ⟨b, 0, none⟩), .int .i64 0, .int .i64 8] w1 fun e w' => e = .returned (.bool true) ∧ ∃ κ' μ' bk, LawK w κ' μ' w' b m mo 3 T a s1 [⟨64, bk, List.replicate 8 0⟩] from
    law_malloc w κ1 μ1 b m mo 3 T a (begS 2 16 0) s1 [] 0 64 8 (by omega) (by omega) (by omega) (by omega) (by omega) (by simp) hD1 ⟨by omega, by omega, fun o ho => by cases ho⟩ w1 HL1.out)
  clear hD1 hO1 hcl1
  have kc := fun (w : World) (C : Array Value) (n c : Nat) => Lib.run_convert_bytes_const (P := Tryz.prog) w 23 5 C n c Tryz.underlying23 Tryz.underlying5
  go_wp2_with (first
    | (go_at_call 17; (with_reducible refine HM.out.mono ?_); rintro e_ w2 ⟨rfl, κ2, μ2, bk, h2⟩; have HL2 := Aside0.mk h2; obtain ⟨g, cp, x1, y1, z1⟩ := h2.cell1 64 rfl; clear h2)
    | (go_at_call 18; (with_reducible refine (gives_w w w2 κ2 μ2 b m mo bk T a s1 c1 fr hd y HO.out.1 HO.out.2 HL2.out).mono ?_); rintro e_ w3 ⟨rfl, κ3, μ3, h3⟩; have HL3 := Aside0.mk h3; clear x1 y1 z1; obtain ⟨g3, cp3, x1, y1, z1⟩ := h3.cell1 64 rfl; clear h3)
    | (go_at_call 20; (with_reducible refine (gives_r w w3 κ3 μ3 b m mo bk T a s1 c1 fr hd y HO.out.1 HO.out.2 HL3.out).mono ?_); rintro e_ w4 ⟨rfl, h4⟩; have HL4 := Aside0.mk h4; clear x1 y1 z1; obtain ⟨g4, cp4, x1, y1, z1⟩ := h4.cell1 64 rfl; clear h4)
    | (go_at_call 19; (with_reducible refine (gives_f w w4 κ3 μ3 b m mo bk T a s1 c1 fr hd y HO.out.1 HO.out.2 HL4.out).mono ?_); rintro e_ w5 ⟨rfl, κ5, μ5, h5⟩; have HL5 := Aside0.mk h5; clear x1 y1 z1 h5)
    | (go_at_call 19; (with_reducible refine (gives_b w w5 κ5 μ5 b m mo T a s1 c1 fr HO.out.2 HL5.out).mono ?_); rintro e_ w6 ⟨rfl, κ6, μ6, h6⟩; have HL6 := Aside0.mk h6; clear h6))
  go_ret
  exact ⟨rfl, HL6.out.bel⟩
end Go.Proofs.YtenkdmloolbdaaaGreatDoor.T
end
section
namespace Go.Proofs.YtenkdmloolbdaaaGreatDoor.T
open Go.RowKit Go.Maps Go.WideShapes Go.Proofs.YtenkdmloolbdaaaGreatDoorW.PrintWords Go.Proofs.YtenkdmloolbdaaaGreatDoorW.PrintLast Go.Proofs.YtenkdmloolbdaaaGreatDoorW.PrintMore
set_option linter.unusedVariables false
set_option linter.unusedSimpArgs false
/-- Bytes that were there ahead of the law stay. -/
theorem LawK.src {w0 w : World} {κ μ : Kol} {b m mo nc : Nat} {t : Top} {a : Ad} {s : St} {l : List Ob} (h : LawK w0 κ μ w b m mo nc t a s l) {B : Option Addr} {bs : List Nat} (hr : RdB w0 B bs.length bs) : RdS (fun z => 1 ≤ z) κ w B bs :=
  fun κ' w' hU => hr.below (h.bel.trans (below_kol h.bel.size (fun x hx => (h.old x hx).1) hU))
theorem mod_64 (k : Int) : ∃ n : Nat, wrap64 (1 + wrap64 ((IntKind.u64.wrap k).tmod 64)) = (n : Int) ∧ 1 ≤ n ∧ n ≤ 64 := by
  have h0 : 0 ≤ IntKind.u64.wrap k := by rw [IntKind.wrap_u64]; omega
  have h1 := Int.tmod_nonneg 64 h0
  have h2 := Int.tmod_lt_of_pos (IntKind.u64.wrap k) (show (0 : Int) < 64 by omega)
  generalize (IntKind.u64.wrap k).tmod 64 = x at h1 h2
  refine ⟨(1 + x).toNat, ?_, by omega, by omega⟩
  rw [IntWalk.wrap64_in x ⟨by omega, by omega⟩, IntWalk.wrap64_in (1 + x) ⟨by omega, by omega⟩]
  omega
section
variable (w : World) (κ μ : Kol) (b m mo n n1 bk : Nat) (T : Top) (a : Ad) (s : St) (c : Cpu) (fr : Nat) (hd : Held) (y : Int) (bs : List Nat)
theorem again_w (hn : n ≤ 4) (w2 : World) (HO : One s 0 c 64 n1 (clOf n1) (ndN n 0) fr 1 y hd (List.replicate n1 0)) (h1 : 1 ≤ n1) (HC : s.cpus.length = n + 1) (h : LawK w κ μ w2 b m mo (n + 1) T a s [⟨64, bk, List.replicate n1 0⟩]) (B : Option Addr) (cb : Nat) (hb : bs.length ≤ n1) (hcb : bs.length ≤ cb) (hr : RdB w B bs.length bs) :
    Calls Tryz.prog 18 #[.pointer (some ⟨b, 0, none⟩), .int .i64 0, .int .i64 64, .int .i64 0, .slice B bs.length cb] w2 fun e w' => e = .returned (.bool true) ∧ ∃ κ' μ', LawK w κ' μ' w' b m mo (n + 1) T a (wrS s (fr * 64 + 64 % 64 + 0) bs) [⟨64, bk, spliceB (List.replicate n1 0) 0 bs⟩] := by
  have h3 := law_write w κ μ b m mo (n + 1) T a s (wrS s (fr * 64 + 64 % 64 + 0) bs) [⟨64, bk, List.replicate n1 0⟩] 0 64 0 0 bs.length cb B bs (by omega) (by omega) (by omega) (by simp) rfl (by simpa using hb) (by simp; omega) (one_write HO 0 m 0 cb a B bs (by omega) (by omega) hcb) w2 h (h.src hr) rfl
  exact h3
theorem again_n (hn : n ≤ 4) (w2 : World) (s0 : St) (h1 : 1 ≤ n1) (h64 : n1 ≤ 64) (hD : Does 21 #[.pointer (some ⟨m, 0, none⟩), .int .i64 (0 : Nat), .int .i64 n1] m a s0 s (.tuple #[.int .i64 (64 : Nat), .int .i64 0])) (h : LawK w κ μ w2 b m mo (n + 1) T a s0 []) :
    Calls Tryz.prog 17 #[.pointer (some ⟨b, 0, none⟩), .int .i64 0, .int .i64 n1] w2 fun e w' => e = .returned (.bool true) ∧ ∃ κ' μ' bk', LawK w κ' μ' w' b m mo (n + 1) T a s [⟨64, bk', List.replicate n1 0⟩] :=
  law_malloc w κ μ b m mo (n + 1) T a s0 s [] 0 64 n1 (by omega) (by omega) (by omega) h1 (by omega) (by simp) hD ⟨by omega, by omega, fun o ho => by cases ho⟩ w2 h
theorem again_f (hn : n ≤ 4) (w4 : World) (HO : One s 0 c 64 n1 (clOf n1) (ndN n 0) fr 1 y hd bs) (h : LawK w κ μ w4 b m mo (n + 1) T a s [⟨64, bk, bs⟩]) :
    Calls Tryz.prog 19 #[.pointer (some ⟨b, 0, none⟩), .int .i64 0, .int .i64 64] w4 fun e w' => e = .returned (.bool true) ∧ ∃ κ' μ', LawK w κ' μ' w' b m mo (n + 1) T a (freeS_ s 0 c (clOf n1) 64) [] := by
  have := law_free w κ μ b m mo (n + 1) T a _ _ [⟨64, bk, bs⟩] 0 64 0 (by omega) (by omega) (by omega) (by simp) rfl (one_free HO m a) w4 h
  exact this
theorem again_m (hn : n ≤ 4) (w4 : World) (HO : One s 0 c 64 n1 (clOf n1) (ndN n 0) fr 1 y hd bs) (h1 : 1 ≤ n1) (h64 : n1 ≤ 64) (h : LawK w κ μ w4 b m mo (n + 1) T a (freeS_ s 0 c (clOf n1) 64) []) :
    Calls Tryz.prog 17 #[.pointer (some ⟨b, 0, none⟩), .int .i64 0, .int .i64 n1] w4 fun e w' => e = .returned (.bool true) ∧ ∃ κ' μ' bk', LawK w κ' μ' w' b m mo (n + 1) T a (againS s 0 c (clOf n1) 64 fr n1) [⟨64, bk', List.replicate n1 0⟩] :=
  law_malloc w κ μ b m mo (n + 1) T a (freeS_ s 0 c (clOf n1) 64) (againS s 0 c (clOf n1) 64 fr n1) [] 0 64 n1 (by omega) (by omega) (by omega) h1 (by omega) (by simp) (one_again HO rfl h1 h64 m a) ⟨by omega, by omega, fun o ho => by cases ho⟩ w4 h
theorem again_r (hn : n ≤ 4) (w4 : World) (HO : One s 0 c 64 n1 (clOf n1) (ndN n 0) fr 1 y hd (List.replicate n1 0)) (hi : 0 < s.cpus.length) (h1 : 1 ≤ n1) (h : LawK w κ μ w4 b m mo (n + 1) T a s [⟨64, bk, List.replicate n1 0⟩]) :
    Calls Tryz.prog 20 #[.pointer (some ⟨b, 0, none⟩), .int .i64 0, .int .i64 64, .int .i64 0, .int .i64 n1] w4 fun e w' => e = .returned (.bool true) ∧ LawK w κ μ w' b m mo (n + 1) T a s [⟨64, bk, List.replicate n1 0⟩] := by
  have hr := one_read HO 0 m 0 n1 a hi h1 (by omega)
  have := law_read w κ μ b m mo (n + 1) T a s [⟨64, bk, List.replicate n1 0⟩] 0 64 0 0 n1 _ (by omega) (by omega) (by omega) (by simp) rfl (by simp) h1 hr rfl w4 h
  exact this
end
theorem again_cpus (s : St) (j : Nat) (c : Cpu) (cls x fr n1 : Nat) : (againS s j c cls x fr n1).cpus.length = s.cpus.length := by
  show ((s.cpus.set j _).set j _).length = _
  rw [List.length_set, List.length_set]
set_option maxHeartbeats 4000000 in
set_option maxRecDepth 100000 in
theorem again_own [SortI] (c0 c1 k0 : Int) (B : Option Addr) (len cb : Nat) (w : World) (hg : GlobR w) (hcb : len ≤ cb) (hB : ∀ q, q ≤ len → q ≤ 64 → ∃ bs : List Nat, bs.length = q ∧ RdB w B bs.length bs) (hmx : cb ≤ 9223372036854775807) :
    Calls Tryz.prog 3 #[.agg #[.int .i64 c0, .int .i64 c1], .int .i64 k0, .slice B len cb] w fun e w' => e = .returned (.bool true) ∧ RowKit.Below w.heap.size w w' := by
  obtain ⟨n, hn, hn1, hn4⟩ := nodes_n c0
  obtain ⟨f, hf, hsh⟩ := shl_f c1
  obtain ⟨n1, hk, h1, h64⟩ := mod_64 k0
  have HBG := Aside0.mk (fun (W : World) (hW : GlobR W) => law_begin c0 c1 0 n f 0 hn hn1 hn4 hf hsh (by decide +kernel) (by omega) W hW)
  have HN := Aside0.mk (fun m a => does_new n f 0 0 n1 m a hn1 hn4 hf (by omega) (by omega) h1 h64)
  have HG := Aside0.mk hg
  have HK := Aside0.mk hk
  have HB := Aside0.mk hB
  have hw0 := below_alloc (RowKit.Below.refl w.heap.size w) (.cells #[.int .i64 c0, .int .i64 c1] 22)
  obtain ⟨W, hW⟩ : ∃ W, w.alloc (.cells #[.int .i64 c0, .int .i64 c1] 22) = W := ⟨_, rfl⟩
  rw [hW] at hw0
  have HW0 := Aside0.mk hw0
  clear hg hn hf hsh hk hB hw0
  go_enter Tryz.func3, Tryz.ntmps3
  go_upto_region 1 with fail
  have q0 := (Blk.new w #[.int .i64 c0, .int .i64 c1] 22).at 0 (.int .i64 c0) rfl
  have q1 := (Blk.new w #[.int .i64 c0, .int .i64 c1] 22).at 1 (.int .i64 c1) rfl
  rw [hW] at q0 q1
  clear hW
  go_upto_region 2 with (go_at_call 15; (with_reducible refine (HBG.out _ (HG.out.below HW0.out)).mono ?_); rintro e_ w1 ⟨κ1, μ1, b, m, mo, A1, ca1, B1, cb1, a, rfl, h1⟩; have HL1 := Aside0.mk h1; clear h1)
  clear q0 q1 HBG
  obtain ⟨s1, c1_, fr, hd, y, hD1, hO1, hcl1, hln1⟩ := HN.out m a
  obtain ⟨T, hT⟩ : ∃ T, begT n f A1 ca1 B1 cb1 = T := ⟨_, rfl⟩
  rw [hT] at HL1
  clear hT HN
  have HO := Aside0.mk (And.intro hO1 hcl1)
  have HD := Aside0.mk hD1
  have HLN := Aside0.mk hln1
  clear hD1 hO1 hcl1 hln1
  go_upto_region 3 with fail
  rw [HK.out]
  have hi0 : (0 : Int) ≤ (n1 : Int) := by omega
  have hi1 : (n1 : Int) ≤ 64 := by omega
  go_upto_region 5 with (first
    | (go_at_call 16; (with_reducible refine (gives_own w1 (HL1.out.gl.below HL1.out.bel)).mono ?_); rintro e_ w2 ⟨rfl, h2⟩; have HL2 := Aside0.mk (HL1.out.below h2); clear h2)
    | (go_at_call 17; (with_reducible refine (again_n W κ1 μ1 b m mo n n1 T a s1 hn4 w2 (begS n f 0) h1 h64 HD.out HL2.out).mono ?_); rintro e_ w3 ⟨rfl, κ3, μ3, bk, h3⟩; have HL3 := Aside0.mk h3; obtain ⟨g, cp, x1, y1, z1⟩ := h3.cell1 64 rfl; clear h3))
  go_upto_region 6 with fail
  clear x1 y1 z1
  obtain ⟨q, hq⟩ : ∃ q, min len n1 = q := ⟨_, rfl⟩
  have hq1 : q ≤ len := by omega
  have hq2 : q ≤ n1 := by omega
  obtain ⟨bs, hbl, hrd⟩ := HB.out q hq1 (by omega)
  have HR := Aside0.mk (And.intro hbl (hrd.below HW0.out))
  have hmin : min (len : Int) (n1 : Int) = (q : Int) := by omega
  have hqi : (q : Int) ≤ (cb : Int) := by omega
  have hq0 : (0 : Int) ≤ (q : Int) := by omega
  clear hbl hrd hq
  have HO2 := Aside0.mk (HO.out.1.wrote 0 bs (by rw [HR.out.1]; omega))
  obtain ⟨c2, hO3⟩ := HO2.out.again (by show s1.ln + 1 < _; rw [HLN.out]; omega)
  have HO3 := Aside0.mk hO3
  have HCP := Aside0.mk HO.out.2
  have HI := Aside0.mk (show 0 < (againS (wrS s1 (fr * 64 + 64 % 64 + 0) bs) 0 c1_ (clOf n1) 64 fr n1).cpus.length from by rw [again_cpus]; show 0 < s1.cpus.length; rw [HCP.out]; omega)
  have hbc : bs.length ≤ cb := by rw [HR.out.1]; omega
  have hbn : bs.length ≤ n1 := by rw [HR.out.1]; omega
  have HR2 := Aside0.mk HR.out.2
  clear hO3 HLN HD
  rw [← HR.out.1] at hqi hmin hq0
  clear HR
  go_upto_region 8 with (first
    | (go_at_call 18; (with_reducible refine (again_w W κ3 μ3 b m mo n n1 bk T a s1 c1_ fr hd y bs hn4 w3 HO.out.1 h1 HCP.out HL3.out B cb hbn hbc HR2.out).mono ?_); rintro e_ w4 ⟨rfl, κ4, μ4, h4⟩; have HL4 := Aside0.mk h4; clear h4)
    | (go_at_call 19; (with_reducible refine (again_f W κ4 μ4 b m mo n n1 bk T a _ c1_ fr hd y _ hn4 w4 HO2.out HL4.out).mono ?_); rintro e_ w5 ⟨rfl, κ5, μ5, h5⟩; have HL5 := Aside0.mk h5; clear h5)
    | (go_at_call 17; (with_reducible refine (again_m W κ5 μ5 b m mo n n1 T a _ c1_ fr hd y _ hn4 w5 HO2.out h1 h64 HL5.out).mono ?_); rintro e_ w6 ⟨rfl, κ6, μ6, bk6, h6⟩; have HL6 := Aside0.mk h6; obtain ⟨g6, cp6, x1, y1, z1⟩ := h6.cell1 64 rfl; clear h6))
  go_wp2_with (go_at_call 20; (with_reducible refine (again_r W κ6 μ6 b m mo n n1 bk6 T a _ c2 fr hd y hn4 w6 HO3.out HI.out h1 HL6.out).mono ?_); rintro e_ w7 ⟨rfl, h7⟩; have HL7 := Aside0.mk h7; clear h7)
  go_ret
  exact ⟨rfl, below_then HW0.out HW0.out.size HL7.out.bel⟩
end Go.Proofs.YtenkdmloolbdaaaGreatDoor.T
end
section
namespace Go.Proofs.YtenkdmloolbdaaaGreatDoor.T
open Go.RowKit Go.Proofs.YtenkdmloolbdaaaGreatDoorW.PrintWords Go.Proofs.YtenkdmloolbdaaaGreatDoorW.PrintLast Go.Proofs.YtenkdmloolbdaaaGreatDoorW.PrintMore
open Go.ChangeShapes Go.Deep
set_option linter.unusedVariables false
section
variable {H : Type} {enc : TypeId × Value → H} {w : World} {base : Nat} {spare : Nat → Bool} {held : Bool}
theorem pair_arr : Go.WideMaps.ArrKey Tryz.prog 22 3 2 := ⟨Tryz.underlying22, by kernel_rfl, by kernel_rfl, by kernel_rfl⟩
theorem ints_opened {fuel : Nat} {cs : List Value} {y : DataW H × List MemPlace} (h : DataW.trod enc Tryz.prog w base spare held fuel 34 cs = some y) : ∃ (A : Option Addr) (c : Nat) (l : List Int), cs = [.slice A l.length c] ∧ l.length ≤ c ∧ Kd.C (Kd.int .i64) w A l.length l := by
  rcases open_ints Tryz.underlying34 Tryz.underlying3 (by kernel_rfl) h with ⟨hcs, _⟩ | ⟨x, l, c, zs, hcs, _, hl, hm, hz, _, hcell, hwz⟩
  · exact ⟨none, 0, [], hcs, Nat.le_refl _, rfl, by decide, fun h => absurd h (by decide)⟩
  · have hmx : maxLen = 9223372036854775807 := by decide
    have hlz : l ≤ zs.length := by rw [hz]; split <;> omega
    have hll : (zs.take l).length = l := by rw [List.length_take]; omega
    refine ⟨some x, c, zs.take l, by rw [hll]; exact hcs, by omega, ?_⟩
    refine Kd.C_of_reads (d := (0 : Int)) (h1 := fun _ => rfl) ⟨rfl, by omega, fun _ => ⟨_, rfl, fun j hj => ?_⟩⟩
    rw [hcell j (by omega), List.getD_eq_getElem?_getD, List.getD_eq_getElem?_getD, List.getElem?_take_of_lt (by omega)]
/-- A row of bytes opened: as many of its first bytes as one likes, as numbers. -/
theorem bytes_opened {fuel : Nat} {cs : List Value} {y : DataW H × List MemPlace} (h : DataW.trod enc Tryz.prog w base spare held fuel 23 cs = some y) :
    ∃ (A : Option Addr) (n c : Nat), cs = [.slice A n c] ∧ n ≤ c ∧ c ≤ 9223372036854775807 ∧ ∀ q, q ≤ n → q ≤ 1000000 → ∃ bs : List Nat, bs.length = q ∧ RdB w A bs.length bs ∧ ∀ x ∈ bs, x < 256 := by
  have hmx : maxLen = 9223372036854775807 := by decide
  rcases open_ints Tryz.underlying23 Tryz.underlying5 (by kernel_rfl) h with ⟨hcs, _⟩ | ⟨x, l, c, zs, hcs, _, hl, hm, hz, _, hcell, hwz⟩
  · refine ⟨none, 0, 0, hcs, Nat.le_refl _, by omega, fun q hq _ => ⟨[], by simp; omega, ⟨rfl, by decide, fun h => absurd h (by decide)⟩, by simp⟩⟩
  · have hlz : l ≤ zs.length := by rw [hz]; split <;> omega
    have hb : ∀ n ∈ zs, 0 ≤ n ∧ n < 256 := by
      intro n hn
      have := hwz n hn
      simp [Lit.wf, IntKind.min, IntKind.max, IntKind.signed, IntKind.bits] at this
      omega
    refine ⟨some x, l, c, hcs, hl, by omega, fun q hq hq2 => ⟨(zs.take q).map Int.toNat, by rw [List.length_map, List.length_take]; omega, RdB.mk rfl (by rw [List.length_map, List.length_take]; omega) (fun j u hj => ?_), fun u hu => ?_⟩⟩
    · rw [List.getElem?_map] at hj
      obtain ⟨z, hz1, rfl⟩ := Option.map_eq_some_iff.1 hj
      have hjq : j < q := by
        have := (List.getElem?_eq_some_iff.1 hz1).1
        rw [List.length_take] at this
        omega
      rw [List.getElem?_take_of_lt hjq] at hz1
      have h0 := (hb z (List.mem_of_getElem? hz1)).1
      rw [hcell j (by omega), List.getD_eq_getElem?_getD, hz1, Option.getD_some, Int.toNat_of_nonneg h0]
    · obtain ⟨z, hz1, rfl⟩ := List.mem_map.1 hu
      have := hb z (List.mem_of_mem_take hz1)
      omega
theorem len_2 {α : Type} (l : List α) (h : l.length = 2) : ∃ a b, l = [a, b] := by
  match l, h with
  | [a, b], _ => exact ⟨a, b, rfl⟩
theorem len_4 {α : Type} (l : List α) (h : l.length = 4) : ∃ a b c d, l = [a, b, c, d] := by
  match l, h with
  | [a, b, c, d], _ => exact ⟨a, b, c, d, rfl⟩
theorem len_8 {α : Type} (l : List α) (h : l.length = 8) : ∃ a b c d e f g i, l = [a, b, c, d, e, f, g, i] := by
  match l, h with
  | [a, b, c, d, e, f, g, i], _ => exact ⟨a, b, c, d, e, f, g, i, rfl⟩
theorem row_opened {fuel : Nat} {cs : List Value} {y : DataW H × List MemPlace} {a b : Int} (hy : y.1 = .agg [.lit (.int .i64 a), .lit (.int .i64 b)]) (h : DataW.trod enc Tryz.prog w base spare held fuel 249 cs = some y) : cs = [.int .i64 a, .int .i64 b] := by
  obtain ⟨y0, y1, n, rfl, hl, h0, h1⟩ := trod_struct2 Tryz.underlying249 h
  have c1 : Tryz.prog.cellsOf 3 = 1 := by kernel_rfl
  have c2 : Tryz.prog.cellsOf 249 = 2 := by kernel_rfl
  rw [c2] at hl
  obtain ⟨u, v, rfl⟩ := len_2 cs hl
  obtain ⟨z0, hz0, e0, _⟩ := DataW.trod_int Tryz.underlying3 h0
  obtain ⟨z1, hz1, e1, _⟩ := DataW.trod_int Tryz.underlying3 h1
  rw [c1] at hz0 hz1
  simp at hz0 hz1
  rw [hz0, hz1]
  rw [e0, e1] at hy
  simp only [DataW.agg.injEq, List.cons.injEq, DataW.lit.injEq, Lit.int.injEq, and_true, true_and] at hy
  rw [hy.1, hy.2]
theorem glob_laid {cs : Array Value} {fuel : Nat} {p : List MemPlace} (hv : w.var? Tryz.prog "messuage/class.rows" = some cs)
    (hd : DataW.trod enc Tryz.prog w base spare held fuel 250 cs.toList = some (.agg [.agg [.lit (.int .i64 8), .lit (.int .i64 0)], .agg [.lit (.int .i64 16), .lit (.int .i64 0)], .agg [.lit (.int .i64 32), .lit (.int .i64 1)], .agg [.lit (.int .i64 64), .lit (.int .i64 2)]], p)) : GlobR w := by
  obtain ⟨xs, m, _, hx, hl, hxl, hi⟩ := DataW.trod_array Tryz.underlying250 hd
  have c2 : Tryz.prog.cellsOf 249 = 2 := by kernel_rfl
  have c8 : Tryz.prog.cellsOf 250 = 8 := by kernel_rfl
  rw [c8] at hl
  rw [c2] at hi
  obtain ⟨y0, y1, y2, y3, rfl⟩ := len_4 xs hxl
  simp only [Prod.mk.injEq, DataW.agg.injEq, List.map_cons, List.map_nil, List.cons.injEq, and_true] at hx
  obtain ⟨⟨e0, e1, e2, e3⟩, _⟩ := hx
  have r0 := row_opened e0.symm (hi 0 (by omega))
  have r1 := row_opened e1.symm (hi 1 (by omega))
  have r2 := row_opened e2.symm (hi 2 (by omega))
  have r3 := row_opened e3.symm (hi 3 (by omega))
  have hcs : cs.toList = [.int .i64 8, .int .i64 0, .int .i64 16, .int .i64 0, .int .i64 32, .int .i64 1, .int .i64 64, .int .i64 2] := by
    generalize cs.toList = L at hl r0 r1 r2 r3
    obtain ⟨a, b, c, d, e, f, g, h, rfl⟩ := len_8 L hl
    simp only [Nat.zero_mul, Nat.one_mul, List.drop_zero, List.take_succ_cons, List.take_zero, List.drop_succ_cons, List.cons.injEq, and_true, Nat.reduceMul] at r0 r1 r2 r3
    rw [r0.1, r0.2, r1.1, r1.2, r2.1, r2.2, r3.1, r3.2]
  have hg : Tryz.prog.globalNamed "messuage/class.rows" = some 0 := by kernel_rfl
  have hh : ∃ t fr, w.heap[0]? = some (.cells cs t fr) := by
    unfold World.var? at hv
    rw [hg] at hv
    simp only [Option.bind_some] at hv
    split at hv
    · rename_i h
      simp at hv
      subst hv
      exact ⟨_, _, h⟩
    · simp at hv
  obtain ⟨t, fr, hh⟩ := hh
  have hc : ∀ i v, cs.toList[i]? = some v → w.cell? ⟨0, i, none⟩ = some v := by
    intro i v h
    simp only [World.cell?, hh]
    simpa using h
  exact ⟨hc 0 _ (by rw [hcs]; rfl), hc 1 _ (by rw [hcs]; rfl), hc 2 _ (by rw [hcs]; rfl), hc 3 _ (by rw [hcs]; rfl), hc 4 _ (by rw [hcs]; rfl), hc 5 _ (by rw [hcs]; rfl), hc 6 _ (by rw [hcs]; rfl), hc 7 _ (by rw [hcs]; rfl)⟩
end
end Go.Proofs.YtenkdmloolbdaaaGreatDoor.T
end
