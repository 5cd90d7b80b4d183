import Derived.Test.YtenkdmloolbdaaaGreatDoorE05
import Derived.Test.YtenkdmloolbdaaaGreatDoorE04
import Derived.Test.YtenkdmloolbdaaaGreatDoorE03
set_option linter.unusedVariables false
set_option linter.unusedSimpArgs false
set_option maxHeartbeats 8000000
set_option maxRecDepth 100000
section
namespace Go.Proofs.YtenkdmloolbdaaaGreatDoor.T
open Go.RowKit Go.Maps Go.WideShapes Go.Proofs.YtenkdmloolbdaaaGreatDoorW.PrintWords Go.Proofs.YtenkdmloolbdaaaGreatDoorW.PrintLast Go.Proofs.YtenkdmloolbdaaaGreatDoorW.PrintMore
def budC (n : Nat) (v : Nat → Value) (t : Nat) : Array Value := #[.int .i64 n, v 0, v 1, v 2, v 3, v 4, v 5, v 6, v 7, v 8, v 9, v 10, .map (some t)]
theorem budC_at (n : Nat) (v : Nat → Value) (t k : Nat) (hk : k < 11) : (budC n v t)[1 + k]? = some (v k) := by
 match k, hk with
 | 0, _ => rfl
 | 1, _ => rfl
 | 2, _ => rfl
 | 3, _ => rfl
 | 4, _ => rfl
 | 5, _ => rfl
 | 6, _ => rfl
 | 7, _ => rfl
 | 8, _ => rfl
 | 9, _ => rfl
 | 10, _ => rfl
theorem budC_set (n : Nat) (v : Nat → Value) (t k : Nat) (hk : k < 11) (u : Value) : (budC n v t).setIfInBounds (1 + k) u = budC n (fun j => if j = k then u else v j) t := by
 match k, hk with
 | 0, _ => rfl
 | 1, _ => rfl
 | 2, _ => rfl
 | 3, _ => rfl
 | 4, _ => rfl
 | 5, _ => rfl
 | 6, _ => rfl
 | 7, _ => rfl
 | 8, _ => rfl
 | 9, _ => rfl
 | 10, _ => rfl
theorem budC_eq {n t : Nat} {v u : Nat → Value} (h : ∀ k, k < 11 → v k = u k) : budC n v t = budC n u t := by
 unfold budC
 rw [h 0 (by decide), h 1 (by decide), h 2 (by decide), h 3 (by decide), h 4 (by decide), h 5 (by decide), h 6 (by decide), h 7 (by decide), h 8 (by decide), h 9 (by decide), h 10 (by decide)]
def p2s : List Nat := [1, 2, 4, 8, 16, 32, 64, 128, 256, 512, 1024]
theorem p2_and : ∀ n ∈ p2s, Go.bits .and .i64 ((n : Nat) : Int) ((n : Int) - 1) = 0 := by decide +kernel
theorem p2_le : ∀ n ∈ p2s, 1 ≤ n ∧ n ≤ 1024 := by decide +kernel
theorem shl_64 : ∀ j : Nat, j < 11 → wrap64 ((2 : Int) ^ j) = ((2 ^ j : Nat) : Int) := by decide +kernel
def iniS (n k : Nat) : List Nat := if 2 ^ k = n then [0] else []
theorem Upd.of_grown {κ : Kol} {i b : Nat} {w w1 : World} (h : w.grownBy w1 (some b)) (hk : κ b = i) : Upd (· = i) κ w κ w1 :=
 ⟨fun _ _ => rfl, ⟨h.os, h.tape, h.output, h.size, fun x hx hne => h.block x hx (fun e => hne (by injection e with e; rw [e]; exact hk))⟩⟩
def RelNew (κ : Kol) (i n : Nat) (w : World) (b t : Nat) (v23 : Value) (wr : World) : Prop :=
 ∃ (j : Nat) (m : Nat → Nat) (κ1 : Kol), v23 = .int .i64 ((j : Nat) : Int) ∧ j ≤ 11 ∧ BlkK κ1 i wr b (budC n (fun k => if k < j then .map (some (m k)) else .map none) t) 199 ∧ (∀ k, k < j → SetK κ1 (i + 1 + k) wr (m k) (iniS n k)) ∧ MapI κ1 (i + 12) wr t 0 (fun _ => none) ∧ (∀ x, x < w.heap.size → κ1 x = κ x) ∧ RowKit.Below w.heap.size w wr
theorem RelNew.step {κ κ1 : Kol} {i n j b t : Nat} {m : Nat → Nat} {w wr w1 : World} (hlt : j < 11) (hb : BlkK κ1 i wr b (budC n (fun k => if k < j then .map (some (m k)) else .map none) t) 199) (hs : ∀ k, k < j → SetK κ1 (i + 1 + k) wr (m k) (iniS n k)) (ht : MapI κ1 (i + 12) wr t 0 (fun _ => none)) (hκ : ∀ x, x < w.heap.size → κ1 x = κ x) (hB : RowKit.Below w.heap.size w wr) (hbw : w.heap.size ≤ b)
 (hU : Upd (· = i + 1 + j) (κ1.ext wr.heap.size (i + 1 + j)) ((wr.alloc (.map #[] 0)).setCell ⟨b, 1 + j, none⟩ (.map (some wr.heap.size))) (κ1.ext wr.heap.size (i + 1 + j)) w1) (hset : SetK (κ1.ext wr.heap.size (i + 1 + j)) (i + 1 + j) w1 wr.heap.size (iniS n j)) (hB1 : RowKit.Below w.heap.size ((wr.alloc (.map #[] 0)).setCell ⟨b, 1 + j, none⟩ (.map (some wr.heap.size))) w1) :
 RelNew κ i n w b t (.int .i64 (((j + 1 : Nat)) : Int)) w1 := by
 have hU1 : Upd (fun _ => False) κ1 wr (κ1.ext wr.heap.size (i + 1 + j)) (wr.alloc (.map #[] 0)) := (Upd.of_below κ1 (below_alloc (RowKit.Below.refl _ _) _)).paint _ _ (Nat.le_refl _)
 have hb1 := hb.upd hU1 (fun h => h)
 have hU2 : Upd (· = i) (κ1.ext wr.heap.size (i + 1 + j)) (wr.alloc (.map #[] 0)) (κ1.ext wr.heap.size (i + 1 + j)) ((wr.alloc (.map #[] 0)).setCell ⟨b, 1 + j, none⟩ (.map (some wr.heap.size))) := (Upd.refl _ _ _).set ⟨b, 1 + j, none⟩ (fun _ => hb1.kol) _
 have hb2 := (hb1.set (1 + j) (.map (some wr.heap.size))).upd hU (by omega)
 rw [budC_set n _ t j hlt] at hb2
 refine ⟨j + 1, fun k => if k = j then wr.heap.size else m k, κ1.ext wr.heap.size (i + 1 + j), rfl, hlt, ?_, fun k hk => ?_, ((ht.upd hU1 (fun h => h)).upd hU2 (by omega)).upd hU (by omega), fun x hx => (Kol.ext_old κ1 (Nat.lt_of_lt_of_le hx hB.size)).trans (hκ x hx), ?_⟩
 ·rw [budC_eq (u := fun k => if k < j + 1 then .map (some (if k = j then wr.heap.size else m k)) else .map none)] at hb2
  ·exact hb2
  ·intro k hk
   by_cases e : k = j
   ·subst e; simp
   ·by_cases e2 : k < j
    ·simp [e, e2, show k < j + 1 by omega]
    ·simp [e, e2, show ¬ k < j + 1 by omega]
 ·by_cases e : k = j
  ·subst e; simpa using hset
  ·simp only [if_neg e]
   exact (((hs k (by omega)).upd hU1 (fun h => h)).upd hU2 (by omega)).upd hU (by omega)
 ·have h1 : RowKit.Below w.heap.size w ((wr.alloc (.map #[] 0)).setCell ⟨b, 1 + j, none⟩ (.map (some wr.heap.size))) := RowKit.Below.setCell (p := ⟨b, 1 + j, none⟩) (below_alloc hB _) hbw _
  exact h1.trans hB1
theorem bud_new (κ : Kol) (i n : Nat) (hn : n ∈ p2s) (w : World) :
 Calls Tryz.prog 137 #[.int .i64 n] w fun e w' => ∃ κ' b, e = .returned (.tuple #[.pointer (some ⟨b, 0, none⟩), .int .i64 0]) ∧ BuddyK κ' i w' b n 0 (iniS n) (fun _ => none) ∧ w.heap.size ≤ b ∧ (∀ x, x < w.heap.size → κ' x = κ x) ∧ RowKit.Below w.heap.size w w' := by
 have hle := p2_le n hn
 have n1 : (1 : Int) ≤ (n : Int) := by omega
 have n2 : (n : Int) ≤ 1024 := by omega
 have ea := p2_and n hn
 have ew : wrap64 ((n : Int) - 1) = (n : Int) - 1 := IntWalk.wrap64_in _ ⟨by omega, by omega⟩
 have hmm := @run_makeMap Tryz.prog
 clear hn hle
 go_enter Tryz.func137, Tryz.ntmps137
 go_wp2_with fail
 have H0 := ak (show RelNew κ i n w (w.heap.size + 1) w.heap.size (.int .i64 0) ((w.alloc (.map #[] 0)).alloc (.cells #[.int .i64 n, .map none, .map none, .map none, .map none, .map none, .map none, .map none, .map none, .map none, .map none, .map none, .map (some w.heap.size)] 199)) from by
  refine ⟨0, fun _ => 0, fun x => if x < w.heap.size then κ x else if x = w.heap.size then i + 12 else i, rfl, Nat.zero_le _, ⟨?_, Blk.new1 w _ _ _⟩, fun k hk => absurd hk (Nat.not_lt_zero _), ⟨?_, .map [], (World.ownsMap_made w _ _ _).alloc _, fun k _ => ⟨rfl, rfl⟩⟩, fun x hx => if_pos hx, below_alloc (below_alloc (RowKit.Below.refl _ _) _) _⟩
  ·show (if w.heap.size + 1 < w.heap.size then _ else _) = _
   rw [if_neg (by omega), if_neg (by omega)]
  ·show (if w.heap.size < w.heap.size then _ else _) = _
   rw [if_neg (by omega), if_pos rfl])
 go_loopw [5, 23] (fun _ v23 wr => RelNew κ i n w (w.heap.size + 1) w.heap.size v23 wr) (fun _ v23 _ => 11 - (intOf v23).toNat)
 case atStart => exact H0.1
 case round =>
  clear H0
  obtain ⟨j, m, κ1, rfl, hj, hb, hs, ht, hκ, hB⟩ := hrel
  have HBK := ak hb
  have HS := ak hs
  have HT := ak ht
  have HK := ak hκ
  have HB := ak hB
  by_cases hlt : j < 11
  ·have s0 := (hb.blk.alloc (.map #[] 0)).at (1 + j) _ (budC_at n _ _ j hlt)
   have f0 := (hb.blk.alloc (.map #[] 0)).fz (1 + j)
   simp only [Nat.lt_irrefl, if_false] at s0
   have j0 : (0 : Int) ≤ (j : Int) := by omega
   have jl : (j : Int) < 11 := by omega
   have hj10 : (j : Int) + 1 ≤ 11 := by omega
   have es := shl_64 j hlt
   have hown0 : ((wr.alloc (.map #[] 0)).setCell ⟨w.heap.size + 1, 1 + j, none⟩ (.map (some wr.heap.size))).ownsMap Tryz.prog 3 (plainElem (H := Unit) Tryz.prog 4) wr.heap.size 0 (.map []) :=
    owns_chg (F := (· = w.heap.size + 1)) (World.ownsMap_made _ _ _ _) ((Chg.refl (· = w.heap.size + 1) _).set ⟨w.heap.size + 1, 1 + j, none⟩ (fun _ => rfl) _) (fun e => by have := hb.blk.lt; omega)
   have HO := ak hown0
   clear hb hs ht hκ hB hown0
   by_cases he : 2 ^ j = n
   ·have ec : (wrap64 ((2 : Int) ^ j) == (n : Int)) = true := by rw [es, he]; simp
    have HI := ak (show iniS n j = [0] from if_pos he)
    clear es he
    go_wp2_with (at_mapUpdate; refine wpList_mapUpdate_own _ rfl _ _ _ 196 rfl 3 4 int_law Tryz.underlying196 (plainElem Tryz.prog 4) wr.heap.size 0 (.map []) rfl HO.1 (by decide) _ (.bool true) (.int .i64 ((0 : Nat) : Int)) rfl rfl (keyOf_int_mk Tryz.underlying3 (by decide)) (.lit (.bool true)) [] (plainElem_bool Tryz.underlying4 true) ?_; intro w1 hown1 hg1; have HW := ak (And.intro hown1 hg1); clear hown1 hg1)
    refine ⟨HBK.1.blk.lt |> fun _ => ?_, ?_⟩
    ·have h1 := RelNew.step hlt HBK.1 HS.1 HT.1 HK.1 HB.1 (by omega) (Upd.of_grown HW.1.2 (Kol.ext_new _ (Nat.le_refl _))) ⟨Kol.ext_new _ (Nat.le_refl _), _, by rw [HI.1]; exact HW.1.1, by rw [HI.1]; exact SV.put (s := []) ⟨List.nodup_nil, rfl, fun k _ => ⟨rfl, rfl⟩⟩ tidy_empty 0 (by simp) (by decide) (List.Perm.refl _)⟩ ((RowKit.Below.refl _ _).grown HW.1.2 (by have := HB.1.size; have := setCell_size (wr.alloc (.map #[] 0)) ⟨w.heap.size + 1, 1 + j, none⟩ (.map (some wr.heap.size)); rw [World.size_alloc] at this; omega) (fun k e => by injection e with e; have := HB.1.size; omega))
     exact h1
    ·simp only [intOf]; omega
   ·have ec : (wrap64 ((2 : Int) ^ j) == (n : Int)) = false := by rw [es]; exact beq_eq_false_iff_ne.mpr (fun e => he (by exact_mod_cast e))
    have HI := ak (show iniS n j = [] from if_neg he)
    clear es he
    go_wp2_with fail
    refine ⟨?_, ?_⟩
    ·have h1 := RelNew.step hlt HBK.1 HS.1 HT.1 HK.1 HB.1 (by omega) (Upd.refl _ _ _) ⟨Kol.ext_new _ (Nat.le_refl _), .map [], by rw [HI.1]; exact HO.1, by rw [HI.1]; exact ⟨List.nodup_nil, rfl, fun k _ => ⟨rfl, rfl⟩⟩⟩ (RowKit.Below.refl _ _)
     exact h1
    ·simp only [intOf]; omega
  ·obtain rfl : j = 11 := by omega
   clear hb hs ht hκ hB
   go_wp2_with fail
   go_ret2
   refine ⟨κ1, w.heap.size + 1, rfl, ⟨m, w.heap.size, ?_, fun k hk => HS.1 k hk, HT.1⟩, by omega, HK.1, HB.1⟩
   have := HBK.1
   rw [budC_eq (u := fun k => .map (some (m k))) (fun k hk => if_pos hk)] at this
   exact this
theorem i64o (x : Int) (h0 : -9223372036854775808 ≤ x) (h1 : x ≤ 9223372036854775807) : I64 x := by
 have e1 : IntKind.i64.min = -9223372036854775808 := rfl
 have e2 : IntKind.i64.max = 9223372036854775807 := rfl
 simp [I64, Lit.wf, e1, e2]
 omega
theorem bud_at' (n : Nat) (m : Nat → Nat) (t k : Nat) (hk : k < 11) : (budCells n m t)[1 + k]? = some (.map (some (m k))) := by rw [Nat.add_comm]; exact bud_at n m t k hk
theorem BuddyK.fill {κ : Kol} {i b n c : Nat} {w : World} {fr : Nat → List Nat} {tk : Int → Option Int} (h : BuddyK κ i w b n c fr tk) (k : Nat) (hk : k < 11) (x : Nat) (hx : I64 (x : Int)) (he : fr k = []) :
 ∃ mk w1, w.cell? ⟨b, 1 + k, none⟩ = some (.map (some mk)) ∧ (Instr.mapUpdate 196 (.map (some mk)) (.int .i64 x) (.bool true)).run Tryz.prog w = .ok () w1 ∧ BuddyK κ i w1 b n c (fun j => if j = k then [x] else fr j) tk ∧ Upd (· = i + 1 + k) κ w κ w1 := by
 obtain ⟨m, t, h1, h2, h3⟩ := h
 obtain ⟨hkol, D, hown, hsv⟩ := h2 k hk
 rw [he] at hown hsv
 obtain ⟨w1, hrun, hown1, hg⟩ := hown.update int_law Tryz.underlying196 (by simp [maxLen]) (keyOf_int_mk Tryz.underlying3 hx) (plainElem_bool Tryz.underlying4 true)
 have hU := Upd.of_grown hg hkol
 refine ⟨m k, w1, h1.blk.at (1 + k) _ (bud_at' n m t k hk), hrun, ⟨m, t, h1.upd hU (by omega), fun j hj => ?_, h3.upd hU (by omega)⟩, hU⟩
 by_cases e : j = k
 ·subst e
  rw [if_pos rfl]
  exact ⟨hkol, _, hown1, hsv.put (hown.tidy int_law) x (by simp) hx (List.Perm.refl _)⟩
 ·rw [if_neg e]
  exact (h2 j hj).upd hU (by omega)
theorem BuddyK.drop {κ : Kol} {i b n c : Nat} {w : World} {fr : Nat → List Nat} {tk : Int → Option Int} (h : BuddyK κ i w b n c fr tk) (k : Nat) (hk : k < 11) (x : Nat) (r : List Nat) (hx : I64 (x : Int)) (he : fr k = x :: r) (ty : TypeId) :
 ∃ mk w1, w.cell? ⟨b, 1 + k, none⟩ = some (.map (some mk)) ∧ (Builtin.delete_ #[196, 3] ty #[.map (some mk), .int .i64 x]).run Tryz.prog w = .ok (.tuple #[]) w1 ∧ BuddyK κ i w1 b n c (fun j => if j = k then r else fr j) tk ∧ Upd (· = i + 1 + k) κ w κ w1 := by
 obtain ⟨m, t, h1, h2, h3⟩ := h
 obtain ⟨hkol, D, hown, hsv⟩ := h2 k hk
 rw [he] at hown hsv
 obtain ⟨w1, hrun, hown1, hg⟩ := hown.drop int_law Tryz.underlying196 (keyOf_int_mk Tryz.underlying3 hx) ty
 have hU := Upd.of_turned hg hkol
 refine ⟨m k, w1, h1.blk.at (1 + k) _ (bud_at' n m t k hk), hrun, ⟨m, t, h1.upd hU (by omega), fun j hj => ?_, h3.upd hU (by omega)⟩, hU⟩
 by_cases e : j = k
 ·subst e
  rw [if_pos rfl]
  have hd := hsv.del (hown.tidy int_law) x (by simp) hx
  rw [List.erase_cons_head] at hd
  have ht := own_tight hown1
  rw [hd.size] at ht
  exact ⟨hkol, _, ht, hd⟩
 ·rw [if_neg e]
  exact (h2 j hj).upd hU (by omega)
theorem BuddyK.note {κ : Kol} {i b n c : Nat} {w : World} {fr : Nat → List Nat} {tk : Int → Option Int} (h : BuddyK κ i w b n c fr tk) (x o : Nat) (hx : I64 (x : Int)) (ho : I64 (o : Int)) (hc : c < 1000000) :
 ∃ t w1, w.cell? ⟨b, 12, none⟩ = some (.map (some t)) ∧ (Instr.mapUpdate 127 (.map (some t)) (.int .i64 x) (.int .i64 o)).run Tryz.prog w = .ok () w1 ∧ BuddyK κ i w1 b n (c + 1) fr (putF tk x o) ∧ Upd (· = i + 12) κ w κ w1 := by
 obtain ⟨m, t, h1, h2, hkol, D, hown, hsv⟩ := h
 obtain ⟨w1, hrun, hown1, hg⟩ := hown.update int_law Tryz.underlying127 (by simp only [maxLen]; omega) (keyOf_int_mk Tryz.underlying3 hx) (plainElem_int Tryz.underlying3 ho)
 have hU := Upd.of_grown hg hkol
 exact ⟨t, w1, h1.blk.at 12 _ rfl, hrun, ⟨m, t, h1.upd hU (by omega), fun j hj => (h2 j hj).upd hU (by omega), hkol, _, hown1, hsv.put (hown.tidy int_law).isMap x o⟩, hU⟩
structure BudOK (n : Nat) (fr : Nat → List Nat) : Prop where
 max : n ≤ 1024
 sorted : ∀ k, k < 11 → (fr k).Pairwise (· < ·)
 lt : ∀ k, k < 11 → ∀ x ∈ fr k, x + 2 ^ k ≤ n
 len : ∀ k, k < 11 → (fr k).length ≤ 1024
def frAt (fr : Nat → List Nat) (K at_ kk : Nat) : Nat → List Nat := fun j => if j = K then (fr K).tail else if kk ≤ j ∧ j < K then [at_ + 2 ^ j] else fr j
theorem frAt_start (fr : Nat → List Nat) (K x : Nat) (r : List Nat) (he : fr K = x :: r) : (fun j => if j = K then r else fr j) = frAt fr K x K := by
 funext j
 unfold frAt
 by_cases e : j = K
 ·subst e; simp [he]
 ·simp [e, show ¬ (K ≤ j ∧ j < K) by omega]
theorem frAt_step (fr : Nat → List Nat) (K x kk : Nat) (hk : kk < K) : (fun j => if j = kk then [x + 2 ^ kk] else frAt fr K x (kk + 1) j) = frAt fr K x kk := by
 funext j
 unfold frAt
 by_cases e : j = kk
 ·subst e; simp [show j ≠ K by omega, hk]
 ·by_cases e2 : j = K
  ·subst e2; simp [e]
  ·by_cases e3 : kk ≤ j ∧ j < K
   ·simp [e, e2, e3, show kk + 1 ≤ j by omega]
   ·simp [e, e2, e3, show ¬ (kk + 1 ≤ j ∧ j < K) by omega]
theorem above_is {fr : Nat → List Nat} {o K : Nat} {r : Option Nat} (hmin : ∀ j, o ≤ j → j < K → fr j = []) (hn : fr K ≠ []) (ho : o ≤ K) (hK : K < 11) (h : aboveOf fr o r) : r = some K := by
 cases r with
 | none => exact absurd (h K ho hK) hn
 | some k =>
  obtain ⟨h1, h2, h3, h4⟩ := h
  rcases Nat.lt_trichotomy k K with e | e | e
  ·exact absurd (hmin k h1 e) h3
  ·rw [e]
  ·exact absurd (h4 K ho e) hn
def RelTk (κ : Kol) (i b n c o K x : Nat) (fr : Nat → List Nat) (tk : Int → Option Int) (w : World) (v6 : Value) (wr : World) : Prop :=
 ∃ kk : Nat, v6 = .int .i64 kk ∧ o ≤ kk ∧ kk ≤ K ∧ BuddyK κ i wr b n c (frAt fr K x kk) tk ∧ Upd (fun y => i < y ∧ y < i + 12) κ w κ wr
theorem pow_le11 : ∀ j : Nat, j < 11 → 2 ^ j ≤ 1024 := by decide
theorem take_bud [SortI] (κ : Kol) (i b n c o K x : Nat) (r : List Nat) (fr : Nat → List Nat) (tk : Int → Option Int) (ho : o ≤ K) (hK : K < 11) (hx : fr K = x :: r) (hmin : ∀ j, o ≤ j → j < K → fr j = []) (hok : BudOK n fr) (hc : c < 1000000) (w : World) (h : BuddyK κ i w b n c fr tk) :
 Calls Tryz.prog 155 #[.pointer (some ⟨b, 0, none⟩), .int .i64 o] w fun e w' => e = .returned (.tuple #[.int .i64 x, .int .i64 0]) ∧ BuddyK κ i w' b n (c + 1) (frAt fr K x o) (putF tk x o) ∧ Upd (fun y => i < y ∧ y < i + 13) κ w κ w' := by
 have hxl := hok.lt K hK x (by rw [hx]; simp)
 have hmx := hok.max
 have hpK := Nat.one_le_two_pow (n := K)
 have HR := ak (right_own b o (by omega) w)
 have HA := ak (above_own κ i b n c o fr tk (by omega) w h)
 have HF := ak (first_own κ i b n c K fr tk hK x r hx (hok.sorted K hK) (by have := hok.len K hK; omega) (fun y hy => i64o _ (by omega) (by have := hok.lt K hK y hy; omega)) w h)
 have HBK := ak h
 have HM := ak hmin
 have HX := ak hx
 have hx1 : x < 1024 := by omega
 have HXL := ak (show x + 2 ^ K ≤ 1024 by omega)
 clear h hmin hok hxl hmx hpK
 go_enter Tryz.func155, Tryz.ntmps155
 go_wp2_with (first | (go_at_call 129; (with_reducible refine HR.1.mono ?_); rintro e_ w1 ⟨rfl, rfl⟩) | (go_at_call 130; (with_reducible refine HA.1.mono ?_); rintro e_ w1 ⟨r1, rfl, hr, rfl⟩; obtain rfl : r1 = some K := above_is HM.1 (by rw [HX.1]; simp) ho hK hr; clear hr) | (go_at_call 197; (with_reducible refine HF.1.mono ?_); rintro e_ w2 ⟨rfl, hb2⟩; have HB2 := ak hb2; obtain ⟨mk, w3, s0, hdel, hbud, hu3⟩ := (HBK.1.upd (I := fun _ => False) (Upd.of_below κ hb2) (fun _ _ h => h)).drop K hK x r (i64o _ (by omega) (by omega)) HX.1 0; have HB3 := ak hbud; have HU3 := ak hu3; clear hb2 hbud hu3))
 have H0 := ak (show RelTk κ i b n c o K x fr tk w1 (.int .i64 K) w3 from ⟨K, rfl, ho, Nat.le_refl _, by rw [← frAt_start fr K x r HX.1]; exact HB3.1, (Upd.of_below κ HB2.1).then HU3.1 (fun y e => by omega)⟩)
 clear HB3 HU3 HBK
 go_loopw [6] (fun v6 wr => RelTk κ i b n c o K x fr tk w1 v6 wr) (fun v6 _ => (intOf v6).toNat)
 case atStart => exact H0.1
 case round =>
  clear H0 s0
  obtain ⟨kk, rfl, hk1, hk2, hbud, hu⟩ := hrel
  have HBK := ak hbud
  have HU := ak hu
  clear hbud hu
  by_cases hlt : o < kk
  ·obtain ⟨jj, rfl⟩ : ∃ jj, kk = jj + 1 := ⟨kk - 1, by omega⟩
   have hltI : (o : Int) < (jj : Int) + 1 := by omega
   have e1 : wrap64 ((jj : Int) + 1 - 1) = (jj : Int) := by rw [show (jj : Int) + 1 - 1 = jj by omega]; exact IntWalk.wrap64_in _ ⟨by omega, by omega⟩
   have e0 : wrap64 (jj : Int) = (jj : Int) := IntWalk.wrap64_in _ ⟨by omega, by omega⟩
   have es := shl_64 jj (by omega)
   obtain ⟨mk, hmk⟩ : ∃ mk, wr.cell? ⟨b, 1 + jj, none⟩ = some (.map (some mk)) := by obtain ⟨m, t, h1, _⟩ := HBK.1; exact ⟨_, h1.blk.at (1 + jj) _ (bud_at' n m t jj (by omega))⟩
   have hq1 := pow_le11 jj (by omega)
   obtain ⟨q, hq⟩ : ∃ q, 2 ^ jj = q := ⟨_, rfl⟩
   rw [hq] at es hq1
   have HQ := ak hq
   have hI := i64o ((x + q : Nat) : Int) (by omega) (by omega)
   have HI := ak hI
   have j0 : (0 : Int) ≤ (jj : Int) := by omega
   have jl : (jj : Int) < 11 := by omega
   have ea : wrap64 ((x : Int) + (q : Int)) = ((x + q : Nat) : Int) := by rw [show (x : Int) + (q : Int) = ((x + q : Nat) : Int) by omega]; exact IntWalk.wrap64_in _ ⟨by omega, by omega⟩
   clear hq hq1 hI
   go_upto_region 10 with fail
   refine st_ 13 (fun w' => w'.cell? ⟨b, 1 + jj, none⟩ = some (.map (some mk))) [12] (hmk) (fun hHeld => ?_)
   have hd_ := below_drew (RowKit.Below.refl wr.heap.size wr)
   have n0_ := ak (HBK.1.upd (I := fun _ => False) (Upd.of_below κ hd_) (fun _ _ h => h))
   have n1_ := ak (HU.1.below hd_)
   clear HBK HU hd_
   generalize wr.drew = wd at *
   obtain ⟨mk2, w5, t0, hrun, hbud, hu5⟩ := n0_.out.fill jj (by omega) (x + q) HI.1 (by unfold frAt; rw [if_neg (by omega), if_neg (by omega)]; exact HM.1 jj (by omega) (by omega))
   obtain rfl : mk2 = mk := by have e_ := hHeld.symm.trans t0; injection e_ with e_; injection e_ with e_; injection e_ with e_; exact e_.symm
   clear t0
   rw [Int.natCast_add] at hrun
   have HB5 := ak hbud
   have HU5 := ak hu5
   clear hbud hu5
   refine pu_ 0 36 1 ?_
   refine pu_ 1 37 3 ?_
   refine pu_ 2 38 7 ?_
   refine pu_ 3 39 15 ?_
   refine pu_ 4 40 31 ?_
   refine pu_ 5 41 63 ?_
   refine pu_ 7 43 191 ?_
   refine pu_ 8 44 447 ?_
   refine pu_ 9 45 959 ?_
   refine pu_ 10 46 1983 ?_
   refine pu_ 11 47 4031 ?_
   refine ta_ 6 42 4095 hHeld ?_
   refine last_ (i := 12) (N := none) (bz 13 8191) rfl rfl (by kernel_rfl) (by decide) (fun K hK => ?_)
   refine skip_ (w1 := ?_) (by rfl) rfl ?_ ?_
   rotate_left
   ·go_simp
    rfl
   refine hK.out _ _ ?_
   clear hK K
   refine done_ (by kernel_rfl) ?_
   go_wp2_with fail
   refine ⟨⟨jj, by simp, by omega, by omega, ?_, n1_.out.then HU5.1 (fun y e => by omega)⟩, ?_⟩
   ·rw [← frAt_step fr K x jj (by omega), HQ.1]
    exact HB5.1
   ·simp only [intOf]; omega
  ·obtain rfl : kk = o := by omega
   obtain ⟨t, w6, s12, hrun6, hb6, hu6⟩ := HBK.1.note x kk (i64o _ (by omega) (by omega)) (i64o _ (by omega) (by omega)) hc
   have HB6 := ak hb6
   have HU6 := ak hu6
   clear hb6 hu6 HBK
   go_wp2_with fail
   go_ret2
   exact ⟨rfl, HB6.1, (HU.1.mono (J := fun y => i < y ∧ y < i + 13) (fun y e => by omega)).then HU6.1 (fun y e => by omega)⟩
def freeS (fr : Nat → List Nat) : Nat → Nat
 | 0 => 0
 | k + 1 => freeS fr k + (fr k).length * 2 ^ k
theorem freeS_le {fr : Nat → List Nat} (h : ∀ k, k < 11 → (fr k).length ≤ 1024) : ∀ k, k ≤ 11 → freeS fr k ≤ 1024 * 2 ^ k
 | 0, _ => by simp [freeS]
 | k + 1, hk => by
  have h1 := freeS_le h k (by omega)
  have h2 : (fr k).length * 2 ^ k ≤ 1024 * 2 ^ k := Nat.mul_le_mul_right _ (h k (by omega))
  rw [freeS, Nat.pow_succ]
  omega
theorem idx_free (m : Nat → Nat) (j : Nat) (hj : j < 11) (w : World) : (Instr.index 197 (.agg #[.map (some (m 0)), .map (some (m 1)), .map (some (m 2)), .map (some (m 3)), .map (some (m 4)), .map (some (m 5)), .map (some (m 6)), .map (some (m 7)), .map (some (m 8)), .map (some (m 9)), .map (some (m 10))]) (.int .i64 (j : Int))).run Tryz.prog w = .ok (.map (some (m j))) w := by
 match j, hj with
 | 0, _ => simp [Instr.index, run_underlying Tryz.underlying197, asIntOf, part, Tryz.sizeOf196, Tryz.isAgg196]
 | 1, _ => simp [Instr.index, run_underlying Tryz.underlying197, asIntOf, part, Tryz.sizeOf196, Tryz.isAgg196]
 | 2, _ => simp [Instr.index, run_underlying Tryz.underlying197, asIntOf, part, Tryz.sizeOf196, Tryz.isAgg196]
 | 3, _ => simp [Instr.index, run_underlying Tryz.underlying197, asIntOf, part, Tryz.sizeOf196, Tryz.isAgg196]
 | 4, _ => simp [Instr.index, run_underlying Tryz.underlying197, asIntOf, part, Tryz.sizeOf196, Tryz.isAgg196]
 | 5, _ => simp [Instr.index, run_underlying Tryz.underlying197, asIntOf, part, Tryz.sizeOf196, Tryz.isAgg196]
 | 6, _ => simp [Instr.index, run_underlying Tryz.underlying197, asIntOf, part, Tryz.sizeOf196, Tryz.isAgg196]
 | 7, _ => simp [Instr.index, run_underlying Tryz.underlying197, asIntOf, part, Tryz.sizeOf196, Tryz.isAgg196]
 | 8, _ => simp [Instr.index, run_underlying Tryz.underlying197, asIntOf, part, Tryz.sizeOf196, Tryz.isAgg196]
 | 9, _ => simp [Instr.index, run_underlying Tryz.underlying197, asIntOf, part, Tryz.sizeOf196, Tryz.isAgg196]
 | 10, _ => simp [Instr.index, run_underlying Tryz.underlying197, asIntOf, part, Tryz.sizeOf196, Tryz.isAgg196]
def RelFr (w : World) (fr : Nat → List Nat) (v3 v12 : Value) (wr : World) : Prop := wr = w ∧ ∃ j : Nat, v12 = .int .i64 j ∧ v3 = .int .i64 (freeS fr j) ∧ j ≤ 11
theorem free_bud (κ : Kol) (i b n c : Nat) (fr : Nat → List Nat) (tk : Int → Option Int) (hl : ∀ k, k < 11 → (fr k).length ≤ 1024) (w : World) (h : BuddyK κ i w b n c fr tk) :
 Calls Tryz.prog 75 #[.pointer (some ⟨b, 0, none⟩)] w fun e w' => e = .returned (.int .i64 (freeS fr 11)) ∧ w' = w := by
 obtain ⟨m, t, h1, h2, h3⟩ := h
 have s1 := h1.blk.at 1 (.map (some (m 0))) rfl
 have s2 := h1.blk.at 2 (.map (some (m 1))) rfl
 have s3 := h1.blk.at 3 (.map (some (m 2))) rfl
 have s4 := h1.blk.at 4 (.map (some (m 3))) rfl
 have s5 := h1.blk.at 5 (.map (some (m 4))) rfl
 have s6 := h1.blk.at 6 (.map (some (m 5))) rfl
 have s7 := h1.blk.at 7 (.map (some (m 6))) rfl
 have s8 := h1.blk.at 8 (.map (some (m 7))) rfl
 have s9 := h1.blk.at 9 (.map (some (m 8))) rfl
 have s10 := h1.blk.at 10 (.map (some (m 9))) rfl
 have s11 := h1.blk.at 11 (.map (some (m 10))) rfl
 have HS := ak h2
 have HL := ak hl
 have HI := ak (idx_free m)
 clear h1 h2 h3 hl
 go_enter Tryz.func75, Tryz.ntmps75
 go_wp2_with fail
 have H0 := ak (show RelFr w fr (.int .i64 0) (.int .i64 0) w from ⟨rfl, 0, rfl, rfl, by omega⟩)
 clear s1 s2 s3 s4 s5 s6 s7 s8 s9 s10 s11
 go_loopw [3, 4, 5, 12] (fun v3 _ _ v12 wr => RelFr w fr v3 v12 wr) (fun _ _ _ v12 _ => 11 - (intOf v12).toNat)
 case atStart => exact H0.1
 case round =>
  clear H0
  obtain ⟨rfl, j, rfl, rfl, hj⟩ := hrel
  by_cases hlt : j < 11
  ·have hltI : (j : Int) < 11 := by omega
   have j0 : (0 : Int) ≤ (j : Int) := by omega
   have hidx := HI.1 j hlt
   have hlen := (HS.1 j hlt).len
   have hle := HL.1 j hlt
   have hp := pow_le11 j hlt
   have hfl := freeS_le HL.1 j (by omega)
   have HF := ak (show freeS fr (j + 1) = freeS fr j + (fr j).length * 2 ^ j from rfl)
   obtain ⟨q, hq⟩ : ∃ q, (fr j).length = q := ⟨_, rfl⟩
   obtain ⟨a, ha⟩ : ∃ a, freeS fr j = a := ⟨_, rfl⟩
   have hm : q * 2 ^ j ≤ 1024 * 1024 := by rw [← hq]; exact Nat.mul_le_mul hle hp
   rw [hq] at hlen hle HF
   rw [ha] at hfl HF ⊢
   have hfl2 : a ≤ 1048576 := Nat.le_trans hfl (Nat.mul_le_mul_left 1024 hp)
   clear hfl hp ha hq
   go_wp2_with fail
   have c1 : (q : Int) * 2 ^ j = ((q * 2 ^ j : Nat) : Int) := by rw [Int.natCast_mul, Int.natCast_pow]; rfl
   obtain ⟨z, hz⟩ : ∃ z, q * 2 ^ j = z := ⟨_, rfl⟩
   rw [c1, hz, IntWalk.wrap64_in (z : Int) ⟨by omega, by omega⟩, IntWalk.wrap64_in ((a : Int) + (z : Int)) ⟨by omega, by omega⟩]
   refine ⟨⟨rfl, j + 1, by simp, ?_, by omega⟩, ?_⟩
   ·rw [HF.1, hz]; simp
   ·simp only [intOf]; omega
  ·obtain rfl : j = 11 := by omega
   go_wp2_with fail
   go_ret
   exact ⟨rfl, rfl⟩
def KR {α : Type} (d : Kd α) (e : Nat) (κ : Kol) (i : Nat) (w : World) (v : Value) (xs : List α) : Prop := Kd.R d e w 0 (fun k => κ k = i) v xs
section
variable {α : Type} {d : Kd α} {e : Nat} {κ κ1 : Kol} {i : Nat} {w w1 : World} {v : Value} {xs : List α} {I : Nat → Prop}
theorem KR.upd (h : KR d e κ i w v xs) (k : Upd I κ w κ1 w1) (hi : ¬ I i) : KR d e κ1 i w1 v xs :=
 Kd.R_mono (Kd.R_move (Kd.R_bound h) (fun b hb => k.chg.block b hb.2.2.1 (fun hI => hi (hb.1 ▸ hI)))) (fun b hb => (k.kol b hb.2.2.1).trans hb.1)
theorem KR.below (h : KR d e κ i w v xs) (k : RowKit.Below w.heap.size w w1) : KR d e κ i w1 v xs := h.upd (I := fun _ => False) (Upd.of_below κ k) (fun h => h)
theorem KR.nil (d : Kd α) (e : Nat) (κ : Kol) (i : Nat) (w : World) : KR d e κ i w (.slice none 0 0) [] := Kd.R_nil d e w 0 _
theorem KR.reads (h : KR d e κ i w v xs) : ∃ A c, v = .slice A xs.length c ∧ xs.length ≤ c ∧ d.C w A xs.length xs := Kd.R_reads h
theorem KR.made {base : Nat} {ok : Nat → Prop} (h : Kd.R d e w base ok v xs) (hk : ∀ b, base ≤ b → b < w.heap.size → κ b = i) : KR d e κ i w v xs :=
 Kd.R_lower (Kd.R_mono (Kd.R_bound h) (fun b hb => hk b hb.2.1 hb.2.2.1)) (Nat.zero_le _)
theorem KR.ext (h : KR d e κ i w v xs) : Kd.R d e w 0 (fun k => κ.ext w.heap.size i k = i) v xs := Kd.R_mono (Kd.R_bound h) (fun b hb => (Kol.ext_old κ hb.2.2.1).trans hb.1)
theorem KR.upd_grown (h : KR d e κ i w v xs) (hg : w.grownBy w1 v.ownBlock) : Upd (· = i) κ w (κ.ext w.heap.size i) w1 :=
 ⟨fun b hb => Kol.ext_old κ hb, ⟨hg.os, hg.tape, hg.output, hg.size, fun b hb hne => hg.block b hb (fun e => hne (h.1 b e.symm))⟩⟩
end
def ptrElem (v : Value) : Option (DataW Unit × List MemPlace) := match v with
 | .pointer none => some (.lit (.int .i64 (-1)), [])
 | .pointer (some ⟨b, 0, none⟩) => some (.lit (.int .i64 (b : Int)), [])
 | _ => none
theorem ptr_inv {v : Value} {ps : List MemPlace} {x : Int} (h : ptrElem v = some (.lit (.int .i64 x), ps)) : (v = .pointer none ∧ x = -1) ∨ ∃ b : Nat, v = .pointer (some ⟨b, 0, none⟩) ∧ x = b := by
 unfold ptrElem at h
 split at h
 ·simp at h; exact .inl ⟨rfl, h.1.symm⟩
 ·rename_i b; simp at h; exact .inr ⟨b, rfl, h.1.symm⟩
 ·simp at h
def ptrI (o : Option Nat) : Int := match o with
 | none => -1
 | some b => b
def ptrV (o : Option Nat) : Value := .pointer (o.map fun b => ⟨b, 0, none⟩)
def ViewP (D : DataW Unit) (f : Int → Option Nat) : Prop := ∀ k, I64 k → Maps.has D (.int .i64 k) = (f k).isSome ∧ D.atKey (.int .i64 k) (.lit (.int .i64 (-1))) = .lit (.int .i64 (ptrI (f k)))
def outP (f : Int → Option Nat) (k : Int) : Int → Option Nat := fun x => if x = k then none else f x
def putP (f : Int → Option Nat) (k : Int) (v : Nat) : Int → Option Nat := fun x => if x = k then some v else f x
theorem ViewP.del {D : DataW Unit} {f : Int → Option Nat} (h : ViewP D f) (k : Int) : ViewP (D.del (.int .i64 k)) (outP f k) := by
 intro x hx
 unfold outP
 by_cases e : x = k
 ·subst e
  rw [if_pos rfl]
  exact ⟨has_del_same, atKey_del_same _⟩
 ·rw [if_neg e, has_del_other (key_ne e), atKey_del_other (key_ne e)]
  exact h x hx
theorem ViewP.put {D : DataW Unit} {f : Int → Option Nat} (h : ViewP D f) (hD : IsMap D) (k : Int) (v : Nat) : ViewP (D.put (.int .i64 k) (.lit (.int .i64 (v : Int)))) (putP f k v) := by
 intro x hx
 unfold putP
 by_cases e : x = k
 ·subst e
  rw [if_pos rfl, has_put_same hD (key_lit _), atKey_put_same hD (key_lit _)]
  exact ⟨rfl, rfl⟩
 ·rw [if_neg e, has_put_other (key_ne e), atKey_put_other (key_ne e)]
  exact h x hx
structure MapP (κ : Kol) (i : Nat) (w : World) (b n : Nat) (f : Int → Option Nat) : Prop where
 kol : κ b = i
 own : ∃ D : DataW Unit, w.ownsMap Tryz.prog 3 ptrElem b n D ∧ ViewP D f
section
variable {I : Nat → Prop} {κ κ1 : Kol} {w w1 : World} {i b n : Nat} {f : Int → Option Nat}
theorem MapP.upd (h : MapP κ i w b n f) (k : Upd I κ w κ1 w1) (hi : ¬ I i) : MapP κ1 i w1 b n f := by
 obtain ⟨hk, D, h1, h2⟩ := h
 exact ⟨(k.kol b h1.lt).trans hk, D, owns_chg h1 k.chg (fun e => hi (hk ▸ e)), h2⟩
theorem MapP.below (h : MapP κ i w b n f) (k : RowKit.Below w.heap.size w w1) : MapP κ i w1 b n f := h.upd (I := fun _ => False) (Upd.of_below κ k) (fun h => h)
end
theorem w64 (x : Int) (h : 0 ≤ x ∧ x ≤ 1000000) : wrap64 x = x := IntWalk.wrap64_in _ ⟨by omega, by omega⟩
def pk : Kd Nat := Kd.scalar (fun b : Nat => Value.pointer (some ⟨b, 0, none⟩)) (fun _ => rfl)
theorem pk_at {w : World} {A : Option Addr} {n : Nat} {xs : List Nat} (h : pk.C w A n xs) (i : Nat) (hi : i < n) (b : Nat) (hb : xs[i]? = some b) : ∃ ad, A = some ad ∧ w.cell? (ad.add i) = some (.pointer (some ⟨b, 0, none⟩)) := by
 obtain ⟨ad, c, e, hl, hK, hc⟩ := Kd.C_get h 0 (i : Int) (by omega) (by omega)
 refine ⟨ad, e, ?_⟩
 have hK' : c = [Value.pointer (some ⟨xs.getD (i : Int).toNat 0, 0, none⟩)] := hK
 rw [Int.toNat_natCast, List.getD_eq_getElem?_getD, hb] at hK'
 have := hc 0 (.pointer (some ⟨b, 0, none⟩)) (by rw [hK']; rfl)
 simpa [show pk.sz = 1 from rfl] using this
structure Bud where
 c : Nat
 fr : Nat → List Nat
 tk : Int → Option Int
structure HeapK (κ : Kol) (i : Nat) (w : World) (b each : Nat) (mn lo hi : Int) (bs : List Bud) : Prop where
 row : ∃ v ps, BlkK κ i w b #[.int .i64 each, .int .i64 mn, .int .i64 lo, .int .i64 hi, v] 147 ∧ KR pk 143 κ (i + 1) w v ps ∧ ps.length = bs.length ∧ ∀ j x, bs[j]? = some x → ∃ p, ps[j]? = some p ∧ BuddyK κ (i + 2 + 13 * j) w p each x.c x.fr x.tk
theorem HeapK.upd {I : Nat → Prop} {κ κ1 : Kol} {i b each : Nat} {mn lo hi : Int} {w w1 : World} {bs : List Bud} (h : HeapK κ i w b each mn lo hi bs) (k : Upd I κ w κ1 w1) (hi' : ∀ c, c < 2 + 13 * bs.length → ¬ I (i + c)) : HeapK κ1 i w1 b each mn lo hi bs := by
 obtain ⟨v, ps, h1, h2, h3, h4⟩ := h
 refine ⟨v, ps, h1.upd k (hi' 0 (by omega)), h2.upd k (hi' 1 (by omega)), h3, fun j x hx => ?_⟩
 obtain ⟨p, hp, hb⟩ := h4 j x hx
 have hj := (List.getElem?_eq_some_iff.1 hx).1
 exact ⟨p, hp, hb.upd k (fun c hc => by have := hi' (2 + 13 * j + c) (by omega); rwa [show i + (2 + 13 * j + c) = i + 2 + 13 * j + c by omega] at this)⟩
theorem heap_at (κ : Kol) (i b each : Nat) (mn lo hi : Int) (v : Value) (ps : List Nat) (j p : Nat) (hp : ps[j]? = some p) (hl : ps.length ≤ 1000) (w : World) (h1 : BlkK κ i w b #[.int .i64 each, .int .i64 mn, .int .i64 lo, .int .i64 hi, v] 147) (h2 : KR pk 143 κ (i + 1) w v ps) :
 Calls Tryz.prog 74 #[.pointer (some ⟨b, 0, none⟩), .int .i64 j] w fun e w' => e = .returned (.pointer (some ⟨p, 0, none⟩)) ∧ w' = w := by
 have hj := (List.getElem?_eq_some_iff.1 hp).1
 obtain ⟨A, c, rfl, hle, hC⟩ := h2.reads
 obtain ⟨ad, rfl, q0⟩ := pk_at hC j (by omega) p hp
 have s4 := h1.blk.at 4 _ rfl
 obtain ⟨m, hm⟩ : ∃ m, ps.length = m := ⟨_, rfl⟩
 have s5 : w.cell? ⟨b, 4, none⟩ = some (.slice (some ad) m c) := by rw [← hm]; exact s4
 have j0 : (0 : Int) ≤ (j : Int) := by omega
 have jI : (j : Int) < (m : Int) := by omega
 have d0 : decide ((j : Int) < 0) = false := decide_eq_false (by omega)
 have d1 : decide (m ≤ j) = false := decide_eq_false (by omega)
 clear h1 h2 hC s4 hle hm hp
 go_enter Tryz.func74, Tryz.ntmps74
 go_wp2_with fail
 go_ret
 exact ⟨rfl, rfl⟩
theorem heap_node (κ : Kol) (i b each : Nat) (mn lo hi : Int) (bs : List Bud) (j : Nat) (x : Bud) (hx : bs[j]? = some x) (hl : bs.length ≤ 1000) (w : World) (h : HeapK κ i w b each mn lo hi bs) :
 Calls Tryz.prog 74 #[.pointer (some ⟨b, 0, none⟩), .int .i64 j] w fun e w' => ∃ p, e = .returned (.pointer (some ⟨p, 0, none⟩)) ∧ BuddyK κ (i + 2 + 13 * j) w p each x.c x.fr x.tk ∧ w' = w := by
 obtain ⟨v, ps, h1, h2, h3, h4⟩ := h
 obtain ⟨p, hp, hb⟩ := h4 j x hx
 exact (heap_at κ i b each mn lo hi v ps j p hp (by omega) w h1 h2).mono (by rintro e w' ⟨rfl, rfl⟩; exact ⟨p, rfl, hb, rfl⟩)
def aboveN (fr : Nat → List Nat) (o : Nat) : Option Nat := (List.range 11).find? fun k => decide (o ≤ k) && decide (fr k ≠ [])
theorem range_split : ∀ k : Nat, k < 11 → List.range 11 = List.range k ++ k :: List.range' (k + 1) (10 - k) := by decide
theorem above_n {fr : Nat → List Nat} {o : Nat} {r : Option Nat} (h : aboveOf fr o r) : r = aboveN fr o := by
 unfold aboveN
 symm
 cases r with
 | none =>
  rw [List.find?_eq_none]
  intro k hk
  rw [List.mem_range] at hk
  by_cases e : o ≤ k
  ·simp [h k e hk]
  ·simp [e]
 | some k =>
  obtain ⟨h1, h2, h3, h4⟩ := h
  rw [List.find?_eq_some_iff_append]
  refine ⟨by simp [h1, h3], List.range k, (List.range' (k + 1) (10 - k)), ?_, ?_⟩
  ·exact range_split k h2
  ·intro j hj
   rw [List.mem_range] at hj
   by_cases e : o ≤ j
   ·simp [h4 j e hj]
   ·simp [e]
theorem above_of (fr : Nat → List Nat) (o : Nat) : ∃ r, aboveOf fr o r := by
 by_cases h : ∃ k, o ≤ k ∧ k < 11 ∧ fr k ≠ []
 ·have hw : ∀ m, (∃ k, o ≤ k ∧ k < m ∧ fr k ≠ []) → m ≤ 11 → ∃ k, o ≤ k ∧ k < 11 ∧ fr k ≠ [] ∧ ∀ j, o ≤ j → j < k → fr j = [] := by
   intro m
   induction m with
   | zero => rintro ⟨k, _, hk, _⟩; omega
   | succ m ih =>
    rintro ⟨k, h1, h2, h3⟩ hm
    by_cases he : ∃ k, o ≤ k ∧ k < m ∧ fr k ≠ []
    ·exact ih he (by omega)
    ·have hkm : k = m := by
      rcases Nat.lt_or_ge k m with h4 | h4
      ·exact absurd ⟨k, h1, h4, h3⟩ he
      ·omega
     subst hkm
     exact ⟨k, h1, by omega, h3, fun j h5 h6 => Classical.byContradiction fun h7 => he ⟨j, h5, h6, h7⟩⟩
  obtain ⟨k, h1, h2, h3⟩ := h
  obtain ⟨k, h⟩ := hw 11 ⟨k, h1, h2, h3⟩ (Nat.le_refl _)
  exact ⟨some k, h⟩
 ·exact ⟨none, fun j h1 h2 => Classical.byContradiction fun h3 => h ⟨j, h1, h2, h3⟩⟩
def mayB (mn : Int) (x : Bud) (o : Nat) : Bool := (aboveN x.fr o).isSome && decide ((freeS x.fr 11 : Int) - ((2 ^ o : Nat) : Int) ≥ mn)
theorem below_of (κ : Kol) {w w1 : World} (h : RowKit.Below w.heap.size w w1) {i b each : Nat} {mn lo hi : Int} {bs : List Bud} (hb : HeapK κ i w b each mn lo hi bs) : HeapK κ i w1 b each mn lo hi bs := hb.upd (I := fun _ => False) (Upd.of_below κ h) (fun _ _ h => h)
theorem has_is (κ : Kol) (i b n c o : Nat) (fr : Nat → List Nat) (tk : Int → Option Int) (ho : o < 11) (w : World) (h : BuddyK κ i w b n c fr tk) :
 Calls Tryz.prog 76 #[.pointer (some ⟨b, 0, none⟩), .int .i64 o] w fun e w' => e = .returned (.bool (aboveN fr o).isSome) ∧ w' = w :=
 (has_own κ i b n c o fr tk ho w h).mono (by rintro e w' ⟨r, rfl, hr, rfl⟩; rw [above_n hr]; exact ⟨rfl, rfl⟩)
theorem heap_may (κ : Kol) (i b each : Nat) (mn lo hi : Int) (bs : List Bud) (j o : Nat) (ho : o < 11) (x : Bud) (hx : bs[j]? = some x) (hl : bs.length ≤ 1000) (hf : ∀ k, k < 11 → (x.fr k).length ≤ 1024) (hmn : -100000 ≤ mn) (w : World) (h : HeapK κ i w b each mn lo hi bs) :
 Calls Tryz.prog 31 #[.pointer (some ⟨b, 0, none⟩), .int .i64 j, .int .i64 o] w fun e w' => e = .returned (.bool (mayB mn x o)) ∧ RowKit.Below w.heap.size w w' := by
 have HN := ak (heap_node κ i b each mn lo hi bs j x hx hl w h)
 obtain ⟨v, ps, h1, h2, h3, h4⟩ := h
 have HBX := ak h1
 obtain ⟨r, hr⟩ : ∃ r, (aboveN x.fr o).isSome = r := ⟨_, rfl⟩
 have hfl := freeS_le hf 11 (Nat.le_refl _)
 have hp := pow_le11 o ho
 have es := shl_64 o ho
 have HHA := ak (fun (W : World) (p : Nat) (hW : BuddyK κ (i + 2 + 13 * j) W p each x.c x.fr x.tk) => by have := has_is κ (i + 2 + 13 * j) p each x.c o x.fr x.tk ho W hW; rw [hr] at this; exact this)
 have HFR := ak (fun (W : World) (p : Nat) (hW : BuddyK κ (i + 2 + 13 * j) W p each x.c x.fr x.tk) => free_bud κ (i + 2 + 13 * j) p each x.c x.fr x.tk hf W hW)
 obtain ⟨a, ha⟩ : ∃ a, freeS x.fr 11 = a := ⟨_, rfl⟩
 obtain ⟨q, hq⟩ : ∃ q, 2 ^ o = q := ⟨_, rfl⟩
 have HM := ak (show mayB mn x o = (r && decide ((a : Int) - (q : Int) ≥ mn)) from by unfold mayB; rw [hr, ha, hq])
 rw [ha] at hfl HFR
 rw [hq] at hp es
 have ew : wrap64 ((a : Int) - (q : Int)) = (a : Int) - (q : Int) := IntWalk.wrap64_in _ ⟨by omega, by omega⟩
 clear h1 h2 h3 h4 hf hfl hp ha hq hr
 rw [HM.1]
 clear HM
 go_enter Tryz.func31, Tryz.ntmps31
 go_upto_region 2 with (go_at_call 74; (with_reducible refine HN.1.mono ?_); rintro e_ w1 ⟨p, rfl, q1, rfl⟩; have HB := ak q1; clear q1)
 have s1 := HBX.1.blk.at 1 (.int .i64 mn) rfl
 cases r
 ·refine st_ 17 (fun w' => w'.cell? ⟨b, 1, none⟩ = some (.int .i64 mn)) [] (s1) (fun hHeld => ?_)
  have hd_ := below_drew (RowKit.Below.refl w1.heap.size w1)
  have HD := ak hd_
  have n0_ := ak (HB.1.upd (I := fun _ => False) (Upd.of_below κ hd_) (fun _ _ h => h))
  clear HB HBX hd_
  generalize w1.drew = wd at *
  refine pu_ 0 11 1 ?_
  refine pu_ 1 12 3 ?_
  refine one_ (i := 2) (N := some 13) (bz 17 7) rfl rfl (by kernel_rfl) (by decide) (fun K hK => ?_)
  refine goes_ Tryz.func76 (by kernel_rfl) rfl #[.pointer (some ⟨p, 0, none⟩), .int .i64 o] (by rfl) rfl rfl (by simp only [List.map_toArray, List.map_cons, List.map_nil]; rfl) ?_
  with_reducible refine (HHA.1 _ p n0_.out).mono ?_
  rintro e_ w3 ⟨rfl, rfl⟩
  refine ⟨_, rfl, ?_⟩
  refine hK.out _ _ (hHeld) (fun hHeld => ?_)
  clear hK K
  refine no_ 13 ?_
  refine pu_ 3 14 15 ?_
  refine po_ 4 15 31 ?_
  refine po_ 5 16 63 ?_
  refine po_ 6 17 127 ?_
  refine po_ 7 18 255 ?_
  refine po_ 8 19 511 ?_
  refine po_ 9 20 1023 ?_
  refine po_ 10 21 2047 ?_
  refine po_ 11 22 4095 ?_
  refine po_ 12 23 8191 ?_
  refine po_ 13 24 16383 ?_
  refine po_ 14 25 32767 ?_
  refine pu_ 15 26 65535 ?_
  refine pu_ 16 6 131071 ?_
  refine done_ (by kernel_rfl) ?_
  go_wp2_with fail
  go_ret
  exact ⟨rfl, HD.1⟩
 ·refine st_ 17 (fun w' => w'.cell? ⟨b, 1, none⟩ = some (.int .i64 mn)) [] (s1) (fun hHeld => ?_)
  have hd_ := below_drew (RowKit.Below.refl w1.heap.size w1)
  have HD := ak hd_
  have n0_ := ak (HB.1.upd (I := fun _ => False) (Upd.of_below κ hd_) (fun _ _ h => h))
  clear HB HBX hd_
  generalize w1.drew = wd at *
  refine pu_ 0 11 1 ?_
  refine pu_ 1 12 3 ?_
  refine one_ (i := 2) (N := some 13) (bz 17 7) rfl rfl (by kernel_rfl) (by decide) (fun K hK => ?_)
  refine goes_ Tryz.func76 (by kernel_rfl) rfl #[.pointer (some ⟨p, 0, none⟩), .int .i64 o] (by rfl) rfl rfl (by simp only [List.map_toArray, List.map_cons, List.map_nil]; rfl) ?_
  with_reducible refine (HHA.1 _ p n0_.out).mono ?_
  rintro e_ w3 ⟨rfl, rfl⟩
  refine ⟨_, rfl, ?_⟩
  refine hK.out _ _ (hHeld) (fun hHeld => ?_)
  clear hK K
  refine no_ 13 ?_
  refine pu_ 3 14 15 ?_
  refine pu_ 4 15 31 ?_
  refine pu_ 6 17 95 ?_
  refine pu_ 7 18 223 ?_
  refine pu_ 9 20 735 ?_
  refine pu_ 10 21 1759 ?_
  refine pu_ 11 22 3807 ?_
  refine pu_ 12 23 7903 ?_
  refine ta_ 13 24 16095 hHeld ?_
  refine one_ (i := 5) (N := some 16) (bz 17 16127) rfl rfl (by kernel_rfl) (by decide) (fun K hK => ?_)
  refine goes_ Tryz.func75 (by kernel_rfl) rfl #[.pointer (some ⟨p, 0, none⟩)] (by rfl) rfl rfl (by simp only [List.map_toArray, List.map_cons, List.map_nil]; rfl) ?_
  with_reducible refine (HFR.1 _ p n0_.out).mono ?_
  rintro e_ w3 ⟨rfl, rfl⟩
  refine ⟨_, rfl, ?_⟩
  refine hK.out _ _ (hHeld) (fun hHeld => ?_)
  clear hK K
  refine no_ 16 ?_
  refine pu_ 8 19 16383 ?_
  refine pu_ 14 25 32767 ?_
  refine pu_ 15 26 65535 ?_
  refine pu_ 16 6 131071 ?_
  refine done_ (by kernel_rfl) ?_
  go_wp2_with fail
  go_ret
  exact ⟨rfl, HD.1⟩
def RelAll (w : World) (mn : Int) (o : Nat) (bs : List Bud) (v5 v14 : Value) (wr : World) : Prop :=
 ∃ j : Nat, v14 = .int .i64 j ∧ j ≤ bs.length ∧ Kd.R Kd.bool 4 wr w.heap.size (fun _ => True) v5 ((bs.take j).map fun x => mayB mn x o) ∧ RowKit.Below w.heap.size w wr
theorem heap_all (κ : Kol) (i b each : Nat) (mn lo hi : Int) (bs : List Bud) (o : Nat) (ho : o < 11) (hl : bs.length ≤ 1000) (hf : ∀ x ∈ bs, ∀ k, k < 11 → (x.fr k).length ≤ 1024) (hmn : -100000 ≤ mn) (w : World) (h : HeapK κ i w b each mn lo hi bs) :
 Calls Tryz.prog 48 #[.pointer (some ⟨b, 0, none⟩), .int .i64 o] w fun e w' => ∃ A c, e = .returned (.slice A bs.length c) ∧ bs.length ≤ c ∧ Kd.bool.C w' A bs.length (bs.map fun x => mayB mn x o) ∧ RowKit.Below w.heap.size w w' := by
 have HH := ak h
 obtain ⟨v, ps, h1, h2, h3, h4⟩ := h
 obtain ⟨A, c, rfl, hle, hC⟩ := h2.reads
 obtain ⟨m, hm⟩ : ∃ m, ps.length = m := ⟨_, rfl⟩
 have s4 : w.cell? ⟨b, 4, none⟩ = some (.slice A m c) := by rw [← hm]; exact h1.blk.at 4 _ rfl
 have HMB := ak (show bs.length = m by omega)
 have HF := ak hf
 have info4 : (Tryz.prog.info? 4).map (fun i => (i.zero, i.size, i.bytes)) = some (some (.bool false), 1, 1) := by kernel_rfl
 clear h1 h2 h3 h4 hC hle hf hm
 go_enter Tryz.func48, Tryz.ntmps48
 go_wp2_with fail
 have H0 := ak (show RelAll w mn o bs (.slice none 0 0) (.int .i64 0) w from ⟨0, rfl, Nat.zero_le _, Kd.R_nil _ _ _ _ _, RowKit.Below.refl _ _⟩)
 go_loopw [5, 6, 14] (fun v5 _ v14 wr => RelAll w mn o bs v5 v14 wr) (fun _ _ v14 _ => m - (intOf v14).toNat)
 case atStart => exact H0.1
 case round =>
  clear H0 s4
  obtain ⟨j, rfl, hj, hR, hB⟩ := hrel
  have HR := ak hR
  have HB := ak hB
  have hmb := HMB.1
  clear hR hB
  by_cases hlt : j < m
  ·have jI : (j : Int) < (m : Int) := by omega
   have j0 : (0 : Int) ≤ (j : Int) := by omega
   obtain ⟨x, hx⟩ : ∃ x, bs[j]? = some x := ⟨_, List.getElem?_eq_getElem (by omega)⟩
   have HX := ak hx
   have HM := ak (heap_may κ i b each mn lo hi bs j o ho x hx hl (HF.1 x (List.mem_of_getElem? hx)) hmn wr (below_of κ HB.1 HH.1))
   clear hx
   go_wp2_with (first | (go_at_call 31; (with_reducible refine HM.1.mono ?_); rintro e_ w1 ⟨rfl, hb⟩; have HR1 := ak (Kd.R_below HR.1 hb); have HB1 := ak (below_then HB.1 HB.1.size hb); clear hb) | ((with_reducible refine gate_builtin (b := .append) (xs := #[.tmp 17, .tmp 22]) rfl ?_); at_builtin; refine Kd.R_append Kd.bool (w0 := w) w.heap.size rfl (.tmp 17) (.tmp 22) 93 4 (.bool false) 1 rfl Tryz.underlying93 info4 rfl (by decide) (by omega) u5 ((bs.take j).map fun x => mayB mn x o) (mayB mn x o) [.bool (mayB mn x o)] (fun _ => True) (fun _ => False) rfl rfl ?aP (fun _ hk => hk.elim) ?aF ?aO ?aB ?aS ?aL ?_; (case aP => exact rfl); (case aB => exact HB1.1); (case aF => exact (fun _ _ => trivial)); (case aO => exact HR1.1); (case aS => exact HB1.1.size); (case aL => simp; omega); intro v7 w7 ho7 hb7 hg7 hat7; have H7 := ak (And.intro ho7 hb7); clear ho7 hb7 hg7 hat7))
   refine ⟨⟨j + 1, by simp, by omega, ?_, H7.1.2⟩, ?_⟩
   ·have := H7.1.1
    rw [List.take_add_one, HX.1]
    simpa using this
   ·simp only [intOf]; omega
  ·obtain rfl : j = m := by omega
   obtain ⟨A2, c2, rfl, hle2, hC2⟩ := Kd.R_reads HR.1
   have HC2 := ak (And.intro hle2 hC2)
   clear hle2 hC2 HR
   go_wp2_with fail
   go_ret
   have hlen : ((bs.take j).map fun x => mayB mn x o).length = bs.length := by rw [List.length_map, List.length_take]; omega
   have htk : bs.take j = bs := List.take_of_length_le (by omega)
   obtain ⟨g1, g2⟩ := HC2.1
   rw [hlen] at g1 g2
   rw [htk] at g2
   exact ⟨A2, c2, by rw [hlen]; rfl, g1, g2, HB.1⟩
theorem HeapK.put {κ : Kol} {i b each : Nat} {mn lo hi : Int} {w w1 : World} {bs : List Bud} {j p : Nat} {x y : Bud} {v : Value} {ps : List Nat} (h1 : BlkK κ i w b #[.int .i64 each, .int .i64 mn, .int .i64 lo, .int .i64 hi, v] 147) (h2 : KR pk 143 κ (i + 1) w v ps) (h3 : ps.length = bs.length) (h4 : ∀ j x, bs[j]? = some x → ∃ p, ps[j]? = some p ∧ BuddyK κ (i + 2 + 13 * j) w p each x.c x.fr x.tk)
 (hx : bs[j]? = some x) (hp : ps[j]? = some p) (hb : BuddyK κ (i + 2 + 13 * j) w1 p each y.c y.fr y.tk) (hU : Upd (fun z => i + 2 + 13 * j < z ∧ z < i + 2 + 13 * j + 13) κ w κ w1) : HeapK κ i w1 b each mn lo hi (bs.set j y) := by
 refine ⟨v, ps, h1.upd hU (by omega), h2.upd hU (by omega), by rw [List.length_set]; exact h3, fun q z hz => ?_⟩
 rw [List.getElem?_set] at hz
 split at hz
 ·rename_i e
  subst e
  split at hz
  ·obtain rfl := Option.some.inj hz
   exact ⟨p, hp, hb⟩
  ·simp at hz
 ·rename_i e
  obtain ⟨p', hp', hb'⟩ := h4 q z hz
  exact ⟨p', hp', hb'.upd hU (fun c hc => by omega)⟩
theorem heap_take [SortI] (κ : Kol) (i b each : Nat) (mn lo hi : Int) (bs : List Bud) (j o K y : Nat) (r : List Nat) (x : Bud) (hx : bs[j]? = some x) (hl : bs.length ≤ 8) (hmn : -100000 ≤ mn) (ho : o ≤ K) (hK : K < 11) (hy : x.fr K = y :: r) (hmin : ∀ q, o ≤ q → q < K → x.fr q = []) (hok : BudOK each x.fr) (hc : x.c < 1000000) (hmay : mayB mn x o = true) (w : World) (h : HeapK κ i w b each mn lo hi bs) :
 Calls Tryz.prog 101 #[.pointer (some ⟨b, 0, none⟩), .int .i64 j, .int .i64 o] w fun e w' => e = .returned (.tuple #[.int .i64 ((j * each + y : Nat) : Int), .int .i64 0]) ∧ HeapK κ i w' b each mn lo hi (bs.set j ⟨x.c + 1, frAt x.fr K y o, putF x.tk y o⟩) ∧ Upd (fun z => i + 2 + 13 * j < z ∧ z < i + 2 + 13 * j + 13) κ w κ w' := by
 have hj := (List.getElem?_eq_some_iff.1 hx).1
 have HM := ak (heap_may κ i b each mn lo hi bs j o (by omega) x hx (by omega) hok.len hmn w h)
 rw [hmay] at HM
 have HH := ak h
 obtain ⟨v, ps, h1, h2, h3, h4⟩ := h
 obtain ⟨p, hp, hb⟩ := h4 j x hx
 have HN := ak (heap_at κ i b each mn lo hi v ps j p hp (by omega) w h1 h2)
 have HB := ak hb
 have HX := ak hx
 have hh1 : i + 2 + 13 * j > i := by omega
 have H1 := ak (And.intro h1 (And.intro h2 (And.intro h3 (And.intro h4 hp))))
 have hyl : y ≤ 1024 := Nat.le_trans (Nat.le_add_right _ _) (Nat.le_trans (hok.lt K hK y (by rw [hy]; simp)) hok.max)
 have hem := hok.max
 have HT := ak (fun (W : World) (p : Nat) hW => take_bud κ (i + 2 + 13 * j) p each x.c o K y r x.fr x.tk ho hK hy hmin hok hc W hW)
 have o0 : (0 : Int) ≤ (o : Int) := by omega
 have o1 : (o : Int) ≤ 10 := by omega
 have hje : j * each ≤ 8 * 1024 := Nat.mul_le_mul (by omega) hem
 obtain ⟨je, hje2⟩ : ∃ je, j * each = je := ⟨_, rfl⟩
 rw [hje2] at hje ⊢
 have g0 : (0 : Int) ≤ (je : Int) + (y : Int) ∧ (je : Int) + (y : Int) ≤ 1000000 := by omega
 have g1 : (0 : Int) ≤ (je : Int) ∧ (je : Int) ≤ 1000000 := by omega
 have e1 : wrap64 ((j : Int) * (each : Int)) = (je : Int) := by rw [← Int.natCast_mul, hje2]; exact w64 _ g1
 have e2 : wrap64 ((je : Int) + (y : Int)) = (je : Int) + (y : Int) := w64 _ g0
 have s0 := h1.blk.at 0 (.int .i64 each) rfl
 have HH1 := ak hh1
 clear g0 g1 hh1 hmay hyl hem hmin hok hj hje hje2 h1 h2 h3 h4 hp hb hx
 go_enter Tryz.func101, Tryz.ntmps101
 go_wp2_with (first | (go_at_call 74; (with_reducible refine HN.1.mono ?_); rintro e_ w1 ⟨rfl, rfl⟩) | (go_at_call 31; (with_reducible refine HM.1.mono ?_); rintro e_ w2 ⟨rfl, hb⟩; have HB2 := ak hb; clear hb) | (go_at_call 155; (with_reducible refine (HT.1 _ p (HB.1.upd (I := fun _ => False) (Upd.of_below κ HB2.1) (fun _ _ h => h))).mono ?_); rintro e_ w3 ⟨rfl, q1, q2⟩; have HQ := ak (And.intro q1 ((Upd.of_below κ HB2.1).then q2 (fun c hc => hc))); have t0 := (H1.1.1.upd HQ.1.2 (by omega)).blk.at 0 (.int .i64 each) rfl; clear q1 q2 s0))
 go_ret2
 obtain ⟨k1, k2, k3, k4, k5⟩ := H1.1
 refine ⟨by rw [Int.natCast_add]; simp [e1, e2], HeapK.put k1 k2 k3 k4 HX.1 k5 HQ.1.1 HQ.1.2, HQ.1.2⟩
def newBud (each : Nat) : Bud := ⟨0, iniS each, fun _ => none⟩
def RelHN (κ : Kol) (i each : Nat) (mn lo hi : Int) (w : World) (b bx nodes : Nat) (v22 : Value) (wr : World) : Prop :=
 ∃ (j : Nat) (κ1 : Kol), v22 = .int .i64 j ∧ j ≤ nodes ∧ HeapK κ1 i wr b each mn lo hi (List.replicate j (newBud each)) ∧ BlkK κ1 (i + 900000) wr bx #[.int .i64 mn, .int .i64 lo, .int .i64 hi] 77 ∧ (∀ x, x < w.heap.size → κ1 x = κ x) ∧ (∀ v, wr.cell? ⟨b, 4, none⟩ = some v → ∀ g, v.ownBlock = some g → w.heap.size ≤ g) ∧ RowKit.Below w.heap.size w wr
theorem heap_new (κ : Kol) (i nodes each : Nat) (mn lo hi : Int) (hn1 : 1 ≤ nodes) (hn8 : nodes ≤ 8) (he : each ∈ p2s) (m0 : 0 ≤ mn) (m1 : mn ≤ lo) (m2 : lo ≤ hi) (m3 : hi ≤ each) (w : World) :
 Calls Tryz.prog 82 #[.int .i64 nodes, .int .i64 each, .agg #[.int .i64 mn, .int .i64 lo, .int .i64 hi]] w fun e w' => ∃ κ' b, e = .returned (.tuple #[.pointer (some ⟨b, 0, none⟩), .int .i64 0]) ∧ HeapK κ' i w' b each mn lo hi (List.replicate nodes (newBud each)) ∧ w.heap.size ≤ b ∧ (∀ x, x < w.heap.size → κ' x = κ x) ∧ RowKit.Below w.heap.size w w' := by
 have n1 : (1 : Int) ≤ (nodes : Int) := by omega
 have n2 : (nodes : Int) ≤ 8 := by omega
 have d0 : decide ((nodes : Int) < 1) = false := decide_eq_false (by omega)
 have d1 : decide (8 < (nodes : Int)) = false := decide_eq_false (by omega)
 have info3 : (Tryz.prog.info? 143).map (fun i => (i.zero, i.size, i.bytes)) = some (some (.pointer none), 1, 8) := by kernel_rfl
 have HE := ak he
 clear he
 go_enter Tryz.func82, Tryz.ntmps82
 go_wp2_with fail
 have H0 := ak (show RelHN κ i each mn lo hi w (w.heap.size + 1) w.heap.size nodes (.int .i64 0) ((w.alloc (.cells #[.int .i64 mn, .int .i64 lo, .int .i64 hi] 77)).alloc (.cells #[.int .i64 each, .int .i64 mn, .int .i64 lo, .int .i64 hi, .slice none 0 0] 147)) from by
  refine ⟨0, fun x => if x < w.heap.size then κ x else if x = w.heap.size then i + 900000 else i, rfl, Nat.zero_le _, ⟨.slice none 0 0, [], ⟨?_, Blk.new1 w _ _ _⟩, KR.nil _ _ _ _ _, rfl, fun j x hx => by simp at hx⟩, ⟨?_, (Blk.new w _ _).alloc _⟩, fun x hx => if_pos hx, fun v hv g hg => ?_, below_alloc (below_alloc (RowKit.Below.refl _ _) _) _⟩
  ·show (if w.heap.size + 1 < w.heap.size then _ else _) = _
   rw [if_neg (by omega), if_neg (by omega)]
  ·show (if w.heap.size < w.heap.size then _ else _) = _
   rw [if_neg (by omega), if_pos rfl]
  ·have := (Blk.new1 w (.cells #[.int .i64 mn, .int .i64 lo, .int .i64 hi] 77) #[.int .i64 each, .int .i64 mn, .int .i64 lo, .int .i64 hi, .slice none 0 0] 147).at 4 (.slice none 0 0) rfl
   rw [this] at hv
   obtain rfl := Option.some.inj hv
   simp [Value.ownBlock] at hg)
 go_loopw [9, 10, 22] (fun _ _ v22 wr => RelHN κ i each mn lo hi w (w.heap.size + 1) w.heap.size nodes v22 wr) (fun _ _ v22 _ => nodes - (intOf v22).toNat)
 case atStart => exact H0.1
 case round =>
  clear H0
  obtain ⟨j, κ1, rfl, hj, hh, hbx, hκ, hvb, hB⟩ := hrel
  by_cases hlt : j < nodes
  ·have jI : (j : Int) < (nodes : Int) := by omega
   have j0 : (0 : Int) ≤ (j : Int) := by omega
   obtain ⟨v, ps, k1, k2, k3, k4⟩ := hh
   have HH := ak (And.intro k1 (And.intro k2 (And.intro k3 k4)))
   have HV := ak (hvb v (k1.blk.at 4 v rfl))
   have HBX := ak hbx
   have HK := ak hκ
   have HB := ak hB
   have HNB := ak (bud_new κ1 (i + 2 + 13 * j) each HE.1 wr)
   clear k1 k2 k3 k4 hvb hbx hκ hB
   go_upto_region 9 with (go_at_call 137; (with_reducible refine HNB.1.mono ?_); rintro e_ w1 ⟨κ2, p, rfl, q1, q2, q3, q4⟩; have HQ := ak (And.intro q1 (And.intro q2 q3)); have HB1 := ak q4; clear q1 q2 q3 q4)
   have HU := ak (show Upd (fun _ => False) κ1 wr κ2 w1 from ⟨HQ.1.2.2, Chg.of_below HB1.1⟩)
   obtain ⟨k1', k2', k3, k4'⟩ := HH.1
   have k1 := k1'.upd HU.1 (fun h => h)
   have k2 := k2'.upd HU.1 (fun h => h)
   have k4 : ∀ q x, (List.replicate j (newBud each))[q]? = some x → ∃ p, ps[q]? = some p ∧ BuddyK κ2 (i + 2 + 13 * q) w1 p each x.c x.fr x.tk := fun q x hx => by obtain ⟨p, hp, hb⟩ := k4' q x hx; exact ⟨p, hp, hb.upd HU.1 (fun _ _ h => h)⟩
   have K4 := ak (And.intro k3 k4)
   have HC1 := ak (And.intro k1 k2)
   have s4 := k1.blk.at 4 v rfl
   have f4 := k1.blk.fz 4
   clear k1 k2 k3 k4 k1' k2' k4'
   go_wp2_with (((with_reducible refine gate_builtin (b := .append) (xs := #[.tmp 36, .tmp 38]) rfl ?_); at_builtin; refine Kd.R_append pk (w0 := w1) 0 rfl (.tmp 36) (.tmp 38) 145 143 (.pointer none) 8 rfl Tryz.underlying145 info3 rfl (by decide) (by omega) v ps p [.pointer (some ⟨p, 0, none⟩)] (fun k => κ2.ext w1.heap.size (i + 1) k = i + 1) (fun _ => False) rfl rfl ?aP (fun _ hk => hk.elim) ?aF ?aO ?aB ?aS ?aL ?_; (case aP => exact rfl); (case aB => exact RowKit.Below.refl _ _); (case aF => exact (fun k hk => Kol.ext_new _ hk)); (case aO => exact HC1.1.2.ext); (case aS => exact Nat.zero_le _); (case aL => (have := K4.out.1; rw [List.length_replicate] at this; omega)); intro v7 w7 ho7 hb7 hg7 hat7; obtain ⟨A7, c7, rfl⟩ := Kd.R_slice ho7; have H7 := ak (And.intro ho7 (HC1.1.2.upd_grown hg7)); have H8 := ak (And.intro hg7 hat7); clear ho7 hb7 hg7 hat7 s4 f4; have t4 := (HC1.1.1.upd H7.1.2 (by omega)).blk.at 4 v rfl; have g4 := (HC1.1.1.upd H7.1.2 (by omega)).blk.fz 4))
   refine ⟨⟨j + 1, κ2.ext w1.heap.size (i + 1), by simp, by omega, ⟨.slice A7 (ps.length + 1) c7, ps ++ [p], ?_, ?_, ?_, ?_⟩, ?_, ?_, ?_, ?_⟩, ?_⟩
   ·exact (HC1.1.1.upd H7.1.2 (by omega)).set 4 _
   ·have h7 := H7.1.1
    rw [List.length_append, List.length_singleton] at h7
    exact KR.upd (w := w7) (I := (· = i)) (κ := κ2.ext w1.heap.size (i + 1)) h7 ((Upd.refl _ _ _).set ⟨w.heap.size + 1, 4, none⟩ (fun _ => (HC1.1.1.upd H7.1.2 (by omega)).kol) _) (by omega)
   ·simp [K4.out.1]
   ·intro q x hx
    rw [List.getElem?_replicate] at hx
    split at hx
    ·obtain rfl := Option.some.inj hx
     rcases Nat.lt_or_ge q j with h1 | h1
     ·obtain ⟨p', hp', hb'⟩ := K4.out.2 q (newBud each) (by rw [List.getElem?_replicate, if_pos h1])
      refine ⟨p', by rw [List.getElem?_append_left (by have := (List.getElem?_eq_some_iff.1 hp').1; exact this)]; exact hp', ?_⟩
      exact ((hb'.upd H7.1.2 (fun c hc => by omega)).upd ((Upd.refl (· = i) _ _).set ⟨w.heap.size + 1, 4, none⟩ (fun _ => (HC1.1.1.upd H7.1.2 (by omega)).kol) _) (fun c hc => by omega))
     ·obtain rfl : q = j := by omega
      have hl : ps.length = q := by have := K4.out.1; rwa [List.length_replicate] at this
      refine ⟨p, by rw [← hl]; simp, ?_⟩
      exact ((HQ.1.1.upd H7.1.2 (fun c hc => by omega)).upd ((Upd.refl (· = i) _ _).set ⟨w.heap.size + 1, 4, none⟩ (fun _ => (HC1.1.1.upd H7.1.2 (by omega)).kol) _) (fun c hc => by omega))
    ·simp at hx
   ·exact ((HBX.1.upd HU.1 (fun h => h)).upd H7.1.2 (by omega)).upd ((Upd.refl (· = i) _ _).set ⟨w.heap.size + 1, 4, none⟩ (fun _ => (HC1.1.1.upd H7.1.2 (by omega)).kol) _) (by omega)
   ·intro x hx
    rw [Kol.ext_old κ2 (by have := HB.1.size; have := HB1.1.size; omega), HQ.1.2.2 x (by have := HB.1.size; omega)]
    exact HK.1 x hx
   ·intro v hv g hg
    have hb7 := ((HC1.1.1.upd H7.1.2 (by omega)).set 4 (.slice A7 (ps.length + 1) c7)).blk.at 4 (.slice A7 (ps.length + 1) c7) rfl
    rw [hb7] at hv
    obtain rfl := Option.some.inj hv
    have hat := H8.1.2
    rw [List.length_append, List.length_singleton] at hat
    rcases hat with h1 | ⟨b1, h1, h2⟩
    ·exact HV.1 g (by rw [← h1]; exact hg)
    ·rw [hg] at h1
     obtain rfl := Option.some.inj h1
     have := HB.1.size; have := HB1.1.size; omega
   ·refine RowKit.Below.setCell (p := ⟨w.heap.size + 1, 4, none⟩) ((below_then HB.1 HB.1.size HB1.1).grown H8.1.1 (by have := HB.1.size; have := HB1.1.size; omega) (fun k e => HV.1 k e)) (by show w.heap.size ≤ w.heap.size + 1; omega) _
   ·simp only [intOf]; omega
  ·obtain rfl : j = nodes := by omega
   have s0 := hbx.blk.at 0 (.int .i64 mn) rfl
   have s1 := hbx.blk.at 1 (.int .i64 lo) rfl
   have s2 := hbx.blk.at 2 (.int .i64 hi) rfl
   have b0 : decide (mn < 0) = false := decide_eq_false (by omega)
   have b1 : decide (lo < mn) = false := decide_eq_false (by omega)
   have b2 : decide (hi < lo) = false := decide_eq_false (by omega)
   have b3 : decide ((each : Int) < hi) = false := decide_eq_false (by omega)
   have HH := ak hh
   have HK := ak hκ
   have HB := ak hB
   clear hh hbx hκ hB hvb
   go_wp2_with fail
   go_ret2
   exact ⟨κ1, w.heap.size + 1, rfl, HH.1, by omega, HK.1, HB.1⟩
end Go.Proofs.YtenkdmloolbdaaaGreatDoor.T
end
section
namespace Go.Proofs.YtenkdmloolbdaaaGreatDoor.T
open Go.RowKit Go.Proofs.YtenkdmloolbdaaaGreatDoorW.PrintWords Go.Proofs.YtenkdmloolbdaaaGreatDoorW.PrintLast Go.Proofs.YtenkdmloolbdaaaGreatDoorW.PrintMore
def RowK (κ : Kol) (i : Nat) (w : World) (v : Value) (l : List Int) : Prop :=
 (v = .slice none 0 0 ∧ l = []) ∨ ∃ g cap cur, v = .slice (some ⟨g, 0, none⟩) l.length cap ∧ l.length ≤ cap ∧ cap ≤ maxLen ∧ cur.size = cap ∧ cur.toList.take l.length = l.map (Value.int .i64) ∧ BlkK κ i w g cur 3
theorem RowK.sl {κ : Kol} {i : Nat} {w : World} {v : Value} {l : List Int} (h : RowK κ i w v l) : ∃ A c, v = .slice A l.length c ∧ l.length ≤ c := by
 rcases h with ⟨rfl, rfl⟩ | ⟨g, cap, cur, rfl, h1, _⟩
 ·exact ⟨none, 0, rfl, Nat.le_refl _⟩
 ·exact ⟨_, cap, rfl, h1⟩
theorem RowK.upd {I : Nat → Prop} {κ κ1 : Kol} {i : Nat} {w w1 : World} {v : Value} {l : List Int} (h : RowK κ i w v l) (k : Upd I κ w κ1 w1) (hi : ¬ I i) : RowK κ1 i w1 v l := by
 rcases h with h | ⟨g, cap, cur, h0, h1, h2, h3, h4, h5⟩
 ·exact .inl h
 ·exact .inr ⟨g, cap, cur, h0, h1, h2, h3, h4, h5.upd k hi⟩
theorem RowK.below {κ : Kol} {i : Nat} {w w1 : World} {v : Value} {l : List Int} (h : RowK κ i w v l) (k : RowKit.Below w.heap.size w w1) : RowK κ i w1 v l := by
 rcases h with h | ⟨g, cap, cur, h0, h1, h2, h3, h4, h5⟩
 ·exact .inl h
 ·exact .inr ⟨g, cap, cur, h0, h1, h2, h3, h4, h5.below k⟩
theorem RowK.at {κ : Kol} {i : Nat} {w : World} {A : Option Addr} {c n : Nat} {l : List Int} (h : RowK κ i w (.slice A n c) l) (j : Nat) (x : Int) (hx : l[j]? = some x) : ∃ g, A = some ⟨g, 0, none⟩ ∧ w.cell? ⟨g, j, none⟩ = some (.int .i64 x) := by
 have hj : j < l.length := (List.getElem?_eq_some_iff.1 hx).1
 rcases h with ⟨_, rfl⟩ | ⟨g, cap, cur, h0, h1, h2, h3, h4, h5⟩
 ·simp at hj
 ·obtain ⟨rfl, rfl, rfl⟩ := Value.slice.inj h0
  refine ⟨g, rfl, h5.blk.at j _ ?_⟩
  have h6 : (cur.toList.take l.length)[j]? = (l.map (Value.int .i64))[j]? := by rw [h4]
  rw [List.getElem?_take_of_lt hj, List.getElem?_map, hx] at h6
  rw [← Array.getElem?_toList, h6]; rfl
theorem RowK.take {κ : Kol} {i : Nat} {w : World} {A : Option Addr} {c n : Nat} {l : List Int} (h : RowK κ i w (.slice A n c) l) (m : Nat) (hm : m ≤ l.length) (h0' : 0 < l.length) : RowK κ i w (.slice A m c) (l.take m) := by
 rcases h with ⟨_, rfl⟩ | ⟨g, cap, cur, h0, h1, h2, h3, h4, h5⟩
 ·simp at h0'
 ·obtain ⟨rfl, rfl, rfl⟩ := Value.slice.inj h0
  refine .inr ⟨g, c, cur, ?_, ?_, h2, h3, ?_, h5⟩
  ·rw [List.length_take, Nat.min_eq_left hm]
  ·rw [List.length_take]; omega
  ·rw [List.length_take, List.map_take, ← h4, List.take_take, Nat.min_eq_left hm]
theorem RowK.own {κ : Kol} {i : Nat} {w : World} {v : Value} {l : List Int} (h : RowK κ i w v l) : w.ownsRow 0 3 1 v l.length (nums .i64 l) := by
 rcases h with ⟨rfl, rfl⟩ | ⟨g, cap, cur, rfl, h1, h2, h3, h4, h5⟩
 ·exact ⟨rfl, .inl ⟨rfl, rfl⟩⟩
 ·exact ⟨by simp [nums], .inr ⟨g, cap, cur, rfl, Nat.zero_le _, h5.blk, h1, h2, by omega, by rw [Nat.mul_one]; exact h4⟩⟩
theorem RowK.block {κ : Kol} {i : Nat} {w : World} {v : Value} {l : List Int} (h : RowK κ i w v l) (g : Nat) (hg : v.ownBlock = some g) : κ g = i := by
 rcases h with ⟨rfl, rfl⟩ | ⟨g', cap, cur, rfl, h1, h2, h3, h4, h5⟩
 ·simp [Value.ownBlock] at hg
 ·simp [Value.ownBlock] at hg
  subst hg
  exact h5.kol
theorem RowK.of_own {κ : Kol} {i : Nat} {w : World} {v : Value} {l : List Int} (h : w.ownsRow 0 3 1 v l.length (nums .i64 l)) (hk : ∀ g, v.ownBlock = some g → κ g = i) : RowK κ i w v l := by
 obtain ⟨_, ⟨hv, h0⟩ | ⟨g, cap, cur, hv, h1, h2, h3, h4, h5, h6⟩⟩ := h
 ·exact .inl ⟨hv, List.length_eq_zero_iff.1 h0⟩
 ·subst hv
  exact .inr ⟨g, cap, cur, rfl, h3, h4, by omega, by rw [Nat.mul_one] at h6; exact h6, ⟨hk g (by simp [Value.ownBlock]), h2⟩⟩
theorem RowK.grown {κ : Kol} {i : Nat} {w w1 : World} {v v1 : Value} {l l1 : List Int} (h : RowK κ i w v l) (ho : w1.ownsRow 0 3 1 v1 l1.length (nums .i64 l1)) (hg : w.grownBy w1 v.ownBlock) (hat : v1.ownBlock = v.ownBlock ∨ ∃ b, v1.ownBlock = some b ∧ w.heap.size ≤ b) :
 RowK (κ.ext w.heap.size i) i w1 v1 l1 ∧ Upd (· = i) κ w (κ.ext w.heap.size i) w1 := by
 refine ⟨RowK.of_own ho (fun g hgg => ?_), fun b hb => Kol.ext_old κ hb, ⟨hg.os, hg.tape, hg.output, hg.size, fun b hb hne => hg.block b hb (fun e => hne (h.block b e.symm))⟩⟩
 rcases hat with e | ⟨b, e, hb⟩
 ·rw [e] at hgg
  rcases h with ⟨rfl, rfl⟩ | ⟨g', cap, cur, rfl, _, _, _, _, h5⟩
  ·simp [Value.ownBlock] at hgg
  ·simp [Value.ownBlock] at hgg
   subst hgg
   rw [Kol.ext_old κ h5.blk.lt]
   exact h5.kol
 ·rw [e] at hgg
  obtain rfl := Option.some.inj hgg
  exact Kol.ext_new κ hb
theorem cache_list (b c : Nat) (hc : c < 4) (w : World) :
 Calls Tryz.prog 167 #[.pointer (some ⟨b, 0, none⟩), .int .i64 c] w fun e w' => e = .returned (.pointer (some ⟨b, c, none⟩)) ∧ w' = w := by
 have c0 : (0 : Int) ≤ (c : Int) := by omega
 have c4 : (c : Int) < 4 := by omega
 have d0 : decide ((c : Int) < 0) = false := decide_eq_false (by omega)
 have d1 : decide (4 ≤ (c : Int)) = false := decide_eq_false (by omega)
 have d2 : decide (4 ≤ c) = false := decide_eq_false (by omega)
 go_enter Tryz.func167, Tryz.ntmps167
 go_wp2_with fail
 go_ret
 exact ⟨rfl, rfl⟩
def CacheK (κ : Kol) (i : Nat) (w : World) (b : Nat) (L : Nat → List Int) : Prop :=
 ∃ v : Nat → Value, BlkK κ i w b #[v 0, v 1, v 2, v 3] 224 ∧ ∀ c, c < 4 → RowK κ (i + 1 + c) w (v c) (L c)
def setL (L : Nat → List Int) (c : Nat) (l : List Int) : Nat → List Int := fun k => if k = c then l else L k
theorem CacheK.upd {I : Nat → Prop} {κ κ1 : Kol} {i b : Nat} {w w1 : World} {L : Nat → List Int} (h : CacheK κ i w b L) (k : Upd I κ w κ1 w1) (hi : ∀ c, c < 5 → ¬ I (i + c)) : CacheK κ1 i w1 b L := by
 obtain ⟨v, h1, h2⟩ := h
 exact ⟨v, h1.upd k (hi 0 (by omega)), fun c hc => (h2 c hc).upd k (by rw [Nat.add_assoc]; exact hi (1 + c) (by omega))⟩
theorem CacheK.below {κ : Kol} {i b : Nat} {w w1 : World} {L : Nat → List Int} (h : CacheK κ i w b L) (k : RowKit.Below w.heap.size w w1) : CacheK κ i w1 b L := by
 obtain ⟨v, h1, h2⟩ := h
 exact ⟨v, h1.below k, fun c hc => (h2 c hc).below k⟩
theorem four_at (v : Nat → Value) (c : Nat) (hc : c < 4) : (#[v 0, v 1, v 2, v 3] : Array Value)[c]? = some (v c) := by
 match c, hc with
 | 0, _ => rfl
 | 1, _ => rfl
 | 2, _ => rfl
 | 3, _ => rfl
theorem four_set (v : Nat → Value) (c : Nat) (hc : c < 4) (u : Value) : (#[v 0, v 1, v 2, v 3] : Array Value).setIfInBounds c u = #[(if 0 = c then u else v 0), (if 1 = c then u else v 1), (if 2 = c then u else v 2), (if 3 = c then u else v 3)] := by
 match c, hc with
 | 0, _ => rfl
 | 1, _ => rfl
 | 2, _ => rfl
 | 3, _ => rfl
theorem CacheK.put {κ1 : Kol} {i b c : Nat} {w1 : World} {L : Nat → List Int} {v : Nat → Value} (hc : c < 4) (h1 : BlkK κ1 i w1 b #[v 0, v 1, v 2, v 3] 224) (u : Value) (l : List Int) (hu : RowK κ1 (i + 1 + c) (w1.setCell ⟨b, c, none⟩ u) u l) (h2 : ∀ k, k < 4 → k ≠ c → RowK κ1 (i + 1 + k) (w1.setCell ⟨b, c, none⟩ u) (v k) (L k)) :
 CacheK κ1 i (w1.setCell ⟨b, c, none⟩ u) b (setL L c l) := by
 refine ⟨fun k => if k = c then u else v k, ?_, fun k hk => ?_⟩
 ·have := h1.set c u
  rw [four_set v c hc u] at this
  exact this
 ·unfold setL
  by_cases e : k = c
  ·subst e; simpa using hu
  ·simpa [e] using h2 k hk e
theorem RowK.other {κ : Kol} {i b j : Nat} {w : World} {v : Value} {l : List Int} (h : RowK κ i w v l) (hb : κ b ≠ i) (u : Value) : RowK κ i (w.setCell ⟨b, j, none⟩ u) v l := by
 rcases h with h | ⟨g, cap, cur, h0, h1, h2, h3, h4, h5⟩
 ·exact .inl h
 ·exact .inr ⟨g, cap, cur, h0, h1, h2, h3, h4, ⟨h5.kol, h5.blk.other ⟨b, j, none⟩ (fun e => hb (by have e2 : g = b := e; rw [← e2]; exact h5.kol)) u⟩⟩
theorem cache_pop (κ : Kol) (i b c : Nat) (hc : c < 4) (L : Nat → List Int) (l : List Int) (x : Int) (hl : L c = l ++ [x]) (h8 : l.length < 1000) (w : World) (h : CacheK κ i w b L) :
 Calls Tryz.prog 116 #[.pointer (some ⟨b, 0, none⟩), .int .i64 c] w fun e w' => e = .returned (.tuple #[.int .i64 x, .bool true]) ∧ CacheK κ i w' b (setL L c l) ∧ Upd (· = i) κ w κ w' := by
 obtain ⟨v, hb, hr⟩ := h
 have hrow := hr c hc
 rw [hl] at hrow
 obtain ⟨A, cap, hv, hle⟩ := hrow.sl
 obtain ⟨p, hp⟩ : ∃ p, l.length = p := ⟨_, rfl⟩
 rw [List.length_append, List.length_singleton, hp] at hv hle
 rw [hv] at hrow
 obtain ⟨g, rfl, q0⟩ := hrow.at p x (by rw [List.getElem?_append_right (by omega), hp]; simp)
 have s0 := hb.blk.at c (.slice (some ⟨g, 0, none⟩) (p + 1) cap) (by rw [four_at v c hc, hv])
 have f0 := hb.blk.fz c
 have HK := ak hb.kol
 have HPUT := ak (show CacheK κ i (w.setCell ⟨b, c, none⟩ (.slice (some ⟨g, 0, none⟩) p cap)) b (setL L c l) from by
  refine CacheK.put hc hb _ l ?_ (fun k hk _ => (hr k hk).other (by rw [hb.kol]; omega) _)
  have := (hrow.take p (by simp [hp]) (by simp)).other (j := c) (show κ b ≠ i + 1 + c by rw [hb.kol]; omega) (.slice (some ⟨g, 0, none⟩) p cap)
  rwa [← hp, List.take_left' rfl, hp] at this)
 have HL := ak (cache_list b c hc)
 have e1 : wrap64 ((p : Int) + 1 - 1) = (p : Int) := by rw [show (p : Int) + 1 - 1 = p by omega]; exact IntWalk.wrap64_in _ ⟨by omega, by omega⟩
 have e2 : ((p : Int) + 1 == 0) = false := beq_eq_false_iff_ne.mpr (by omega)
 clear hb hr hrow hl hv
 go_enter Tryz.func116, Tryz.ntmps116
 go_wp2_with (go_at_call 167; (with_reducible refine (HL.1 _).mono ?_); rintro e_ w1 ⟨rfl, rfl⟩)
 go_ret2
 exact ⟨rfl, HPUT.1, (Upd.refl _ κ w1).set ⟨b, c, none⟩ (fun _ => HK.1) _⟩
theorem cache_empty (κ : Kol) (i b c : Nat) (hc : c < 4) (L : Nat → List Int) (hl : L c = []) (w : World) (h : CacheK κ i w b L) :
 Calls Tryz.prog 116 #[.pointer (some ⟨b, 0, none⟩), .int .i64 c] w fun e w' => e = .returned (.tuple #[.int .i64 0, .bool false]) ∧ w' = w := by
 obtain ⟨v, hb, hr⟩ := h
 have hrow := hr c hc
 rw [hl] at hrow
 obtain ⟨A, cap, hv, hle⟩ := hrow.sl
 have s0 := hb.blk.at c (.slice A 0 cap) (by rw [four_at v c hc, hv]; rfl)
 have HL := ak (cache_list b c hc)
 clear hb hr hrow hl hv hle
 go_enter Tryz.func116, Tryz.ntmps116
 go_wp2_with (go_at_call 167; (with_reducible refine (HL.1 _).mono ?_); rintro e_ w1 ⟨rfl, rfl⟩)
 go_ret2
 exact ⟨rfl, rfl⟩
theorem cache_push (κ : Kol) (i b c : Nat) (hc : c < 4) (L : Nat → List Int) (x : Int) (h8 : (L c).length < 8) (w : World) (h : CacheK κ i w b L) :
 Calls Tryz.prog 150 #[.pointer (some ⟨b, 0, none⟩), .int .i64 c, .int .i64 x] w fun e w' => e = .returned (.tuple #[.bool true, .int .i64 0]) ∧ ∃ κ', CacheK κ' i w' b (setL L c (L c ++ [x])) ∧ Upd (fun k => k = i ∨ k = i + 1 + c) κ w κ' w' := by
 obtain ⟨v, hb, hr⟩ := h
 have hrow := hr c hc
 obtain ⟨A, cap, hv, hle⟩ := hrow.sl
 obtain ⟨p, hp⟩ : ∃ p, (L c).length = p := ⟨_, rfl⟩
 rw [hp] at hv hle h8
 have s0 := hb.blk.at c (.slice A p cap) (by rw [four_at v c hc, hv])
 have f0 := hb.blk.fz c
 have HK := ak hb
 have HR := ak hr
 have HROW := ak (hv ▸ hrow)
 have HP := ak hp
 have HV := ak hv
 have info3 : (Tryz.prog.info? 3).map (fun i => (i.zero, i.size, i.bytes)) = some (some (.int .i64 0), 1, 8) := by kernel_rfl
 have HL := ak (cache_list b c hc)
 have e2 : ((p : Int) == 8) = false := beq_eq_false_iff_ne.mpr (by omega)
 have e3 : (p == 8) = false := beq_eq_false_iff_ne.mpr (by omega)
 clear hb hr hrow hv hp
 go_enter Tryz.func150, Tryz.ntmps150
 go_wp2_with (first | (go_at_call 167; (with_reducible refine (HL.1 _).mono ?_); rintro e_ w1 ⟨rfl, rfl⟩) | ((with_reducible refine gate_builtin (b := .append) (xs := #[.tmp 24, .tmp 26]) rfl ?_); at_builtin; refine Kd.R_append (Kd.int .i64) (w0 := w1) 0 rfl (.tmp 24) (.tmp 26) 34 3 (.int .i64 0) 8 rfl Tryz.underlying34 info3 rfl (by decide) (by omega) (.slice A p cap) (L c) x [.int .i64 x] (fun _ => True) (fun _ => False) rfl rfl ?aP (fun _ hk => hk.elim) ?aF ?aO ?aB ?aS ?aL ?_; (case aP => exact rfl); (case aB => exact RowKit.Below.refl _ _); (case aF => exact (fun _ _ => trivial)); (case aO => exact Kd.R_of_own HROW.1.own (fun _ _ => trivial)); (case aS => exact Nat.zero_le _); (case aL => (have := HP.1; omega)); intro v7 w7 ho hb hg hat; obtain ⟨A7, c7, rfl⟩ := own_slice (Kd.own_of_R ho); have HG := ak (RowK.grown (l1 := L c ++ [x]) HROW.1 (Kd.own_of_R ho) hg hat); clear ho hb hg hat; have HK7 := ak (HK.1.upd HG.1.2 (by omega)); clear s0 f0; have s0 := HK7.1.blk.at c (.slice A p cap) (by rw [four_at v c hc, HV.1]); have f0 := HK7.1.blk.fz c))
 go_ret2
 have hl2 : (L c ++ [x]).length = (L c).length + 1 := by simp
 have hg1 := HG.1.1
 rw [hl2] at hg1
 exact ⟨rfl, _, CacheK.put hc HK7.1 _ (L c ++ [x]) (hg1.other (by rw [HK7.1.kol]; omega) _) (fun k hk hne => ((HR.1 k hk).upd HG.1.2 (by omega)).other (by rw [HK7.1.kol]; omega) _), (Upd.mono (J := fun k => k = i ∨ k = i + 1 + c) HG.1.2 (fun k e => Or.inr e)).set ⟨b, c, none⟩ (fun _ => Or.inl HK.1.kol) _⟩
def RowG (κ : Kol) (i : Nat) (w : World) (e : TypeId) (sz : Nat) (v : Value) (n : Nat) (cs : List Value) : Prop :=
 w.ownsRow 0 e sz v n cs ∧ ∀ g, v.ownBlock = some g → κ g = i
theorem RowG.lt {κ : Kol} {i : Nat} {w : World} {e : TypeId} {sz : Nat} {v : Value} {n : Nat} {cs : List Value} (h : RowG κ i w e sz v n cs) (g : Nat) (hg : v.ownBlock = some g) : g < w.heap.size := own_lt h.1 g hg
theorem RowG.upd {I : Nat → Prop} {κ κ1 : Kol} {i : Nat} {w w1 : World} {e : TypeId} {sz : Nat} {v : Value} {n : Nat} {cs : List Value} (h : RowG κ i w e sz v n cs) (k : Upd I κ w κ1 w1) (hi : ¬ I i) : RowG κ1 i w1 e sz v n cs :=
 ⟨own_move h.1 (fun b hb => k.chg.block b (h.lt b hb) (fun hI => hi (h.2 b hb ▸ hI))), fun g hg => (k.kol g (h.lt g hg)).trans (h.2 g hg)⟩
theorem RowG.below {κ : Kol} {i : Nat} {w w1 : World} {e : TypeId} {sz : Nat} {v : Value} {n : Nat} {cs : List Value} (h : RowG κ i w e sz v n cs) (k : RowKit.Below w.heap.size w w1) : RowG κ i w1 e sz v n cs :=
 ⟨own_move h.1 (fun b hb => k.block b (h.lt b hb)), h.2⟩
theorem RowG.nil (κ : Kol) (i : Nat) (w : World) (e : TypeId) (sz : Nat) : RowG κ i w e sz (.slice none 0 0) 0 [] := ⟨⟨by simp, .inl ⟨rfl, rfl⟩⟩, fun g hg => by simp [Value.ownBlock] at hg⟩
theorem RowG.sl {κ : Kol} {i : Nat} {w : World} {e : TypeId} {sz : Nat} {v : Value} {n : Nat} {cs : List Value} (h : RowG κ i w e sz v n cs) : ∃ A c, v = .slice A n c := by
 rcases h.1.2 with ⟨rfl, rfl⟩ | ⟨g, cap, cur, rfl, _⟩
 ·exact ⟨none, 0, rfl⟩
 ·exact ⟨_, cap, rfl⟩
theorem RowG.grown {κ : Kol} {i : Nat} {w w1 : World} {e : TypeId} {sz : Nat} {v v1 : Value} {n n1 : Nat} {cs cs1 : List Value} (h : RowG κ i w e sz v n cs) (ho : w1.ownsRow 0 e sz v1 n1 cs1) (hg : w.grownBy w1 v.ownBlock) (hat : v1.ownBlock = v.ownBlock ∨ ∃ b, v1.ownBlock = some b ∧ w.heap.size ≤ b) :
 RowG (κ.ext w.heap.size i) i w1 e sz v1 n1 cs1 ∧ Upd (· = i) κ w (κ.ext w.heap.size i) w1 := by
 refine ⟨⟨ho, fun g hgg => ?_⟩, fun b hb => Kol.ext_old κ hb, ⟨hg.os, hg.tape, hg.output, hg.size, fun b hb hne => hg.block b hb (fun e => hne (h.2 b e.symm))⟩⟩
 rcases hat with e | ⟨b, e, hb⟩
 ·rw [e] at hgg
  rw [Kol.ext_old κ (h.lt g hgg)]
  exact h.2 g hgg
 ·rw [e] at hgg
  obtain rfl := Option.some.inj hgg
  exact Kol.ext_new κ hb
structure Ev where
 node : Nat
 start : Nat
 own : Nat
 il : Bool
def Ev.cells (x : Ev) : List Value := [.int .i64 x.node, .int .i64 x.start, .int .i64 x.own, .bool x.il]
def evCells (l : List Ev) : List Value := l.flatMap Ev.cells
structure LogK (κ : Kol) (i : Nat) (w : World) (b nodes : Nat) (ev : List Ev) (cn : List Int) : Prop where
 len : cn.length = nodes * 6
 row : ∃ v g, BlkK κ i w b #[v, .slice (some ⟨g, 0, none⟩) nodes nodes] 156 ∧ BlkK κ (i + 1) w g (cn.map (Value.int .i64)).toArray 67 ∧ RowG κ (i + 2) w 99 4 v ev.length (evCells ev)
theorem LogK.upd {I : Nat → Prop} {κ κ1 : Kol} {i b nodes : Nat} {w w1 : World} {ev : List Ev} {cn : List Int} (h : LogK κ i w b nodes ev cn) (k : Upd I κ w κ1 w1) (hi : ∀ c, c < 3 → ¬ I (i + c)) : LogK κ1 i w1 b nodes ev cn := by
 obtain ⟨h0, v, g, h1, h2, h3⟩ := h
 exact ⟨h0, v, g, h1.upd k (hi 0 (by omega)), h2.upd k (hi 1 (by omega)), h3.upd k (hi 2 (by omega))⟩
theorem made_counts (m : Nat) : madeCells (Value.agg (Array.replicate 6 (.int .i64 0))).cells (m * 6) = ((List.replicate (m * 6) (0 : Int)).map (Value.int .i64)).toArray := by
 unfold madeCells
 apply Array.ext
 ·simp
 ·intro j h1 h2
  have hj : j % 6 < 6 := Nat.mod_lt _ (by decide)
  simp [Value.cells, hj]
theorem log_new (κ : Kol) (i nodes : Nat) (hn : 1 ≤ nodes) (hn2 : nodes ≤ 8) (w : World) :
 Calls Tryz.prog 142 #[.int .i64 nodes] w fun e w' => ∃ κ' b, e = .returned (.tuple #[.pointer (some ⟨b, 0, none⟩), .int .i64 0]) ∧ LogK κ' i w' b nodes [] (List.replicate (nodes * 6) 0) ∧ w.heap.size ≤ b ∧ (∀ x, x < w.heap.size → κ' x = κ x) ∧ RowKit.Below w.heap.size w w' := by
 have hinfo : (Tryz.prog.info? 67).map (fun i => (i.zero, i.size, i.bytes)) = some (some (.agg (Array.replicate 6 (.int .i64 0))), 6, 48) := by kernel_rfl
 have hmk : ∀ W : World, (Instr.makeSlice 154 (.int .i64 (nodes : Int)) (.int .i64 (nodes : Int))).run Tryz.prog W = .ok (.slice (some ⟨W.heap.size, 0, none⟩) nodes nodes) (W.alloc (.cells ((List.replicate (nodes * 6) (0 : Int)).map (Value.int .i64)).toArray 67)) := by
  intro W
  obtain ⟨it, hi, hzz⟩ := Option.map_eq_some_iff.1 hinfo
  simp only [Prod.mk.injEq] at hzz
  obtain ⟨hz, hs, hb2⟩ := hzz
  have h := run_make (P := Tryz.prog) W 154 67 it _ Tryz.underlying154 hi hz .i64 .i64 (nodes : Int) (nodes : Int) (by omega) (Int.le_refl _) (by rw [hb2]; omega) (by omega)
  rw [h, hs]
  simp only [Int.toNat_natCast]
  rw [made_counts]
 have n1 : (1 : Int) ≤ (nodes : Int) := by omega
 have n2 : (nodes : Int) ≤ 8 := by omega
 clear hinfo
 go_enter Tryz.func142, Tryz.ntmps142
 go_wp2_with fail
 go_ret2
 refine ⟨fun x => if x < w.heap.size then κ x else if x = w.heap.size then i + 1 else i, w.heap.size + 1, rfl, ⟨by simp, .slice none 0 0, w.heap.size, ⟨?_, Blk.new1 w _ _ _⟩, ⟨?_, by rw [show ((List.replicate (nodes * 6) (0 : Int)).map (Value.int .i64)).toArray = Array.replicate (nodes * 6) (.int .i64 0) by simp]; exact (Blk.new w _ _).alloc _⟩, RowG.nil _ _ _ _ _⟩, by omega, fun x hx => if_pos hx, below_alloc (below_alloc (RowKit.Below.refl _ _) _) _⟩
 ·show (if w.heap.size + 1 < w.heap.size then _ else _) = _
  rw [if_neg (by omega), if_neg (by omega)]
 ·show (if w.heap.size < w.heap.size then _ else _) = _
  rw [if_neg (by omega), if_pos rfl]
theorem log_node (b g nodes n : Nat) (v : Value) (hn : n < nodes) (hN : nodes ≤ 100000) (w : World) (h : Blk w b #[v, .slice (some ⟨g, 0, none⟩) nodes nodes] 156) :
 Calls Tryz.prog 80 #[.pointer (some ⟨b, 0, none⟩), .int .i64 n] w fun e w' => e = .returned (.pointer (some ⟨g, n * 6, none⟩)) ∧ w' = w := by
 have s1 := h.at 1 (.slice (some ⟨g, 0, none⟩) nodes nodes) rfl
 have n0 : (0 : Int) ≤ (n : Int) := by omega
 have nI : (n : Int) < (nodes : Int) := by omega
 have d0 : decide ((n : Int) < 0) = false := decide_eq_false (by omega)
 have d1 : decide (nodes ≤ n) = false := decide_eq_false (by omega)
 clear h
 go_enter Tryz.func80, Tryz.ntmps80
 go_wp2_with fail
 go_ret
 exact ⟨rfl, rfl⟩
end Go.Proofs.YtenkdmloolbdaaaGreatDoor.T
end
