/- A new buddy. Buddies: Take and Free. -/
import Derived.Test.YtenkdmloolbdaaaGreatDoorV05
section
namespace Go.Proofs.YtenkdmloolbdaaaGreatDoor.T
open Go.RowKit Go.Maps Go.WideShapes Go.Proofs.YtenkdmloolbdaaaGreatDoorW.PrintWords Go.Proofs.YtenkdmloolbdaaaGreatDoorW.PrintLast Go.Proofs.YtenkdmloolbdaaaGreatDoorW.PrintMore
set_option linter.unusedVariables false
set_option linter.unusedSimpArgs false
/-- A buddy's cells, of any values where the sets stand. -/
def budC (n : Nat) (v : Nat → Value) (t : Nat) : Array Value := #[.int .i64 n, v 0, v 1, v 2, v 3, v 4, v 5, v 6, v 7, v 8, v 9, v 10, .map (some t)]
theorem budC_at (n : Nat) (v : Nat → Value) (t k : Nat) (hk : k < 11) : (budC n v t)[1 + k]? = some (v k) := by
  match k, hk with
  | 0, _ => rfl
  | 1, _ => rfl
  | 2, _ => rfl
  | 3, _ => rfl
  | 4, _ => rfl
  | 5, _ => rfl
  | 6, _ => rfl
  | 7, _ => rfl
  | 8, _ => rfl
  | 9, _ => rfl
  | 10, _ => rfl
theorem budC_set (n : Nat) (v : Nat → Value) (t k : Nat) (hk : k < 11) (u : Value) : (budC n v t).setIfInBounds (1 + k) u = budC n (fun j => if j = k then u else v j) t := by
  match k, hk with
  | 0, _ => rfl
  | 1, _ => rfl
  | 2, _ => rfl
  | 3, _ => rfl
  | 4, _ => rfl
  | 5, _ => rfl
  | 6, _ => rfl
  | 7, _ => rfl
  | 8, _ => rfl
  | 9, _ => rfl
  | 10, _ => rfl
theorem budC_eq {n t : Nat} {v u : Nat → Value} (h : ∀ k, k < 11 → v k = u k) : budC n v t = budC n u t := by
  unfold budC
  rw [h 0 (by decide), h 1 (by decide), h 2 (by decide), h 3 (by decide), h 4 (by decide), h 5 (by decide), h 6 (by decide), h 7 (by decide), h 8 (by decide), h 9 (by decide), h 10 (by decide)]
def p2s : List Nat := [1, 2, 4, 8, 16, 32, 64, 128, 256, 512, 1024]
theorem p2_and : ∀ n ∈ p2s, Go.bits .and .i64 ((n : Nat) : Int) ((n : Int) - 1) = 0 := by decide +kernel
theorem p2_le : ∀ n ∈ p2s, 1 ≤ n ∧ n ≤ 1024 := by decide +kernel
theorem shl_64 : ∀ j : Nat, j < 11 → wrap64 ((2 : Int) ^ j) = ((2 ^ j : Nat) : Int) := by decide +kernel
/-- The free runs of an order of a new buddy. -/
def iniS (n k : Nat) : List Nat := if 2 ^ k = n then [0] else []
theorem Upd.of_grown {κ : Kol} {i b : Nat} {w w1 : World} (h : w.grownBy w1 (some b)) (hk : κ b = i) : Upd (· = i) κ w κ w1 :=
  ⟨fun _ _ => rfl, ⟨h.os, h.tape, h.output, h.size, fun x hx hne => h.block x hx (fun e => hne (by injection e with e; rw [e]; exact hk))⟩⟩
def RelNew (κ : Kol) (i n : Nat) (w : World) (b t : Nat) (v23 : Value) (wr : World) : Prop :=
  ∃ (j : Nat) (m : Nat → Nat) (κ1 : Kol), v23 = .int .i64 ((j : Nat) : Int) ∧ j ≤ 11 ∧ BlkK κ1 i wr b (budC n (fun k => if k < j then .map (some (m k)) else .map none) t) 199 ∧ (∀ k, k < j → SetK κ1 (i + 1 + k) wr (m k) (iniS n k)) ∧ MapI κ1 (i + 12) wr t 0 (fun _ => none) ∧ (∀ x, x < w.heap.size → κ1 x = κ x) ∧ RowKit.Below w.heap.size w wr
theorem RelNew.step {κ κ1 : Kol} {i n j b t : Nat} {m : Nat → Nat} {w wr w1 : World} (hlt : j < 11) (hb : BlkK κ1 i wr b (budC n (fun k => if k < j then .map (some (m k)) else .map none) t) 199) (hs : ∀ k, k < j → SetK κ1 (i + 1 + k) wr (m k) (iniS n k)) (ht : MapI κ1 (i + 12) wr t 0 (fun _ => none)) (hκ : ∀ x, x < w.heap.size → κ1 x = κ x) (hB : RowKit.Below w.heap.size w wr) (hbw : w.heap.size ≤ b)
    (hU : Upd (· = i + 1 + j) (κ1.ext wr.heap.size (i + 1 + j)) ((wr.alloc (.map #[] 0)).setCell ⟨b, 1 + j, none⟩ (.map (some wr.heap.size))) (κ1.ext wr.heap.size (i + 1 + j)) w1) (hset : SetK (κ1.ext wr.heap.size (i + 1 + j)) (i + 1 + j) w1 wr.heap.size (iniS n j)) (hB1 : RowKit.Below w.heap.size ((wr.alloc (.map #[] 0)).setCell ⟨b, 1 + j, none⟩ (.map (some wr.heap.size))) w1) :
    RelNew κ i n w b t (.int .i64 (((j + 1 : Nat)) : Int)) w1 := by
  have hU1 : Upd (fun _ => False) κ1 wr (κ1.ext wr.heap.size (i + 1 + j)) (wr.alloc (.map #[] 0)) := (Upd.of_below κ1 (below_alloc (RowKit.Below.refl _ _) _)).paint _ _ (Nat.le_refl _)
  have hb1 := hb.upd hU1 (fun h => h)
  have hU2 : Upd (· = i) (κ1.ext wr.heap.size (i + 1 + j)) (wr.alloc (.map #[] 0)) (κ1.ext wr.heap.size (i + 1 + j)) ((wr.alloc (.map #[] 0)).setCell ⟨b, 1 + j, none⟩ (.map (some wr.heap.size))) := (Upd.refl _ _ _).set ⟨b, 1 + j, none⟩ (fun _ => hb1.kol) _
  have hb2 := (hb1.set (1 + j) (.map (some wr.heap.size))).upd hU (by omega)
  rw [budC_set n _ t j hlt] at hb2
  refine ⟨j + 1, fun k => if k = j then wr.heap.size else m k, κ1.ext wr.heap.size (i + 1 + j), rfl, hlt, ?_, fun k hk => ?_, ((ht.upd hU1 (fun h => h)).upd hU2 (by omega)).upd hU (by omega), fun x hx => (Kol.ext_old κ1 (Nat.lt_of_lt_of_le hx hB.size)).trans (hκ x hx), ?_⟩
  · rw [budC_eq (u := fun k => if k < j + 1 then .map (some (if k = j then wr.heap.size else m k)) else .map none)] at hb2
    · exact hb2
    · intro k hk
      by_cases e : k = j
      · subst e; simp
      · by_cases e2 : k < j
        · simp [e, e2, show k < j + 1 by omega]
        · simp [e, e2, show ¬ k < j + 1 by omega]
  · by_cases e : k = j
    · subst e; simpa using hset
    · simp only [if_neg e]
      exact (((hs k (by omega)).upd hU1 (fun h => h)).upd hU2 (by omega)).upd hU (by omega)
  · have h1 : RowKit.Below w.heap.size w ((wr.alloc (.map #[] 0)).setCell ⟨b, 1 + j, none⟩ (.map (some wr.heap.size))) := RowKit.Below.setCell (p := ⟨b, 1 + j, none⟩) (below_alloc hB _) hbw _
    exact h1.trans hB1
set_option maxHeartbeats 2000000 in
set_option maxRecDepth 100000 in
theorem bud_new (κ : Kol) (i n : Nat) (hn : n ∈ p2s) (w : World) :
    Calls Tryz.prog 137 #[.int .i64 n] w fun e w' => ∃ κ' b, e = .returned (.tuple #[.pointer (some ⟨b, 0, none⟩), .int .i64 0]) ∧ BuddyK κ' i w' b n 0 (iniS n) (fun _ => none) ∧ w.heap.size ≤ b ∧ (∀ x, x < w.heap.size → κ' x = κ x) ∧ RowKit.Below w.heap.size w w' := by
  have hle := p2_le n hn
  have n1 : (1 : Int) ≤ (n : Int) := by omega
  have n2 : (n : Int) ≤ 1024 := by omega
  have ea := p2_and n hn
  have ew : wrap64 ((n : Int) - 1) = (n : Int) - 1 := IntWalk.wrap64_in _ ⟨by omega, by omega⟩
  have hmm := @run_makeMap Tryz.prog
  clear hn hle
  go_enter Tryz.func137, Tryz.ntmps137
  go_wp2_with fail
  have H0 := Aside0.mk (show RelNew κ i n w (w.heap.size + 1) w.heap.size (.int .i64 0) ((w.alloc (.map #[] 0)).alloc (.cells #[.int .i64 n, .map none, .map none, .map none, .map none, .map none, .map none, .map none, .map none, .map none, .map none, .map none, .map (some w.heap.size)] 199)) from by
    refine ⟨0, fun _ => 0, fun x => if x < w.heap.size then κ x else if x = w.heap.size then i + 12 else i, rfl, Nat.zero_le _, ⟨?_, Blk.new1 w _ _ _⟩, fun k hk => absurd hk (Nat.not_lt_zero _), ⟨?_, .map [], (World.ownsMap_made w _ _ _).alloc _, fun k _ => ⟨rfl, rfl⟩⟩, fun x hx => if_pos hx, below_alloc (below_alloc (RowKit.Below.refl _ _) _) _⟩
    · show (if w.heap.size + 1 < w.heap.size then _ else _) = _
      rw [if_neg (by omega), if_neg (by omega)]
    · show (if w.heap.size < w.heap.size then _ else _) = _
      rw [if_neg (by omega), if_pos rfl])
  go_loopw [5, 23] (fun _ v23 wr => RelNew κ i n w (w.heap.size + 1) w.heap.size v23 wr) (fun _ v23 _ => 11 - (intOf v23).toNat)
  case atStart => exact H0.out
  case round =>
    clear H0
    obtain ⟨j, m, κ1, rfl, hj, hb, hs, ht, hκ, hB⟩ := hrel
    have HBK := Aside0.mk hb
    have HS := Aside0.mk hs
    have HT := Aside0.mk ht
    have HK := Aside0.mk hκ
    have HB := Aside0.mk hB
    by_cases hlt : j < 11
    · have s0 := (hb.blk.alloc (.map #[] 0)).at (1 + j) _ (budC_at n _ _ j hlt)
      have f0 := (hb.blk.alloc (.map #[] 0)).fz (1 + j)
      simp only [Nat.lt_irrefl, if_false] at s0
      have j0 : (0 : Int) ≤ (j : Int) := by omega
      have jl : (j : Int) < 11 := by omega
      have hj10 : (j : Int) + 1 ≤ 11 := by omega
      have es := shl_64 j hlt
      have hown0 : ((wr.alloc (.map #[] 0)).setCell ⟨w.heap.size + 1, 1 + j, none⟩ (.map (some wr.heap.size))).ownsMap Tryz.prog 3 (plainElem (H := Unit) Tryz.prog 4) wr.heap.size 0 (.map []) :=
        owns_chg (F := (· = w.heap.size + 1)) (World.ownsMap_made _ _ _ _) ((Chg.refl (· = w.heap.size + 1) _).set ⟨w.heap.size + 1, 1 + j, none⟩ (fun _ => rfl) _) (fun e => by have := hb.blk.lt; omega)
      have HO := Aside0.mk hown0
      clear hb hs ht hκ hB hown0
      by_cases he : 2 ^ j = n
      · have ec : (wrap64 ((2 : Int) ^ j) == (n : Int)) = true := by rw [es, he]; simp
        have HI := Aside0.mk (show iniS n j = [0] from if_pos he)
        clear es he
        go_wp2_with (at_mapUpdate; refine wpList_mapUpdate_own _ rfl _ _ _ 196 rfl 3 4 int_law Tryz.underlying196 (plainElem Tryz.prog 4) wr.heap.size 0 (.map []) rfl HO.out (by decide) _ (.bool true) (.int .i64 ((0 : Nat) : Int)) rfl rfl (keyOf_int_mk Tryz.underlying3 (by decide)) (.lit (.bool true)) [] (plainElem_bool Tryz.underlying4 true) ?_; intro w1 hown1 hg1; have HW := Aside0.mk (And.intro hown1 hg1); clear hown1 hg1)
        refine ⟨HBK.out.blk.lt |> fun _ => ?_, ?_⟩
        · have h1 := RelNew.step hlt HBK.out HS.out HT.out HK.out HB.out (by omega) (Upd.of_grown HW.out.2 (Kol.ext_new _ (Nat.le_refl _))) ⟨Kol.ext_new _ (Nat.le_refl _), _, by rw [HI.out]; exact HW.out.1, by rw [HI.out]; exact SV.put (s := []) ⟨List.nodup_nil, rfl, fun k _ => ⟨rfl, rfl⟩⟩ tidy_empty 0 (by simp) (by decide) (List.Perm.refl _)⟩ ((RowKit.Below.refl _ _).grown HW.out.2 (by have := HB.out.size; have := setCell_size (wr.alloc (.map #[] 0)) ⟨w.heap.size + 1, 1 + j, none⟩ (.map (some wr.heap.size)); rw [World.size_alloc] at this; omega) (fun k e => by injection e with e; have := HB.out.size; omega))
          exact h1
        · simp only [intOf]; omega
      · have ec : (wrap64 ((2 : Int) ^ j) == (n : Int)) = false := by rw [es]; exact beq_eq_false_iff_ne.mpr (fun e => he (by exact_mod_cast e))
        have HI := Aside0.mk (show iniS n j = [] from if_neg he)
        clear es he
        go_wp2_with fail
        refine ⟨?_, ?_⟩
        · have h1 := RelNew.step hlt HBK.out HS.out HT.out HK.out HB.out (by omega) (Upd.refl _ _ _) ⟨Kol.ext_new _ (Nat.le_refl _), .map [], by rw [HI.out]; exact HO.out, by rw [HI.out]; exact ⟨List.nodup_nil, rfl, fun k _ => ⟨rfl, rfl⟩⟩⟩ (RowKit.Below.refl _ _)
          exact h1
        · simp only [intOf]; omega
    · obtain rfl : j = 11 := by omega
      clear hb hs ht hκ hB
      go_wp2_with fail
      go_ret2
      refine ⟨κ1, w.heap.size + 1, rfl, ⟨m, w.heap.size, ?_, fun k hk => HS.out k hk, HT.out⟩, by omega, HK.out, HB.out⟩
      have := HBK.out
      rw [budC_eq (u := fun k => .map (some (m k))) (fun k hk => if_pos hk)] at this
      exact this
end Go.Proofs.YtenkdmloolbdaaaGreatDoor.T
end
section
namespace Go.Proofs.YtenkdmloolbdaaaGreatDoor.T
open Go.RowKit Go.Maps Go.WideShapes Go.Proofs.YtenkdmloolbdaaaGreatDoorW.PrintWords Go.Proofs.YtenkdmloolbdaaaGreatDoorW.PrintLast Go.Proofs.YtenkdmloolbdaaaGreatDoorW.PrintMore
set_option linter.unusedVariables false
set_option linter.unusedSimpArgs false
theorem i64o (x : Int) (h0 : -9223372036854775808 ≤ x) (h1 : x ≤ 9223372036854775807) : I64 x := by
  have e1 : IntKind.i64.min = -9223372036854775808 := rfl
  have e2 : IntKind.i64.max = 9223372036854775807 := rfl
  simp [I64, Lit.wf, e1, e2]
  omega
theorem bud_at' (n : Nat) (m : Nat → Nat) (t k : Nat) (hk : k < 11) : (budCells n m t)[1 + k]? = some (.map (some (m k))) := by rw [Nat.add_comm]; exact bud_at n m t k hk
/-- A number put into the set of an order that has none. -/
theorem BuddyK.fill {κ : Kol} {i b n c : Nat} {w : World} {fr : Nat → List Nat} {tk : Int → Option Int} (h : BuddyK κ i w b n c fr tk) (k : Nat) (hk : k < 11) (x : Nat) (hx : I64 (x : Int)) (he : fr k = []) :
    ∃ mk w1, w.cell? ⟨b, 1 + k, none⟩ = some (.map (some mk)) ∧ (Instr.mapUpdate 196 (.map (some mk)) (.int .i64 x) (.bool true)).run Tryz.prog w = .ok () w1 ∧ BuddyK κ i w1 b n c (fun j => if j = k then [x] else fr j) tk ∧ Upd (· = i + 1 + k) κ w κ w1 := by
  obtain ⟨m, t, h1, h2, h3⟩ := h
  obtain ⟨hkol, D, hown, hsv⟩ := h2 k hk
  rw [he] at hown hsv
  obtain ⟨w1, hrun, hown1, hg⟩ := hown.update int_law Tryz.underlying196 (by simp [maxLen]) (keyOf_int_mk Tryz.underlying3 hx) (plainElem_bool Tryz.underlying4 true)
  have hU := Upd.of_grown hg hkol
  refine ⟨m k, w1, h1.blk.at (1 + k) _ (bud_at' n m t k hk), hrun, ⟨m, t, h1.upd hU (by omega), fun j hj => ?_, h3.upd hU (by omega)⟩, hU⟩
  by_cases e : j = k
  · subst e
    rw [if_pos rfl]
    exact ⟨hkol, _, hown1, hsv.put (hown.tidy int_law) x (by simp) hx (List.Perm.refl _)⟩
  · rw [if_neg e]
    exact (h2 j hj).upd hU (by omega)
/-- A number taken out of the set of an order. -/
theorem BuddyK.drop {κ : Kol} {i b n c : Nat} {w : World} {fr : Nat → List Nat} {tk : Int → Option Int} (h : BuddyK κ i w b n c fr tk) (k : Nat) (hk : k < 11) (x : Nat) (r : List Nat) (hx : I64 (x : Int)) (he : fr k = x :: r) (ty : TypeId) :
    ∃ mk w1, w.cell? ⟨b, 1 + k, none⟩ = some (.map (some mk)) ∧ (Builtin.delete_ #[196, 3] ty #[.map (some mk), .int .i64 x]).run Tryz.prog w = .ok (.tuple #[]) w1 ∧ BuddyK κ i w1 b n c (fun j => if j = k then r else fr j) tk ∧ Upd (· = i + 1 + k) κ w κ w1 := by
  obtain ⟨m, t, h1, h2, h3⟩ := h
  obtain ⟨hkol, D, hown, hsv⟩ := h2 k hk
  rw [he] at hown hsv
  obtain ⟨w1, hrun, hown1, hg⟩ := hown.drop int_law Tryz.underlying196 (keyOf_int_mk Tryz.underlying3 hx) ty
  have hU := Upd.of_turned hg hkol
  refine ⟨m k, w1, h1.blk.at (1 + k) _ (bud_at' n m t k hk), hrun, ⟨m, t, h1.upd hU (by omega), fun j hj => ?_, h3.upd hU (by omega)⟩, hU⟩
  by_cases e : j = k
  · subst e
    rw [if_pos rfl]
    have hd := hsv.del (hown.tidy int_law) x (by simp) hx
    rw [List.erase_cons_head] at hd
    have ht := own_tight hown1
    rw [hd.size] at ht
    exact ⟨hkol, _, ht, hd⟩
  · rw [if_neg e]
    exact (h2 j hj).upd hU (by omega)
/-- A run noted as taken. -/
theorem BuddyK.note {κ : Kol} {i b n c : Nat} {w : World} {fr : Nat → List Nat} {tk : Int → Option Int} (h : BuddyK κ i w b n c fr tk) (x o : Nat) (hx : I64 (x : Int)) (ho : I64 (o : Int)) (hc : c < 1000000) :
    ∃ t w1, w.cell? ⟨b, 12, none⟩ = some (.map (some t)) ∧ (Instr.mapUpdate 127 (.map (some t)) (.int .i64 x) (.int .i64 o)).run Tryz.prog w = .ok () w1 ∧ BuddyK κ i w1 b n (c + 1) fr (putF tk x o) ∧ Upd (· = i + 12) κ w κ w1 := by
  obtain ⟨m, t, h1, h2, hkol, D, hown, hsv⟩ := h
  obtain ⟨w1, hrun, hown1, hg⟩ := hown.update int_law Tryz.underlying127 (by simp only [maxLen]; omega) (keyOf_int_mk Tryz.underlying3 hx) (plainElem_int Tryz.underlying3 ho)
  have hU := Upd.of_grown hg hkol
  exact ⟨t, w1, h1.blk.at 12 _ rfl, hrun, ⟨m, t, h1.upd hU (by omega), fun j hj => (h2 j hj).upd hU (by omega), hkol, _, hown1, hsv.put (hown.tidy int_law).isMap x o⟩, hU⟩
/-- A buddy's runs in order. -/
structure BudOK (n : Nat) (fr : Nat → List Nat) : Prop where
  max : n ≤ 1024
  sorted : ∀ k, k < 11 → (fr k).Pairwise (· < ·)
  lt : ∀ k, k < 11 → ∀ x ∈ fr k, x + 2 ^ k ≤ n
  len : ∀ k, k < 11 → (fr k).length ≤ 1024
/-- The runs when the first one of order K has been halved down to order kk. -/
def frAt (fr : Nat → List Nat) (K at_ kk : Nat) : Nat → List Nat := fun j => if j = K then (fr K).tail else if kk ≤ j ∧ j < K then [at_ + 2 ^ j] else fr j
theorem frAt_start (fr : Nat → List Nat) (K x : Nat) (r : List Nat) (he : fr K = x :: r) : (fun j => if j = K then r else fr j) = frAt fr K x K := by
  funext j
  unfold frAt
  by_cases e : j = K
  · subst e; simp [he]
  · simp [e, show ¬ (K ≤ j ∧ j < K) by omega]
theorem frAt_step (fr : Nat → List Nat) (K x kk : Nat) (hk : kk < K) : (fun j => if j = kk then [x + 2 ^ kk] else frAt fr K x (kk + 1) j) = frAt fr K x kk := by
  funext j
  unfold frAt
  by_cases e : j = kk
  · subst e; simp [show j ≠ K by omega, hk]
  · by_cases e2 : j = K
    · subst e2; simp [e]
    · by_cases e3 : kk ≤ j ∧ j < K
      · simp [e, e2, e3, show kk + 1 ≤ j by omega]
      · simp [e, e2, e3, show ¬ (kk + 1 ≤ j ∧ j < K) by omega]
theorem above_is {fr : Nat → List Nat} {o K : Nat} {r : Option Nat} (hmin : ∀ j, o ≤ j → j < K → fr j = []) (hn : fr K ≠ []) (ho : o ≤ K) (hK : K < 11) (h : aboveOf fr o r) : r = some K := by
  cases r with
  | none => exact absurd (h K ho hK) hn
  | some k =>
    obtain ⟨h1, h2, h3, h4⟩ := h
    rcases Nat.lt_trichotomy k K with e | e | e
    · exact absurd (hmin k h1 e) h3
    · rw [e]
    · exact absurd (h4 K ho e) hn
def RelTk (κ : Kol) (i b n c o K x : Nat) (fr : Nat → List Nat) (tk : Int → Option Int) (w : World) (v6 : Value) (wr : World) : Prop :=
  ∃ kk : Nat, v6 = .int .i64 kk ∧ o ≤ kk ∧ kk ≤ K ∧ BuddyK κ i wr b n c (frAt fr K x kk) tk ∧ Upd (fun y => i < y ∧ y < i + 12) κ w κ wr
theorem pow_le11 : ∀ j : Nat, j < 11 → 2 ^ j ≤ 1024 := by decide
set_option maxHeartbeats 4000000 in
set_option maxRecDepth 100000 in
theorem take_bud [SortI] (κ : Kol) (i b n c o K x : Nat) (r : List Nat) (fr : Nat → List Nat) (tk : Int → Option Int) (ho : o ≤ K) (hK : K < 11) (hx : fr K = x :: r) (hmin : ∀ j, o ≤ j → j < K → fr j = []) (hok : BudOK n fr) (hc : c < 1000000) (w : World) (h : BuddyK κ i w b n c fr tk) :
    Calls Tryz.prog 155 #[.pointer (some ⟨b, 0, none⟩), .int .i64 o] w fun e w' => e = .returned (.tuple #[.int .i64 x, .int .i64 0]) ∧ BuddyK κ i w' b n (c + 1) (frAt fr K x o) (putF tk x o) ∧ Upd (fun y => i < y ∧ y < i + 13) κ w κ w' := by
  have hxl := hok.lt K hK x (by rw [hx]; simp)
  have hmx := hok.max
  have hpK := Nat.one_le_two_pow (n := K)
  have HR := Aside0.mk (right_own b o (by omega) w)
  have HA := Aside0.mk (above_own κ i b n c o fr tk (by omega) w h)
  have HF := Aside0.mk (first_own κ i b n c K fr tk hK x r hx (hok.sorted K hK) (by have := hok.len K hK; omega) (fun y hy => i64o _ (by omega) (by have := hok.lt K hK y hy; omega)) w h)
  have HBK := Aside0.mk h
  have HM := Aside0.mk hmin
  have HX := Aside0.mk hx
  have hx1 : x < 1024 := by omega
  have HXL := Aside0.mk (show x + 2 ^ K ≤ 1024 by omega)
  clear h hmin hok hxl hmx hpK
  go_enter Tryz.func155, Tryz.ntmps155
  go_wp2_with (first | (go_at_call 129; (with_reducible refine HR.out.mono ?_); rintro e_ w1 ⟨rfl, rfl⟩) | (go_at_call 130; (with_reducible refine HA.out.mono ?_); rintro e_ w1 ⟨r1, rfl, hr, rfl⟩; obtain rfl : r1 = some K := above_is HM.out (by rw [HX.out]; simp) ho hK hr; clear hr) | (go_at_call 197; (with_reducible refine HF.out.mono ?_); rintro e_ w2 ⟨rfl, hb2⟩; have HB2 := Aside0.mk hb2; obtain ⟨mk, w3, s0, hdel, hbud, hu3⟩ := (HBK.out.upd (I := fun _ => False) (Upd.of_below κ hb2) (fun _ _ h => h)).drop K hK x r (i64o _ (by omega) (by omega)) HX.out 0; have HB3 := Aside0.mk hbud; have HU3 := Aside0.mk hu3; clear hb2 hbud hu3))
  have H0 := Aside0.mk (show RelTk κ i b n c o K x fr tk w1 (.int .i64 K) w3 from ⟨K, rfl, ho, Nat.le_refl _, by rw [← frAt_start fr K x r HX.out]; exact HB3.out, (Upd.of_below κ HB2.out).then HU3.out (fun y e => by omega)⟩)
  clear HB3 HU3 HBK
  go_loopw [6] (fun v6 wr => RelTk κ i b n c o K x fr tk w1 v6 wr) (fun v6 _ => (intOf v6).toNat)
  case atStart => exact H0.out
  case round =>
    clear H0 s0
    obtain ⟨kk, rfl, hk1, hk2, hbud, hu⟩ := hrel
    have HBK := Aside0.mk hbud
    have HU := Aside0.mk hu
    clear hbud hu
    by_cases hlt : o < kk
    · obtain ⟨jj, rfl⟩ : ∃ jj, kk = jj + 1 := ⟨kk - 1, by omega⟩
      have hltI : (o : Int) < (jj : Int) + 1 := by omega
      have e1 : wrap64 ((jj : Int) + 1 - 1) = (jj : Int) := by rw [show (jj : Int) + 1 - 1 = jj by omega]; exact IntWalk.wrap64_in _ ⟨by omega, by omega⟩
      have e0 : wrap64 (jj : Int) = (jj : Int) := IntWalk.wrap64_in _ ⟨by omega, by omega⟩
      have es := shl_64 jj (by omega)
      obtain ⟨mk, hmk⟩ : ∃ mk, wr.cell? ⟨b, 1 + jj, none⟩ = some (.map (some mk)) := by obtain ⟨m, t, h1, _⟩ := HBK.out; exact ⟨_, h1.blk.at (1 + jj) _ (bud_at' n m t jj (by omega))⟩
      have hq1 := pow_le11 jj (by omega)
      obtain ⟨q, hq⟩ : ∃ q, 2 ^ jj = q := ⟨_, rfl⟩
      rw [hq] at es hq1
      have HQ := Aside0.mk hq
      have hI := i64o ((x + q : Nat) : Int) (by omega) (by omega)
      have HI := Aside0.mk hI
      have j0 : (0 : Int) ≤ (jj : Int) := by omega
      have jl : (jj : Int) < 11 := by omega
      have ea : wrap64 ((x : Int) + (q : Int)) = ((x + q : Nat) : Int) := by rw [show (x : Int) + (q : Int) = ((x + q : Nat) : Int) by omega]; exact IntWalk.wrap64_in _ ⟨by omega, by omega⟩
      clear hq hq1 hI
      go_upto_region 10 with fail
      refine start_ (n := 13) (S := fun w' => w'.cell? ⟨b, 1 + jj, none⟩ = some (.map (some mk))) (ds := [12]) #[false, false, false, false, false, false, false, false, false, false, false, false, false] (by kernel_rfl) rfl rfl (hmk) (fun hHeld => ?_)
      have hd_ := below_drew (RowKit.Below.refl wr.heap.size wr)
      have n0_ := Aside0.mk (HBK.out.upd (I := fun _ => False) (Upd.of_below κ hd_) (fun _ _ h => h))
      have n1_ := Aside0.mk (HU.out.below hd_)
      clear HBK HU hd_
      generalize wr.drew = wd at *
      obtain ⟨mk2, w5, t0, hrun, hbud, hu5⟩ := n0_.out.fill jj (by omega) (x + q) HI.out (by unfold frAt; rw [if_neg (by omega), if_neg (by omega)]; exact HM.out jj (by omega) (by omega))
      obtain rfl : mk2 = mk := by have e_ := hHeld.symm.trans t0; injection e_ with e_; injection e_ with e_; injection e_ with e_; exact e_.symm
      clear t0
      rw [Int.natCast_add] at hrun
      have HB5 := Aside0.mk hbud
      have HU5 := Aside0.mk hu5
      clear hbud hu5
      refine pure_ (i := 0) (N := some 36) (v := ?_) (a' := ?_) #[true, false, false, false, false, false, false, false, false, false, false, false, false] rfl rfl (by kernel_rfl) (fun _ _ _ h => h) (Or.inl ⟨by rfl, ?_⟩) ?_ ?_
      rotate_left
      · intro w'
        go_simp
        with_reducible rfl
      rotate_left
      · simp only [Act.put, List.setIfInBounds_toArray, List.set_cons_zero, List.set_cons_succ, i64_w, i32_w]
        rfl
      refine pure_ (i := 1) (N := some 37) (v := ?_) (a' := ?_) #[true, true, false, false, false, false, false, false, false, false, false, false, false] rfl rfl (by kernel_rfl) (fun _ _ _ h => h) (Or.inl ⟨by rfl, ?_⟩) ?_ ?_
      rotate_left
      · intro w'
        go_simp
        with_reducible rfl
      rotate_left
      · simp only [Act.put, List.setIfInBounds_toArray, List.set_cons_zero, List.set_cons_succ, i64_w, i32_w]
        rfl
      refine pure_ (i := 2) (N := some 38) (v := ?_) (a' := ?_) #[true, true, true, false, false, false, false, false, false, false, false, false, false] rfl rfl (by kernel_rfl) (fun _ _ _ h => h) (Or.inl ⟨by rfl, ?_⟩) ?_ ?_
      rotate_left
      · intro w'
        go_simp
        with_reducible rfl
      rotate_left
      · simp only [Act.put, List.setIfInBounds_toArray, List.set_cons_zero, List.set_cons_succ, i64_w, i32_w]
        rfl
      refine pure_ (i := 3) (N := some 39) (v := ?_) (a' := ?_) #[true, true, true, true, false, false, false, false, false, false, false, false, false] rfl rfl (by kernel_rfl) (fun _ _ _ h => h) (Or.inl ⟨by rfl, ?_⟩) ?_ ?_
      rotate_left
      · intro w'
        go_simp
        with_reducible rfl
      rotate_left
      · simp only [Act.put, List.setIfInBounds_toArray, List.set_cons_zero, List.set_cons_succ, i64_w, i32_w]
        rfl
      refine pure_ (i := 4) (N := some 40) (v := ?_) (a' := ?_) #[true, true, true, true, true, false, false, false, false, false, false, false, false] rfl rfl (by kernel_rfl) (fun _ _ _ h => h) (Or.inl ⟨by rfl, ?_⟩) ?_ ?_
      rotate_left
      · intro w'
        go_simp
        with_reducible rfl
      rotate_left
      · simp only [Act.put, List.setIfInBounds_toArray, List.set_cons_zero, List.set_cons_succ, i64_w, i32_w]
        rfl
      refine pure_ (i := 5) (N := some 41) (v := ?_) (a' := ?_) #[true, true, true, true, true, true, false, false, false, false, false, false, false] rfl rfl (by kernel_rfl) (fun _ _ _ h => h) (Or.inl ⟨by rfl, ?_⟩) ?_ ?_
      rotate_left
      · intro w'
        go_simp
        with_reducible rfl
      rotate_left
      · simp only [Act.put, List.setIfInBounds_toArray, List.set_cons_zero, List.set_cons_succ, i64_w, i32_w]
        rfl
      refine pure_ (i := 7) (N := some 43) (v := ?_) (a' := ?_) #[true, true, true, true, true, true, false, true, false, false, false, false, false] rfl rfl (by kernel_rfl) (fun _ _ _ h => h) (Or.inl ⟨by rfl, ?_⟩) ?_ ?_
      rotate_left
      · intro w'
        go_simp
        with_reducible rfl
      rotate_left
      · simp only [Act.put, List.setIfInBounds_toArray, List.set_cons_zero, List.set_cons_succ, i64_w, i32_w]
        rfl
      refine pure_ (i := 8) (N := some 44) (v := ?_) (a' := ?_) #[true, true, true, true, true, true, false, true, true, false, false, false, false] rfl rfl (by kernel_rfl) (fun _ _ _ h => h) (Or.inl ⟨by rfl, ?_⟩) ?_ ?_
      rotate_left
      · intro w'
        go_simp
        with_reducible rfl
      rotate_left
      · simp only [Act.put, List.setIfInBounds_toArray, List.set_cons_zero, List.set_cons_succ, i64_w, i32_w]
        rfl
      refine pure_ (i := 9) (N := some 45) (v := ?_) (a' := ?_) #[true, true, true, true, true, true, false, true, true, true, false, false, false] rfl rfl (by kernel_rfl) (fun _ _ _ h => h) (Or.inl ⟨by rfl, ?_⟩) ?_ ?_
      rotate_left
      · intro w'
        go_simp
        with_reducible rfl
      rotate_left
      · simp only [Act.put, List.setIfInBounds_toArray, List.set_cons_zero, List.set_cons_succ, i64_w, i32_w]
        rfl
      refine pure_ (i := 10) (N := some 46) (v := ?_) (a' := ?_) #[true, true, true, true, true, true, false, true, true, true, true, false, false] rfl rfl (by kernel_rfl) (fun _ _ _ h => h) (Or.inl ⟨by rfl, ?_⟩) ?_ ?_
      rotate_left
      · intro w'
        go_simp
        with_reducible rfl
      rotate_left
      · simp only [Act.put, List.setIfInBounds_toArray, List.set_cons_zero, List.set_cons_succ, i64_w, i32_w]
        rfl
      refine pure_ (i := 11) (N := some 47) (v := ?_) (a' := ?_) #[true, true, true, true, true, true, false, true, true, true, true, true, false] rfl rfl (by kernel_rfl) (fun _ _ _ h => h) (Or.inl ⟨by rfl, ?_⟩) ?_ ?_
      rotate_left
      · intro w'
        go_simp
        with_reducible rfl
      rotate_left
      · simp only [Act.put, List.setIfInBounds_toArray, List.set_cons_zero, List.set_cons_succ, i64_w, i32_w]
        rfl
      refine take_ (i := 6) (N := some 42) (v := ?_) (a' := ?_) #[true, true, true, true, true, true, true, true, true, true, true, true, false] rfl rfl (by kernel_rfl) (fun _ _ _ h => h) (Or.inl ⟨by rfl, ?_⟩) hHeld ?_ ?_
      rotate_left
      · intro w' s0
        go_simp
        with_reducible rfl
      rotate_left
      · simp only [Act.put, List.setIfInBounds_toArray, List.set_cons_zero, List.set_cons_succ, i64_w, i32_w]
        rfl
      refine last_ (i := 12) (N := none) #[true, true, true, true, true, true, true, true, true, true, true, true, true] rfl rfl (by kernel_rfl) (by decide) (fun K hK => ?_)
      refine skip_ (w1 := ?_) (by rfl) rfl ?_ ?_
      rotate_left
      · go_simp
        rfl
      refine hK.out _ _ ?_
      clear hK K
      refine done_ (by kernel_rfl) ?_
      go_wp2_with fail
      refine ⟨⟨jj, by simp, by omega, by omega, ?_, n1_.out.then HU5.out (fun y e => by omega)⟩, ?_⟩
      · rw [← frAt_step fr K x jj (by omega), HQ.out]
        exact HB5.out
      · simp only [intOf]; omega
    · obtain rfl : kk = o := by omega
      obtain ⟨t, w6, s12, hrun6, hb6, hu6⟩ := HBK.out.note x kk (i64o _ (by omega) (by omega)) (i64o _ (by omega) (by omega)) hc
      have HB6 := Aside0.mk hb6
      have HU6 := Aside0.mk hu6
      clear hb6 hu6 HBK
      go_wp2_with fail
      go_ret2
      exact ⟨rfl, HB6.out, (HU.out.mono (J := fun y => i < y ∧ y < i + 13) (fun y e => by omega)).then HU6.out (fun y e => by omega)⟩
/-- How many frames are free. -/
def freeS (fr : Nat → List Nat) : Nat → Nat
  | 0 => 0
  | k + 1 => freeS fr k + (fr k).length * 2 ^ k
theorem freeS_le {fr : Nat → List Nat} (h : ∀ k, k < 11 → (fr k).length ≤ 1024) : ∀ k, k ≤ 11 → freeS fr k ≤ 1024 * 2 ^ k
  | 0, _ => by simp [freeS]
  | k + 1, hk => by
    have h1 := freeS_le h k (by omega)
    have h2 : (fr k).length * 2 ^ k ≤ 1024 * 2 ^ k := Nat.mul_le_mul_right _ (h k (by omega))
    rw [freeS, Nat.pow_succ]
    omega
theorem idx_free (m : Nat → Nat) (j : Nat) (hj : j < 11) (w : World) : (Instr.index 197 (.agg #[.map (some (m 0)), .map (some (m 1)), .map (some (m 2)), .map (some (m 3)), .map (some (m 4)), .map (some (m 5)), .map (some (m 6)), .map (some (m 7)), .map (some (m 8)), .map (some (m 9)), .map (some (m 10))]) (.int .i64 (j : Int))).run Tryz.prog w = .ok (.map (some (m j))) w := by
  match j, hj with
  | 0, _ => simp [Instr.index, run_underlying Tryz.underlying197, asIntOf, part, Tryz.sizeOf196, Tryz.isAgg196]
  | 1, _ => simp [Instr.index, run_underlying Tryz.underlying197, asIntOf, part, Tryz.sizeOf196, Tryz.isAgg196]
  | 2, _ => simp [Instr.index, run_underlying Tryz.underlying197, asIntOf, part, Tryz.sizeOf196, Tryz.isAgg196]
  | 3, _ => simp [Instr.index, run_underlying Tryz.underlying197, asIntOf, part, Tryz.sizeOf196, Tryz.isAgg196]
  | 4, _ => simp [Instr.index, run_underlying Tryz.underlying197, asIntOf, part, Tryz.sizeOf196, Tryz.isAgg196]
  | 5, _ => simp [Instr.index, run_underlying Tryz.underlying197, asIntOf, part, Tryz.sizeOf196, Tryz.isAgg196]
  | 6, _ => simp [Instr.index, run_underlying Tryz.underlying197, asIntOf, part, Tryz.sizeOf196, Tryz.isAgg196]
  | 7, _ => simp [Instr.index, run_underlying Tryz.underlying197, asIntOf, part, Tryz.sizeOf196, Tryz.isAgg196]
  | 8, _ => simp [Instr.index, run_underlying Tryz.underlying197, asIntOf, part, Tryz.sizeOf196, Tryz.isAgg196]
  | 9, _ => simp [Instr.index, run_underlying Tryz.underlying197, asIntOf, part, Tryz.sizeOf196, Tryz.isAgg196]
  | 10, _ => simp [Instr.index, run_underlying Tryz.underlying197, asIntOf, part, Tryz.sizeOf196, Tryz.isAgg196]
def RelFr (w : World) (fr : Nat → List Nat) (v3 v12 : Value) (wr : World) : Prop := wr = w ∧ ∃ j : Nat, v12 = .int .i64 j ∧ v3 = .int .i64 (freeS fr j) ∧ j ≤ 11
set_option maxHeartbeats 2000000 in
set_option maxRecDepth 100000 in
theorem free_bud (κ : Kol) (i b n c : Nat) (fr : Nat → List Nat) (tk : Int → Option Int) (hl : ∀ k, k < 11 → (fr k).length ≤ 1024) (w : World) (h : BuddyK κ i w b n c fr tk) :
    Calls Tryz.prog 75 #[.pointer (some ⟨b, 0, none⟩)] w fun e w' => e = .returned (.int .i64 (freeS fr 11)) ∧ w' = w := by
  obtain ⟨m, t, h1, h2, h3⟩ := h
  have s1 := h1.blk.at 1 (.map (some (m 0))) rfl
  have s2 := h1.blk.at 2 (.map (some (m 1))) rfl
  have s3 := h1.blk.at 3 (.map (some (m 2))) rfl
  have s4 := h1.blk.at 4 (.map (some (m 3))) rfl
  have s5 := h1.blk.at 5 (.map (some (m 4))) rfl
  have s6 := h1.blk.at 6 (.map (some (m 5))) rfl
  have s7 := h1.blk.at 7 (.map (some (m 6))) rfl
  have s8 := h1.blk.at 8 (.map (some (m 7))) rfl
  have s9 := h1.blk.at 9 (.map (some (m 8))) rfl
  have s10 := h1.blk.at 10 (.map (some (m 9))) rfl
  have s11 := h1.blk.at 11 (.map (some (m 10))) rfl
  have HS := Aside0.mk h2
  have HL := Aside0.mk hl
  have HI := Aside0.mk (idx_free m)
  clear h1 h2 h3 hl
  go_enter Tryz.func75, Tryz.ntmps75
  go_wp2_with fail
  have H0 := Aside0.mk (show RelFr w fr (.int .i64 0) (.int .i64 0) w from ⟨rfl, 0, rfl, rfl, by omega⟩)
  clear s1 s2 s3 s4 s5 s6 s7 s8 s9 s10 s11
  go_loopw [3, 4, 5, 12] (fun v3 _ _ v12 wr => RelFr w fr v3 v12 wr) (fun _ _ _ v12 _ => 11 - (intOf v12).toNat)
  case atStart => exact H0.out
  case round =>
    clear H0
    obtain ⟨rfl, j, rfl, rfl, hj⟩ := hrel
    by_cases hlt : j < 11
    · have hltI : (j : Int) < 11 := by omega
      have j0 : (0 : Int) ≤ (j : Int) := by omega
      have hidx := HI.out j hlt
      have hlen := (HS.out j hlt).len
      have hle := HL.out j hlt
      have hp := pow_le11 j hlt
      have hfl := freeS_le HL.out j (by omega)
      have HF := Aside0.mk (show freeS fr (j + 1) = freeS fr j + (fr j).length * 2 ^ j from rfl)
      obtain ⟨q, hq⟩ : ∃ q, (fr j).length = q := ⟨_, rfl⟩
      obtain ⟨a, ha⟩ : ∃ a, freeS fr j = a := ⟨_, rfl⟩
      have hm : q * 2 ^ j ≤ 1024 * 1024 := by rw [← hq]; exact Nat.mul_le_mul hle hp
      rw [hq] at hlen hle HF
      rw [ha] at hfl HF ⊢
      have hfl2 : a ≤ 1048576 := Nat.le_trans hfl (Nat.mul_le_mul_left 1024 hp)
      clear hfl hp ha hq
      go_wp2_with fail
      have c1 : (q : Int) * 2 ^ j = ((q * 2 ^ j : Nat) : Int) := by rw [Int.natCast_mul, Int.natCast_pow]; rfl
      obtain ⟨z, hz⟩ : ∃ z, q * 2 ^ j = z := ⟨_, rfl⟩
      rw [c1, hz, IntWalk.wrap64_in (z : Int) ⟨by omega, by omega⟩, IntWalk.wrap64_in ((a : Int) + (z : Int)) ⟨by omega, by omega⟩]
      refine ⟨⟨rfl, j + 1, by simp, ?_, by omega⟩, ?_⟩
      · rw [HF.out, hz]; simp
      · simp only [intOf]; omega
    · obtain rfl : j = 11 := by omega
      go_wp2_with fail
      go_ret
      exact ⟨rfl, rfl⟩
end Go.Proofs.YtenkdmloolbdaaaGreatDoor.T
end
