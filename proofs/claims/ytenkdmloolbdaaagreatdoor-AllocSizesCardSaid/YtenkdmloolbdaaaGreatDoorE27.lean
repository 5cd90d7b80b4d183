import Derived.Test.YtenkdmloolbdaaaGreatDoorE26
import Derived.Test.YtenkdmloolbdaaaGreatDoorE04
set_option linter.unusedVariables false
set_option linter.unusedSimpArgs false
set_option maxHeartbeats 8000000
set_option maxRecDepth 100000
section
namespace Go.Proofs.YtenkdmloolbdaaaGreatDoor.T
open Go.RowKit Go.Maps Go.WideShapes Go.Proofs.YtenkdmloolbdaaaGreatDoorW.PrintWords Go.Proofs.YtenkdmloolbdaaaGreatDoorW.PrintLast Go.Proofs.YtenkdmloolbdaaaGreatDoorW.PrintMore Go.Proofs.YtenkdmloolbdaaaGreatDoor.TS
theorem zeros (m : Nat) : (Builtin.zeroCells (Value.int .i64 0).cells m).toList = List.replicate m (Value.int .i64 0) := by
 apply List.ext_getElem
 ·simp [Builtin.zeroCells, Value.cells]
 ·intro i h1 h2
  simp [Builtin.zeroCells, Value.cells, Nat.mod_one]
theorem info_int : ∃ i0, Tryz.prog.info? 3 = some i0 ∧ i0.size = 1 := by
 have h : (Tryz.prog.info? 3).map (·.size) = some 1 := by kernel_rfl
 exact Option.map_eq_some_iff.1 h
theorem delete_zero (A : Option Addr) (n c : Nat) (hn : n ≤ c) (hc : n ≤ 1000000) (w : World) :
 Calls Tryz.prog 195 #[.slice A n c, .int .i64 0, .int .i64 0] w fun e w' => e = .returned (.slice A n c) ∧ w' = w := by
 go_enter Tryz.func195, Tryz.ntmps195
 go_wp2_with fail
 go_ret
 exact ⟨rfl, rfl⟩
theorem delete_ints (κ : Kol) (i : Nat) (A0 : Option Addr) (n m c0 : Nat) (l : List Int) (hn : l.length = n) (hm0 : 0 < m) (hm : m ≤ n) (w : World) (h : RowK κ i w (.slice A0 n c0) l) :
 Calls Tryz.prog 195 #[.slice A0 n c0, .int .i64 0, .int .i64 m] w fun e w' => e = .returned (.slice A0 (n - m) c0) ∧ RowK κ i w' (.slice A0 (n - m) c0) (l.drop m) ∧ Upd (· = i) κ w κ w' := by
 rcases h with ⟨_, rfl⟩ | ⟨g, cap, cur, hv, hnc, hcm, hcs, hx, hg⟩
 ·simp at hn; omega
 injection hv with ha hlen hc
 clear hlen
 subst ha; subst hc
 rw [hn] at hx hnc
 obtain ⟨i0, hi0, hz⟩ := info_int
 obtain ⟨xs, hxs⟩ : ∃ xs, l.map (Value.int .i64) = xs := ⟨_, rfl⟩
 rw [hxs] at hx
 have hxl : xs.length = n := by rw [← hxs, List.length_map, hn]
 have h1x : ∀ u ∈ xs, u.oneCell' = true := fun u hu => by
  rw [← hxs] at hu
  obtain ⟨x, _, rfl⟩ := List.mem_map.1 hu
  rfl
 have hdl : (xs.drop m).length = n - m := by rw [List.length_drop, hxl]
 have hcl0 : cur.toList.length = c0 := by rw [Array.length_toList, hcs]
 obtain ⟨cur1, hc1⟩ : ∃ c, c = cur.toList.take 0 ++ xs.drop m ++ cur.toList.drop (0 + (xs.drop m).length) := ⟨_, rfl⟩
 have l1 : cur1.length = c0 := by rw [hc1]; simp only [List.length_append, List.length_take, List.length_drop, hcl0, hxl]; omega
 have l2 : cur1.take (n - m) = xs.drop m := by rw [hc1, List.take_zero, List.nil_append, List.take_append_of_le_length (by rw [hdl]; exact Nat.le_refl _), List.take_of_length_le (by rw [hdl]; exact Nat.le_refl _)]
 obtain ⟨A1, hA1, hsrc⟩ : ∃ A : Addr, (if c0 = m then some (⟨g, 0, none⟩ : Addr) else some ⟨g, m, none⟩) = some A ∧ (∀ t u, (xs.drop m)[t]? = some u → w.cell? (A.add t) = some u) := by
  by_cases h : c0 = m
  ·refine ⟨⟨g, 0, none⟩, by simp [h], fun t u hu => ?_⟩
   have h0 : (xs.drop m).length = 0 := by rw [hdl]; omega
   rw [List.length_eq_zero_iff.1 h0] at hu
   simp at hu
  ·refine ⟨⟨g, m, none⟩, by simp [h], fun t u hu => ?_⟩
   rw [Addr.add_lit]
   rw [List.getElem?_drop, ← hx, List.getElem?_take] at hu
   split at hu
   ·rw [Array.getElem?_toList] at hu
    have hgb : w.heap[g]? = some (.cells cur 3 (0, 0)) := hg.blk
    simp only [World.cell?, hgb]; exact hu
   ·cases hu
 have happ : ∀ ty cc, (Builtin.append_ #[34, 34] ty #[.slice (some ⟨g, 0, none⟩) 0 c0, .slice (some A1) (n - m) cc]).run Tryz.prog w.drew = .ok (.slice (some ⟨g, 0, none⟩) (n - m) c0) (w.drew.setRow g cur1.toArray) := fun ty cc => by
  have := run_append_room (P := Tryz.prog) w.drew 34 ty 3 i0 Tryz.underlying34 hi0 g 0 c0 cur hg.blk A1 (n - m) cc (xs.drop m) (by rw [hdl, hz]; omega) hsrc (fun u hu => h1x u (List.mem_of_mem_drop hu)) (by omega) (by rw [hdl, hz, hcs]; omega)
  rw [hz, Nat.zero_add, Nat.zero_mul] at this
  rw [hc1]; exact this
 obtain ⟨W1, hW1⟩ : ∃ W1, W1 = w.drew.setRow g cur1.toArray := ⟨_, rfl⟩
 rw [← hW1] at happ
 have hg1 : W1.heap[g]? = some (.cells cur1.toArray 3 (0, 0)) := by rw [hW1]; exact setRow_heap w.drew g cur _ _ _ hg.blk
 have hnm : n - (n - m) = m := by omega
 obtain ⟨cur2, hc2⟩ : ∃ c, c = cur1.take (n - m) ++ List.replicate m (Value.int .i64 0) ++ cur1.drop (n - m + (List.replicate m (Value.int .i64 0)).length) := ⟨_, rfl⟩
 have hcl : ∀ ty cc, (Builtin.clear_ #[34] ty #[.slice (some ⟨g, n - m, none⟩) (n - (n - m)) cc]).run Tryz.prog W1 = .ok (.tuple #[]) (W1.setRow g cur2.toArray) := fun ty cc => by
  rw [hnm, hc2]
  exact run_clear_row W1 34 3 ty _ _ Tryz.underlying34 Tryz.zeroValue3 g (n - m) m cc cur1.toArray 3 hm0 (zeros m) (fun u hu => by rw [List.eq_of_mem_replicate hu]; rfl) hg1 (by simp only [List.size_toArray, List.length_replicate]; omega)
 have l3 : cur2.length = c0 := by
  rw [hc2]; simp only [List.length_append, List.length_take, List.length_drop, List.length_replicate]; omega
 have l4 : cur2.take (n - m) = xs.drop m := by
  rw [← l2, hc2, List.append_assoc, List.take_append_of_le_length (by rw [List.length_take]; omega), List.take_take, Nat.min_self]
 have HB := ak hg
 have HFIN := ak (show RowK κ i (W1.setRow g cur2.toArray) (.slice (some ⟨g, 0, none⟩) (n - m) c0) (l.drop m) from .inr ⟨g, c0, cur2.toArray, by rw [List.length_drop, hn], by rw [List.length_drop]; omega, hcm, by rw [List.size_toArray, l3], by rw [List.length_drop, hn, List.map_drop, hxs]; exact l4, ⟨hg.kol, setRow_heap W1 g cur1.toArray _ _ _ hg1⟩⟩)
 have HU := ak (show Upd (· = i) κ w κ (W1.setRow g cur2.toArray) from by
  rw [hW1]
  exact ((Upd.of_below κ (below_drew (RowKit.Below.refl _ _))).then (Upd.setRow hg.kol _) (fun _ e => e)).then (Upd.setRow hg.kol _) (fun _ e => e))
 have hz0 : ((0 : Int) == (m : Int)) = false := beq_eq_false_iff_ne.mpr (by omega)
 have hz1 : ¬ ((0 : Int) = (m : Int)) := by omega
 have e1 : m ≤ c0 := by omega
 have e2 : (m : Int) ≤ (n : Int) := by omega
 have e3 : (0 : Int) ≤ (m : Int) := by omega
 have e7 : ¬ (c0 = 0) := by omega
 have e8 : n - m ≤ n := by omega
 have e9 : ¬ (c0 = n - m) := by omega
 have e10 : ¬ (n = 0) := by omega
 have e11 : n - m ≤ c0 := by omega
 have e12 : ((n - m : Nat) : Int) ≤ (n : Int) := by omega
 have HAPP := ak happ
 have HCL := ak hcl
 have HA1 := ak hA1
 clear hi0 hz hxl hdl hc1 l1 l2 hsrc happ hW1 hg1 hnm hc2 hcl l3 l4 hg hcs hx hcm hA1 hcl0 h1x hxs hn
 go_enter Tryz.func195, Tryz.ntmps195
 go_wp2_with fail
 have hA1 := HA1.1
 have happ := HAPP.1
 refine st_ 8 (fun w' => True) [] trivial (fun hHeld => ?_)
 refine pu_ 0 20 1 ?_
 refine pu_ 1 21 3 ?_
 refine pu_ 2 22 7 ?_
 refine pu_ 3 23 15 ?_
 refine pu_ 4 24 31 ?_
 refine pu_ 5 25 63 ?_
 refine one_ (i := 6) (N := some 26) (bz 8 127) rfl rfl (by kernel_rfl) (by decide) (fun K hK => ?_)
 refine TS.step_append_eq rfl _ _ 34 34 rfl _ _ rfl rfl (happ _ _) ?_
 refine hK.out _ _ trivial (fun hHeld => ?_)
 clear hK K
 refine no_ 26 ?_
 refine pu_ 7 0 255 ?_
 refine done_ (by kernel_rfl) ?_
 clear hA1 happ
 have hcl := HCL.1
 go_wp2_with fail
 go_ret
 exact ⟨rfl, HFIN.1, HU.1⟩
end Go.Proofs.YtenkdmloolbdaaaGreatDoor.T
end
section
namespace Go.Proofs.YtenkdmloolbdaaaGreatDoor.T
open Go.RowKit Go.Maps Go.WideShapes Go.Proofs.YtenkdmloolbdaaaGreatDoorW.PrintWords Go.Proofs.YtenkdmloolbdaaaGreatDoorW.PrintLast Go.Proofs.YtenkdmloolbdaaaGreatDoorW.PrintMore
theorem ints_mk {w : World} {a : Addr} {n : Nat} {xs : List Int} (hn : xs.length = n) (hm : n ≤ 1000000) (h : ∀ j y, xs[j]? = some y → w.cell? (a.add j) = some (.int .i64 y)) : (Kd.int .i64).C w (some a) n xs := by
 refine ⟨hn, by omega, fun _ => ⟨a, rfl, fun j y hy => ?_⟩⟩
 refine ⟨[.int .i64 y], rfl, rfl, fun i u hu => ?_⟩
 cases i with
 | zero =>
  simp at hu
  subst hu
  simpa [show (Kd.int .i64).sz = 1 from rfl] using h j y hy
 | succ i => simp at hu
theorem row_keep {α : Type} {d : Kd α} {e : Nat} {I : Nat → Prop} {κ1 κ2 : Kol} {base c : Nat} {w1 w2 : World} {v : Value} {xs : List α} (h : Kd.R d e w1 base (fun _ => True) v xs) (hk : ∀ b, base ≤ b → κ1 b = c) (hU : Upd I κ1 w1 κ2 w2) (hc : ¬ I c) : Kd.R d e w2 base (fun _ => True) v xs :=
 Kd.R_mono (Kd.R_move (Kd.R_bound h) (fun b hb => hU.chg.block b hb.2.2.1 (fun e => hc (hk b hb.2.1 ▸ e)))) (fun _ _ => trivial)
theorem clone_nil (W : World) : Calls Tryz.prog 138 #[.slice none 0 0] W fun e w' => e = .returned (.slice none 0 0) ∧ w' = W := by
 have hnil := Lib.run_eql_slice_nil (P := Tryz.prog) W 34 3 none 0 0 0 0 Tryz.underlying34
 go_enter Tryz.func138, Tryz.ntmps138
 go_wp2_with fail
 go_ret
 exact ⟨rfl, rfl⟩
theorem clone_take {κ : Kol} {i p cap q : Nat} {A : Option Addr} {l : List Int} {w : World} (h : RowK κ i w (.slice A p cap) l) (hp : l.length = p) (hq : q ≤ p) (hl : p ≤ 1000000) :
 Calls Tryz.prog 138 #[.slice A q cap] w fun e w' => ∃ v, e = .returned v ∧ Kd.R (Kd.int .i64) 3 w' w.heap.size (fun _ => True) v (l.take q) ∧ RowKit.Below w.heap.size w w' := by
 have h0 := h
 rcases h with ⟨h1, rfl⟩ | ⟨g, cap', cur, hv, _⟩
 ·injection h1 with e1 e2 e3
  subst e1; subst e2; subst e3
  obtain rfl : q = 0 := by omega
  refine (clone_nil w).mono ?_
  rintro e w' ⟨rfl, rfl⟩
  exact ⟨_, rfl, Kd.R_nil _ _ _ _ _, RowKit.Below.refl _ _⟩
 ·injection hv with e1 e2 e3
  subst e1
  have hC : (Kd.int .i64).C w (some ⟨g, 0, none⟩) q (l.take q) := ints_mk (by rw [List.length_take]; omega) (by omega) (fun j y hy => by
   rw [List.getElem?_take] at hy
   split at hy
   ·obtain ⟨g', hg, hc⟩ := h0.at j y hy
    injection hg with hg
    injection hg with hg _
    subst hg
    rw [Addr.add_lit, Nat.zero_add]
    exact hc
   ·cases hy)
  refine (clone_R ⟨g, 0, none⟩ q cap (l.take q) (by omega) w hC).mono ?_
  rintro e w' ⟨A', c', rfl, hr, hb⟩
  exact ⟨_, rfl, hr, hb⟩
theorem delete_take {κ : Kol} {i p cap q : Nat} {A : Option Addr} {l : List Int} {w : World} (h : RowK κ i w (.slice A p cap) l) (hp : l.length = p) (hq : q ≤ p) (hl : p ≤ 1000000) :
 Calls Tryz.prog 195 #[.slice A p cap, .int .i64 0, .int .i64 q] w fun e w' => e = .returned (.slice A (p - q) cap) ∧ RowK κ i w' (.slice A (p - q) cap) (l.drop q) ∧ Upd (· = i) κ w κ w' := by
 by_cases hq0 : q = 0
 ·subst hq0
  have hle : p ≤ cap := by
   obtain ⟨A', c', hv, hle⟩ := h.sl
   injection hv with _ e2 e3
   subst e3
   rw [hp] at hle
   exact hle
  refine (delete_zero A p cap hle hl w).mono ?_
  rintro e w' ⟨rfl, rfl⟩
  exact ⟨rfl, h, Upd.refl _ _ _⟩
 ·exact delete_ints κ i A p q cap l hp (by omega) hq w h
theorem cache_flush (κ : Kol) (i b c n : Nat) (hi : 1 ≤ i) (hc : c < 4) (h1 : 1 ≤ n) (hn : n ≤ 100) (L : Nat → List Int) (hl : (L c).length ≤ 1000) (w : World) (h : CacheK κ i w b L) :
 Calls Tryz.prog 148 #[.pointer (some ⟨b, 0, none⟩), .int .i64 c, .int .i64 n] w fun e w' => ∃ v, e = .returned v ∧ Kd.R (Kd.int .i64) 3 w' w.heap.size (fun _ => True) v ((L c).take n) ∧ CacheK (κ.ext w.heap.size 0) i w' b (setL L c ((L c).drop n)) ∧ Upd (fun k => k = i ∨ k = i + 1 + c) κ w (κ.ext w.heap.size 0) w' := by
 have hP := (Upd.refl (fun _ => False) κ w).paint w.heap.size 0 (Nat.le_refl _)
 have hold : ∀ x, w.heap.size ≤ x → (κ.ext w.heap.size 0) x = 0 := fun x hx => Kol.ext_new κ hx
 obtain ⟨κ1, hκ1⟩ : ∃ κ1, κ.ext w.heap.size 0 = κ1 := ⟨_, rfl⟩
 rw [hκ1] at hP hold
 have h' := h.upd hP (fun _ _ h => h)
 obtain ⟨v, hb, hr⟩ := h'
 have hrow := hr c hc
 obtain ⟨A, cap, hv, hle⟩ := hrow.sl
 obtain ⟨p, hp⟩ : ∃ p, (L c).length = p := ⟨_, rfl⟩
 obtain ⟨q, hq⟩ : ∃ q, min n p = q := ⟨_, rfl⟩
 rw [hp] at hv hle hl
 rw [hv] at hrow
 have hqp : q ≤ p := by omega
 have HCT := ak (clone_take hrow hp hqp (by omega))
 have s0 := hb.blk.at c (.slice A p cap) (by rw [four_at v c hc, hv])
 have f0 := hb.blk.fz c
 have HK := ak hb
 have HR := ak hr
 have HROW := ak hrow
 have HV := ak hv
 have HP := ak hP
 have HOLD := ak hold
 have HLL := ak hp
 have HQ := ak hq
 have HKA := ak hκ1
 have HL := ak (cache_list b c hc)
 have hmin : min (n : Int) (p : Int) = (q : Int) := by omega
 have n1 : (1 : Int) ≤ (n : Int) := by omega
 have qc : q ≤ cap := by omega
 have q0 : (0 : Int) ≤ (q : Int) := by omega
 have qp : (q : Int) ≤ (p : Int) := by omega
 clear hb hr hrow hv hP hold hκ1 h hp hq h1 hn
 go_enter Tryz.func148, Tryz.ntmps148
 go_wp2_with (first | (go_at_call 167; (with_reducible refine (HL.1 _).mono ?_); rintro e_ w1 ⟨rfl, rfl⟩) | (go_at_call 138; (with_reducible refine HCT.1.mono ?_); rintro e_ w2 ⟨v2, rfl, r2, b2⟩; have HR2 := ak r2; have HK2 := ak (HK.1.below b2); have HRW2 := ak (HROW.1.below b2); have HRR2 := ak (fun k hk => (HR.1 k hk).below b2); have HB2 := ak b2; have s2 := HK2.1.blk.at c (.slice A p cap) (by rw [four_at v c hc, HV.1]); have HDT := ak (delete_take HRW2.1 HLL.1 hqp (by omega)); clear r2 b2 s0 f0) | (go_at_call 195; (with_reducible refine HDT.1.mono ?_); rintro e_ w3 ⟨rfl, r3, u3⟩; have HR3 := ak r3; have HU3 := ak u3; have HK3 := ak (HK2.1.upd u3 (by omega)); have f3 := HK3.1.blk.fz c; have s3 := HK3.1.blk.at c (.slice A p cap) (by rw [four_at v c hc, HV.1]); clear r3 u3 s2))
 go_ret
 have hU2 : Upd (fun k => k = i ∨ k = i + 1 + c) κ1 w2 κ1 (w3.setCell ⟨b, c, none⟩ (.slice A (p - q) cap)) := (Upd.mono (J := fun k => k = i ∨ k = i + 1 + c) HU3.1 (fun k e => Or.inr e)).set ⟨b, c, none⟩ (fun _ => Or.inl HK2.1.kol) _
 have et : (L c).take n = (L c).take q := by
  by_cases hnp : n ≤ p
  ·rw [← HQ.1, Nat.min_eq_left hnp]
  ·rw [List.take_of_length_le (by rw [HLL.1]; omega), List.take_of_length_le (by rw [HLL.1, ← HQ.1]; omega)]
 have ed : (L c).drop n = (L c).drop q := by
  by_cases hnp : n ≤ p
  ·rw [← HQ.1, Nat.min_eq_left hnp]
  ·rw [List.drop_of_length_le (by rw [HLL.1]; omega), List.drop_of_length_le (by rw [HLL.1, ← HQ.1]; omega)]
 rw [et, ed]
 rw [HKA.1]
 exact ⟨v2, rfl, row_keep HR2.1 HOLD.1 hU2 (by omega), CacheK.put hc HK3.1 _ _ (HR3.1.other (by rw [HK3.1.kol]; omega) _) (fun k hk hne => ((HRR2.1 k hk).upd HU3.1 (by omega)).other (by rw [HK3.1.kol]; omega) _), ((HP.1.below HB2.1).mono (J := fun k => k = i ∨ k = i + 1 + c) (fun k e => e.elim)).then hU2 (fun c e => e)⟩
def upL (L : Nat → List Int) (j : Nat) : Nat → List Int := fun k => if k < j then [] else L k
theorem upL_zero (L : Nat → List Int) : upL L 0 = L := by
 funext k
 unfold upL
 rw [if_neg (by omega)]
theorem upL_succ (L : Nat → List Int) (j : Nat) (h : (L j).length ≤ 8) : setL (upL L j) j ((upL L j j).drop 8) = upL L (j + 1) := by
 funext k
 unfold setL upL
 by_cases e : k = j
 ·subst e
  rw [if_pos rfl, if_neg (by omega), if_pos (by omega)]
  exact List.drop_of_length_le h
 ·rw [if_neg e]
  by_cases h2 : k < j
  ·rw [if_pos h2, if_pos (by omega)]
  ·rw [if_neg h2, if_neg (by omega)]
def flL (L : Nat → List Int) : Nat → List Int
 | 0 => []
 | j + 1 => flL L j ++ L j
theorem flL_len (L : Nat → List Int) (h : ∀ k, k < 4 → (L k).length ≤ 8) : ∀ j, j ≤ 4 → (flL L j).length ≤ 8 * j
 | 0, _ => by simp [flL]
 | j + 1, hj => by
  have h1 := flL_len L h j (by omega)
  have h2 := h j (by omega)
  rw [flL, List.length_append]
  omega
theorem Upd.grew {κ : Kol} {c : Nat} {w1 w7 : World} {row : Option Nat} (hg : w1.grownBy w7 row) (hr : ∀ b, row = some b → κ b = c) : Upd (· = c) κ w1 (κ.ext w1.heap.size c) w7 :=
 ⟨fun b hb => Kol.ext_old κ hb, ⟨hg.os, hg.tape, hg.output, hg.size, fun b hb hne => hg.block b hb (fun e => hne (hr b e.symm))⟩⟩
theorem Upd.grown {I : Nat → Prop} {κ κ1 : Kol} {c : Nat} {w w1 w7 : World} {row : Option Nat} (h : Upd I κ w κ1 w1) (hg : w1.grownBy w7 row) (hr : ∀ b, row = some b → w.heap.size ≤ b) : Upd I κ w (κ1.ext w1.heap.size c) w7 :=
 ⟨fun b hb => (Kol.ext_old κ1 (Nat.lt_of_lt_of_le hb h.chg.size)).trans (h.kol b hb), ⟨hg.os.trans h.chg.os, hg.tape.trans h.chg.tape, hg.output.trans h.chg.output, Nat.le_trans h.chg.size hg.size, fun b hb hne => (hg.block b (Nat.lt_of_lt_of_le hb h.chg.size) (fun e => by have := hr b e.symm; omega)).trans (h.chg.block b hb hne)⟩⟩
theorem row_at {α : Type} {d : Kd α} {e base : Nat} {w : World} {v : Value} {xs : List α} (h : Kd.R d e w base (fun _ => True) v xs) : ∀ b, v.ownBlock = some b → base ≤ b := fun b hb => ((Kd.R_bound h).1 b hb).2.1
def RelCA (κ : Kol) (i b : Nat) (L : Nat → List Int) (w : World) (v3 v5 : Value) (wr : World) : Prop :=
 ∃ (j : Nat) (κ' : Kol), v5 = .int .i64 j ∧ j ≤ 4 ∧ Kd.R (Kd.int .i64) 3 wr w.heap.size (fun _ => True) v3 (flL L j) ∧ CacheK κ' i wr b (upL L j) ∧ (∀ x, w.heap.size ≤ x → κ' x = 0) ∧ Upd (fun k => i ≤ k ∧ k < i + 5) κ w κ' wr
theorem cache_all (κ : Kol) (i b : Nat) (hi : 1 ≤ i) (L : Nat → List Int) (hl : ∀ k, k < 4 → (L k).length ≤ 8) (w : World) (h : CacheK κ i w b L) :
 Calls Tryz.prog 94 #[.pointer (some ⟨b, 0, none⟩)] w fun e w' => ∃ v κ', e = .returned v ∧ Kd.R (Kd.int .i64) 3 w' w.heap.size (fun _ => True) v (flL L 4) ∧ CacheK κ' i w' b (upL L 4) ∧ (∀ x, w.heap.size ≤ x → κ' x = 0) ∧ Upd (fun k => i ≤ k ∧ k < i + 5) κ w κ' w' := by
 have hP := (Upd.refl (fun k => i ≤ k ∧ k < i + 5) κ w).paint w.heap.size 0 (Nat.le_refl _)
 have hP0 := (Upd.refl (fun _ => False) κ w).paint w.heap.size 0 (Nat.le_refl _)
 have H0 := ak (show RelCA κ i b L w (.slice none 0 0) (.int .i64 0) w from ⟨0, _, rfl, Nat.zero_le _, Kd.R_nil _ _ _ _ _, by rw [upL_zero]; exact h.upd hP0 (fun _ _ h => h), fun x hx => Kol.ext_new κ hx, hP⟩)
 have HLL := ak hl
 have info4 : (Tryz.prog.info? 3).map (fun i => (i.zero, i.size, i.bytes)) = some (some (.int .i64 0), 1, 8) := by kernel_rfl
 clear hP hP0 h hl
 go_enter Tryz.func94, Tryz.ntmps94
 go_wp2_with fail
 go_loopw [3, 4, 5] (fun v3 _ v5 wr => RelCA κ i b L w v3 v5 wr) (fun _ _ v5 _ => 4 - (RowKit.intOf v5).toNat)
 case atStart => exact H0.1
 case round =>
  clear H0
  obtain ⟨j, κ', rfl, hj, hR, hC, hold, hU⟩ := hrel
  have HR := ak hR
  have HC := ak hC
  have HOLD := ak hold
  have HU := ak hU
  clear hR hC hold hU
  by_cases hlt : j < 4
  ·have jI : (j : Int) < 4 := by omega
   have j0 : (0 : Int) ≤ (j : Int) := by omega
   have HF := ak (show Calls Tryz.prog 148 #[.pointer (some ⟨b, 0, none⟩), .int .i64 j, .int .i64 (8 : Int)] wr _ from cache_flush κ' i b j 8 hi hlt (by decide) (by decide) (upL L j) (by unfold upL; rw [if_neg (by omega)]; have := HLL.1 j hlt; omega) wr HC.1)
   go_wp2_with (first | (go_at_call 148; (with_reducible refine (HF.1).mono ?_); rintro e_ w1 ⟨v1, rfl, q1, q2, q3⟩; obtain ⟨A1, c1, rfl, hle1, hC1⟩ := Kd.R_reads q1; rw [show (upL L j j).take 8 = L j from by (unfold upL; rw [if_neg (by omega)]; exact List.take_of_length_le (HLL.1 j hlt))] at hC1 ⊢; have HR1 := ak hC1; have HC1 := ak q2; have HU1 := ak q3; have HR0 := ak (row_keep HR.1 HOLD.1 q3 (by omega)); clear q1 q2 q3 hle1 hC1) | ((with_reducible refine gate_builtin (b := .append) (xs := #[.tmp 8, .tmp 11]) rfl ?_); at_builtin; refine Kd.R_append_rows (Kd.int .i64) (w0 := w1) w.heap.size rfl (.tmp 8) (.tmp 11) 34 3 (.int .i64 0) 8 rfl Tryz.underlying34 info4 rfl (by decide) (by omega) u3 (flL L j) (L j) A1 (L j).length c1 (fun _ => True) (fun _ => False) rfl rfl ?aO ?aR (fun _ _ h => h) (fun _ h => h.elim) ?aF ?aB ?aS ?aL ?_; (case aO => exact HR0.1); (case aR => exact HR1.1); (case aB => exact RowKit.Below.refl _ _); (case aF => exact (fun _ _ => trivial)); (case aS => exact Nat.le_trans HU.1.chg.size HU1.1.chg.size); (case aL => (have h9 := flL_len L HLL.1 j hj; have h10 := HLL.1 j hlt; omega)); intro v7 w7 ho hb hg hat; have H7 := ak (And.intro ho hg); clear ho hb hg hat))
   have hrow := row_at HR0.1
   have hg := H7.1.2
   have hκ : ∀ x, w.heap.size ≤ x → ((κ'.ext wr.heap.size 0).ext w1.heap.size 0) x = 0 := fun x hx => by
    unfold Kol.ext
    split
    ·split
     ·exact HOLD.1 x hx
     ·rfl
    ·rfl
   have hU7 := Upd.grew (κ := κ'.ext wr.heap.size 0) (c := 0) hg (fun b hb => by have := HOLD.1 b (hrow b hb); unfold Kol.ext; split; exact this; rfl)
   have hU2 := ((HU.1.then (HU1.1.mono (J := fun k => i ≤ k ∧ k < i + 5) (fun k e => by omega)) (fun _ e => e)).grown (c := 0) hg hrow)
   have hC7 := HC1.1.upd hU7 (fun c hc e => by omega)
   rw [upL_succ L j (HLL.1 j hlt)] at hC7
   refine ⟨⟨j + 1, _, by simp, hlt, H7.1.1, hC7, hκ, hU2⟩, by simp only [RowKit.intOf]; omega⟩
  ·obtain rfl : j = 4 := by omega
   go_wp2_with fail
   go_ret
   exact ⟨_, κ', rfl, HR.1, HC.1, HOLD.1, HU.1⟩
end Go.Proofs.YtenkdmloolbdaaaGreatDoor.T
end
