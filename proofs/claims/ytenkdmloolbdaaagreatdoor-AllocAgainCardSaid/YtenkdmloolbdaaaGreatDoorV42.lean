/- A law's world: free. A law's world: free of nothing, write, read. -/
import Derived.Test.YtenkdmloolbdaaaGreatDoorV41
section
namespace Go.Proofs.YtenkdmloolbdaaaGreatDoor.T
open Go.RowKit Go.Maps Go.WideShapes Go.Proofs.YtenkdmloolbdaaaGreatDoorW.PrintWords Go.Proofs.YtenkdmloolbdaaaGreatDoorW.PrintLast Go.Proofs.YtenkdmloolbdaaaGreatDoorW.PrintMore
set_option linter.unusedVariables false
set_option linter.unusedSimpArgs false
theorem below_grownB_ {B : Nat} {w0 w w' : World} {row : Option Nat} (h : RowKit.Below B w0 w) (hs : B ≤ w.heap.size) (hg : w.grownBy w' row) (hr : ∀ k, row = some k → B ≤ k) : RowKit.Below B w0 w' :=
  ⟨hg.os.trans h.os, hg.tape.trans h.tape, hg.output.trans h.output, Nat.le_trans h.size hg.size, fun b hb => (hg.block b (by omega) (fun e => by have := hr b e.symm; omega)).trans (h.block b hb)⟩
theorem add_lit_ (b o j : Nat) : (⟨b, o, none⟩ : Addr).add j = ⟨b, o + j, none⟩ := by unfold Addr.add; split <;> simp_all
theorem info_ob : (Tryz.prog.info? 45).map (fun i => (i.zero, i.size, i.bytes)) = some (some (.agg #[.int .i64 0, .slice none 0 0]), 2, 32) := by kernel_rfl
theorem own_cells {w : World} {base e g c n : Nat} {xs : List Value} (h : w.ownsRow base e 2 (.slice (some ⟨g, 0, none⟩) n c) n xs) (j : Nat) (u : Value) (hj : xs[j]? = some u) : w.cell? ⟨g, j, none⟩ = some u :=
  RowG.cells (κ := fun _ => 0) (i := 0) ⟨⟨h.1, h.2.imp id (fun ⟨a, b, c, d, e, f⟩ => ⟨a, b, c, d, Nat.zero_le _, f⟩)⟩, fun _ _ => rfl⟩ j u hj
theorem own_below {w w' : World} {base e : Nat} {sz n : Nat} {v : Value} {xs : List Value} (h : w.ownsRow base e sz v n xs) (hb : RowKit.Below w.heap.size w w') : w'.ownsRow base e sz v n xs :=
  own_move h (fun k hk => hb.block k (own_lt h k hk))
/-- The objects but one, as Go makes them: two appends onto an empty row. -/
theorem two_obs {w : World} {g7 c7 k : Nat} {l : List Ob} (hrow : w.ownsRow 0 45 2 (.slice (some ⟨g7, 0, none⟩) l.length c7) l.length (obs l)) (hk : k < l.length) (hl : l.length ≤ 100000) (A1 : Addr) (hA1 : (if c7 = k + 1 then some (⟨g7, 0, none⟩ : Addr) else some ⟨g7, (k + 1) * 2, none⟩) = some A1) (cc : Nat) :
    ∃ v1 w1 v2 w2, (∀ ty, (Builtin.append_ #[29, 29] ty #[.slice (some ⟨w.heap.size, 0, none⟩) 0 0, .slice (some ⟨g7, 0, none⟩) k c7]).run Tryz.prog (w.alloc (.cells #[] 45)) = .ok v1 w1) ∧
      (∀ ty, (Builtin.append_ #[29, 29] ty #[v1, .slice (some A1) (l.length - (k + 1)) cc]).run Tryz.prog w1 = .ok v2 w2) ∧
      w2.ownsRow 0 45 2 v2 (l.take k ++ l.drop (k + 1)).length (obs (l.take k ++ l.drop (k + 1))) ∧ RowKit.Below w.heap.size w w2 ∧ (∀ j, v2.ownBlock = some j → w.heap.size ≤ j) ∧ RowKit.Below w.heap.size w w1 := by
  obtain ⟨i0, hi0, hz0, hzs, hzb⟩ := info_parts info_ob
  have hlen : (l.take k ++ l.drop (k + 1)).length = k + (l.length - (k + 1)) := by rw [List.length_append, List.length_take, List.length_drop]; omega
  have hal : RowKit.Below w.heap.size w (w.alloc (.cells #[] 45)) := below_alloc (RowKit.Below.refl _ _) _
  have hmade := World.ownsRow_made w (base := 0) (e := 45) (size := 2) #[] 0 (Nat.zero_le _) (by omega) (by simp)
  have hrow1 := own_below hrow hal
  have hsrc1 : ∀ j u, (obs (l.take k))[j]? = some u → (w.alloc (.cells #[] 45)).cell? ((⟨g7, 0, none⟩ : Addr).add j) = some u := by
    intro j u hj
    rw [add_lit_, Nat.zero_add]
    refine own_cells hrow1 j u ?_
    rw [← obs_take l k (by omega), List.getElem?_take] at hj
    split at hj
    · exact hj
    · cases hj
  have h1 : ∃ v1 w1, (∀ ty, (Builtin.append_ #[29, 29] ty #[.slice (some ⟨w.heap.size, 0, none⟩) 0 0, .slice (some ⟨g7, 0, none⟩) k c7]).run Tryz.prog (w.alloc (.cells #[] 45)) = .ok v1 w1) ∧ w1.ownsRow 0 45 2 v1 (0 + k) ([] ++ obs (l.take k)) ∧ (w.alloc (.cells #[] 45)).grownBy w1 (Value.slice (some ⟨w.heap.size, 0, none⟩) 0 0).ownBlock ∧ (v1.ownBlock = (Value.slice (some ⟨w.heap.size, 0, none⟩) 0 0).ownBlock ∨ v1.ownBlock = some (w.alloc (.cells #[] 45)).heap.size) := by
    obtain ⟨v1, w1, hr, ho, hg, _, hat⟩ := run_append_own_at (P := Tryz.prog) (w := w.alloc (.cells #[] 45)) 0 29 0 45 i0 _ 2 32 Tryz.underlying29 hi0 hz0 hzs hzb rfl (by decide) _ 0 [] hmade ⟨g7, 0, none⟩ k c7 (obs (l.take k)) (by rw [obs_len, List.length_take]; omega) hsrc1 (obs_one _) (by unfold maxLen; omega) (by omega) (Nat.zero_le _)
    exact ⟨v1, w1, fun ty => hr, ho, hg, hat⟩
  obtain ⟨v1, w1, hr1, ho1, hg1, hat1⟩ := h1
  have hb1 : RowKit.Below w.heap.size w w1 := below_grownB_ hal hal.size hg1 (fun j hj => by simp [Value.ownBlock] at hj; omega)
  have hrow2 := own_below hrow hb1
  have hsrc2 : ∀ j u, (obs (l.drop (k + 1)))[j]? = some u → w1.cell? (A1.add j) = some u := by
    intro j u hj
    by_cases hc : c7 = k + 1
    · have hn : l.drop (k + 1) = [] := by
        have : l.length ≤ c7 := by
          rcases hrow.2 with ⟨h0, _⟩ | ⟨_, _, _, hv, _, _, hnc, _⟩
          · cases h0
          · injection hv with _ _ hcc; omega
        exact List.drop_of_length_le (by omega)
      rw [hn] at hj; simp [obs] at hj
    · rw [if_neg hc] at hA1
      rw [← Option.some.inj hA1, add_lit_]
      refine own_cells hrow2 _ u ?_
      rw [← obs_drop l (k + 1) (by omega), List.getElem?_drop] at hj
      exact hj
  obtain ⟨v2, w2, hr2, ho2, hg2, _, hat2⟩ := run_append_own_at (P := Tryz.prog) (w := w1) 0 29 0 45 i0 _ 2 32 Tryz.underlying29 hi0 hz0 hzs hzb rfl (by decide) _ (0 + k) _ ho1 A1 (l.length - (k + 1)) cc (obs (l.drop (k + 1))) (by rw [obs_len, List.length_drop]) hsrc2 (obs_one _) (by unfold maxLen; omega) (by omega) (Nat.zero_le _)
  have hf1 : ∀ j, v1.ownBlock = some j → w.heap.size ≤ j := by
    intro j hj
    rcases hat1 with h | h
    · rw [h] at hj; simp [Value.ownBlock] at hj; omega
    · rw [h] at hj; injection hj with hj; have := hal.size; omega
  have hb2 : RowKit.Below w.heap.size w w2 := below_grownB_ hb1 hb1.size hg2 hf1
  have hrow3 : w2.ownsRow 0 45 2 v2 (l.take k ++ l.drop (k + 1)).length (obs (l.take k ++ l.drop (k + 1))) := by
    rw [hlen, obs_append]
    simpa using ho2
  refine ⟨v1, w1, v2, w2, hr1, fun ty => hr2, hrow3, hb2, ?_, hb1⟩
  intro j hj
  rcases hat2 with h | h
  · exact hf1 j (h ▸ hj)
  · rw [h] at hj; injection hj with hj; have := hb1.size; omega
/-- The model, an object taken out. -/
theorem ModK.less {κ : Kol} {w w2 : World} {b nc k : Nat} {l : List Ob} {A : Option Addr} {c c2 : Nat} {A2 : Option Addr} (h : ModK κ w b nc l) (hB : BlkK κ 2 w b #[.int .i64 nc, .slice A l.length c] 31) (hb : RowKit.Below w.heap.size w w2)
    (ho : w2.ownsRow 0 45 2 (.slice A2 (l.take k ++ l.drop (k + 1)).length c2) (l.take k ++ l.drop (k + 1)).length (obs (l.take k ++ l.drop (k + 1)))) (hf : ∀ j, (Value.slice A2 (l.take k ++ l.drop (k + 1)).length c2).ownBlock = some j → w.heap.size ≤ j) :
    ModK (κ.ext w.heap.size 3) (w2.setCell ⟨b, 1, none⟩ (.slice A2 (l.take k ++ l.drop (k + 1)).length c2)) b nc (l.take k ++ l.drop (k + 1)) ∧ Upd (fun z => 2 ≤ z ∧ z ≤ 4) κ w (κ.ext w.heap.size 3) (w2.setCell ⟨b, 1, none⟩ (.slice A2 (l.take k ++ l.drop (k + 1)).length c2)) := by
  have hsub : (l.take k ++ l.drop (k + 1)).Sublist l := by
    have h1 : (l.drop (k + 1)).Sublist (l.drop k) := by rw [← List.drop_drop]; exact List.drop_sublist _ _
    have h2 := List.Sublist.append (List.Sublist.refl (l.take k)) h1
    rwa [List.take_append_drop] at h2
  have hU : Upd (fun z => 2 ≤ z ∧ z ≤ 4) κ w (κ.ext w.heap.size 3) w2 := (Upd.of_below κ hb).paint _ _ (Nat.le_refl _)
  have hU0 : Upd (fun _ => False) κ w (κ.ext w.heap.size 3) w2 := (Upd.of_below κ hb).paint _ _ (Nat.le_refl _)
  have hB2 := hB.upd hU0 (fun h => h)
  have hS : Upd (fun z => z = 2) (κ.ext w.heap.size 3) w2 (κ.ext w.heap.size 3) (w2.setCell ⟨b, 1, none⟩ (.slice A2 (l.take k ++ l.drop (k + 1)).length c2)) := (Upd.refl _ _ _).set ⟨b, 1, none⟩ (fun _ => hB2.kol) _
  have hR : RowG (κ.ext w.heap.size 3) 3 w2 45 2 (.slice A2 (l.take k ++ l.drop (k + 1)).length c2) (l.take k ++ l.drop (k + 1)).length (obs (l.take k ++ l.drop (k + 1))) := ⟨ho, fun g hg => Kol.ext_new κ (hf g hg)⟩
  exact ⟨⟨⟨A2, c2, hB2.set 1 _, hR.upd hS (by omega)⟩, fun o ho => ((h.bl o (hsub.subset ho)).upd hU0 (fun h => h)).upd hS (by omega), h.nd.sublist (hsub.map _), Nat.le_trans hsub.length_le h.len, fun o ho => h.val o (hsub.subset ho)⟩, hU.then hS (fun c hc => by omega)⟩
set_option maxHeartbeats 4000000 in
set_option maxRecDepth 100000 in
theorem law_free (w0 : World) (κ μ : Kol) (b m mo nc : Nat) (t : Top) (a : Ad) (s s' : St) (l : List Ob) (j : Int) (x k : Nat) (hj : 0 ≤ j) (hj2 : j < nc) (hnc : nc ≤ 1000) (hk : k < l.length) (hf : fndI l x = k)
    (hD : Does 43 #[.pointer (some ⟨m, 0, none⟩), .int .i64 j, .int .i64 x] m a s s' (.int .i64 0)) (w : World) (h : LawK w0 κ μ w b m mo nc t a s l) :
    Calls Tryz.prog 19 #[.pointer (some ⟨b, 0, none⟩), .int .i64 j, .int .i64 x] w fun e w' => e = .returned (.bool true) ∧ ∃ κ' μ', LawK w0 κ' μ' w' b m mo nc t a s' (l.take k ++ l.drop (k + 1)) := by
  have HM := Aside0.mk (hD κ w h.glob h.mach)
  have HL := Aside0.mk h
  have x0 := h.x0
  have b1 : decide ((k : Int) < 0) = false := decide_eq_false (by omega)
  have HF := Aside0.mk hf
  have hlen := h.mod.len
  clear h hD hf
  go_enter Tryz.func19, Tryz.ntmps19
  go_upto_region 2 with (go_at_call 43; (with_reducible refine HM.out.mono ?_); rintro e_ w1 ⟨rfl, κ1, q1, q2⟩; have HL1 := Aside0.mk (HL.out.stepM q1 q2); clear q1 q2)
  clear x0 HM HL
  have x1 := HL1.out.x1
  have HFN := Aside0.mk (model_find _ mo nc l x _ HL1.out.mod)
  rw [HF.out] at HFN
  go_upto_region 8 with (first | (go_at_call 57; (with_reducible refine (model_cpu _ mo nc l j hj hj2 hnc _ HL1.out.mod).mono ?_); rintro e_ w2 ⟨rfl, rfl⟩) | (go_at_call 60; (with_reducible refine HFN.out.mono ?_); rintro e_ w3 ⟨rfl, rfl⟩))
  clear x1 HFN b1
  obtain ⟨μ1, hμ1⟩ : ∃ μ1, μ.ext w.heap.size 0 = μ1 := ⟨_, rfl⟩
  rw [hμ1] at HL1
  clear hμ1
  obtain ⟨A, c, hB, hR⟩ := HL1.out.mod.row
  obtain ⟨g, rfl, _⟩ := obs_at hR k hk
  have hlc : l.length ≤ c := by
    rcases hR.1.2 with ⟨h0, _⟩ | ⟨_, _, _, hv, _, _, hnc, _⟩
    · cases h0
    · injection hv with _ _ hcc; omega
  have hcm : c ≤ 9223372036854775807 := by
    rcases hR.1.2 with ⟨h0, _⟩ | ⟨_, _, _, hv, _, _, hnc, hcm, _⟩
    · cases h0
    · injection hv with _ _ hcc
      unfold maxLen at hcm
      omega
  have x1 := HL1.out.x1
  have y1 := hB.blk.at 1 (.slice (some ⟨g, 0, none⟩) l.length c) rfl
  have HB := Aside0.mk hB
  have HR := Aside0.mk hR
  clear hB hR
  refine start_ (n := 29) (S := fun w' => w'.cell? ⟨b, 1, none⟩ = some (.pointer (some ⟨mo, 0, none⟩)) ∧ w'.cell? ⟨mo, 1, none⟩ = some (.slice (some ⟨g, 0, none⟩) l.length c)) (ds := [28]) #[false, false, false, false, false, false, false, false, false, false, false, false, false, false, false, false, false, false, false, false, false, false, false, false, false, false, false, false, false] (by kernel_rfl) rfl rfl ⟨x1, y1⟩ (fun hHeld => ?_)
  have hd_ := below_drew (RowKit.Below.refl w3.heap.size w3)
  have n0_ := Aside0.mk (HL1.out.below hd_)
  have n1_ := Aside0.mk (HB.out.below hd_)
  have n2_ := Aside0.mk (HR.out.below hd_)
  clear HL1 HB HR x1 y1
  generalize w3.drew = wd at *
  clear hd_
  have HL := n0_
  have HB := n1_
  have HR := n2_
  clear n0_ n1_ n2_
  obtain ⟨Ad, hAd⟩ : ∃ Ad : Addr, (if c = k + 1 then some (⟨g, 0, none⟩ : Addr) else some ⟨g, (k + 1) * 2, none⟩) = some Ad := by
    by_cases h : c = k + 1
    · exact ⟨_, if_pos h⟩
    · exact ⟨_, if_neg h⟩
  have HAD := Aside0.mk hAd
  clear hAd
  obtain ⟨k1, hk1e⟩ : ∃ k1, k + 1 = k1 := ⟨_, rfl⟩
  obtain ⟨v1, w5, v2, w6, hr1, hr2, hrow5, hb6, hf6, hb5⟩ := two_obs HR.out.1 hk hlen Ad HAD.out (c - k1)
  have hAd := HAD.out
  rw [hk1e] at hr2 hAd
  have hV2 : RowG μ1 3 w6 45 2 v2 (l.take k ++ l.drop (k + 1)).length (obs (l.take k ++ l.drop (k + 1))) → ∃ A2 c2, v2 = .slice A2 (l.take k ++ l.drop (k + 1)).length c2 := fun h => h.sl
  obtain ⟨A2, c2, hv2⟩ : ∃ A2 c2, v2 = .slice A2 (l.take k ++ l.drop (k + 1)).length c2 := by
    rcases hrow5.2 with ⟨h0, hz⟩ | ⟨bb, cap, cur, hv, _⟩
    · exact ⟨none, 0, by rw [h0, hz]⟩
    · exact ⟨_, cap, hv⟩
  subst hv2
  have HN := Aside0.mk (HL.out.stepW (ModK.less HL.out.mod HB.out hb6 hrow5 hf6).1 (ModK.less HL.out.mod HB.out hb6 hrow5 hf6).2)
  have HB5 := Aside0.mk (HB.out.blk.below hb5)
  have HX5 := Aside0.mk (HL.out.box.blk.below hb5)
  have HB6 := Aside0.mk (HB.out.blk.below hb6)
  have HX6 := Aside0.mk (HL.out.box.blk.below hb6)
  clear hrow5 hb6 hb5 hf6 hV2
  obtain ⟨n2, hn2⟩ : ∃ n, (l.take k ++ l.drop (k + 1)).length = n := ⟨_, rfl⟩
  rw [hn2] at hr2 HN
  clear hn2
  have hkc : k ≤ c := by omega
  have hk1l : k1 ≤ l.length := by omega
  have hk1c : k1 ≤ c := by omega
  have hk1i : (k1 : Int) ≤ (l.length : Int) := by omega
  have hk1z : (0 : Int) ≤ (k1 : Int) := by omega
  have hki : (k : Int) ≤ (l.length : Int) := by omega
  have hkz : (0 : Int) ≤ (k : Int) := by omega
  have hwk : wrap64 ((k : Int) + 1) = (k1 : Int) := by rw [IntWalk.wrap64_in _ ⟨by omega, by omega⟩]; omega
  refine pure_ (i := 0) (N := some 38) (v := ?_) (a' := ?_) #[true, false, false, false, false, false, false, false, false, false, false, false, false, false, false, false, false, false, false, false, false, false, false, false, false, false, false, false, false] rfl rfl (by kernel_rfl) (fun _ _ _ h => h) (Or.inl ⟨by rfl, ?_⟩) ?_ ?_
  rotate_left
  · intro w'
    go_simp
    with_reducible rfl
  rotate_left
  · simp only [Act.put, List.setIfInBounds_toArray, List.set_cons_zero, List.set_cons_succ, i64_w, i32_w]
    rfl
  refine pure_ (i := 1) (N := some 39) (v := ?_) (a' := ?_) #[true, true, false, false, false, false, false, false, false, false, false, false, false, false, false, false, false, false, false, false, false, false, false, false, false, false, false, false, false] rfl rfl (by kernel_rfl) (fun _ _ _ h => h) (Or.inl ⟨by rfl, ?_⟩) ?_ ?_
  rotate_left
  · intro w'
    go_simp
    with_reducible rfl
  rotate_left
  · simp only [Act.put, List.setIfInBounds_toArray, List.set_cons_zero, List.set_cons_succ, i64_w, i32_w]
    rfl
  refine pure_ (i := 2) (N := some 40) (v := ?_) (a' := ?_) #[true, true, true, false, false, false, false, false, false, false, false, false, false, false, false, false, false, false, false, false, false, false, false, false, false, false, false, false, false] rfl rfl (by kernel_rfl) (fun _ _ _ h => h) (Or.inl ⟨by rfl, ?_⟩) ?_ ?_
  rotate_left
  · intro w'
    go_simp
    with_reducible rfl
  rotate_left
  · simp only [Act.put, List.setIfInBounds_toArray, List.set_cons_zero, List.set_cons_succ, i64_w, i32_w]
    rfl
  refine pure_ (i := 5) (N := some 43) (v := ?_) (a' := ?_) #[true, true, true, false, false, true, false, false, false, false, false, false, false, false, false, false, false, false, false, false, false, false, false, false, false, false, false, false, false] rfl rfl (by kernel_rfl) (fun _ _ _ h => h) (Or.inl ⟨by rfl, ?_⟩) ?_ ?_
  rotate_left
  · intro w'
    go_simp
    with_reducible rfl
  rotate_left
  · simp only [Act.put, List.setIfInBounds_toArray, List.set_cons_zero, List.set_cons_succ, i64_w, i32_w]
    rfl
  refine pure_ (i := 6) (N := some 44) (v := ?_) (a' := ?_) #[true, true, true, false, false, true, true, false, false, false, false, false, false, false, false, false, false, false, false, false, false, false, false, false, false, false, false, false, false] rfl rfl (by kernel_rfl) (fun _ _ _ h => h) (Or.inl ⟨by rfl, ?_⟩) ?_ ?_
  rotate_left
  · intro w'
    go_simp
    with_reducible rfl
  rotate_left
  · simp only [Act.put, List.setIfInBounds_toArray, List.set_cons_zero, List.set_cons_succ, i64_w, i32_w]
    rfl
  refine pure_ (i := 7) (N := some 45) (v := ?_) (a' := ?_) #[true, true, true, false, false, true, true, true, false, false, false, false, false, false, false, false, false, false, false, false, false, false, false, false, false, false, false, false, false] rfl rfl (by kernel_rfl) (fun _ _ _ h => h) (Or.inl ⟨by rfl, ?_⟩) ?_ ?_
  rotate_left
  · intro w'
    go_simp
    with_reducible rfl
  rotate_left
  · simp only [Act.put, List.setIfInBounds_toArray, List.set_cons_zero, List.set_cons_succ, i64_w, i32_w]
    rfl
  refine pure_ (i := 12) (N := some 50) (v := ?_) (a' := ?_) #[true, true, true, false, false, true, true, true, false, false, false, false, true, false, false, false, false, false, false, false, false, false, false, false, false, false, false, false, false] rfl rfl (by kernel_rfl) (fun _ _ _ h => h) (Or.inl ⟨by rfl, ?_⟩) ?_ ?_
  rotate_left
  · intro w'
    go_simp
    with_reducible rfl
  rotate_left
  · simp only [Act.put, List.setIfInBounds_toArray, List.set_cons_zero, List.set_cons_succ, i64_w, i32_w]
    rfl
  refine pure_ (i := 15) (N := some 53) (v := ?_) (a' := ?_) #[true, true, true, false, false, true, true, true, false, false, false, false, true, false, false, true, false, false, false, false, false, false, false, false, false, false, false, false, false] rfl rfl (by kernel_rfl) (fun _ _ _ h => h) (Or.inl ⟨by rfl, ?_⟩) ?_ ?_
  rotate_left
  · intro w'
    go_simp
    with_reducible rfl
  rotate_left
  · simp only [Act.put, List.setIfInBounds_toArray, List.set_cons_zero, List.set_cons_succ, i64_w, i32_w]
    rfl
  refine pure_ (i := 16) (N := some 54) (v := ?_) (a' := ?_) #[true, true, true, false, false, true, true, true, false, false, false, false, true, false, false, true, true, false, false, false, false, false, false, false, false, false, false, false, false] rfl rfl (by kernel_rfl) (fun _ _ _ h => h) (Or.inl ⟨by rfl, ?_⟩) ?_ ?_
  rotate_left
  · intro w'
    go_simp
    with_reducible rfl
  rotate_left
  · simp only [Act.put, List.setIfInBounds_toArray, List.set_cons_zero, List.set_cons_succ, i64_w, i32_w]
    rfl
  refine pure_ (i := 17) (N := some 55) (v := ?_) (a' := ?_) #[true, true, true, false, false, true, true, true, false, false, false, false, true, false, false, true, true, true, false, false, false, false, false, false, false, false, false, false, false] rfl rfl (by kernel_rfl) (fun _ _ _ h => h) (Or.inl ⟨by rfl, ?_⟩) ?_ ?_
  rotate_left
  · intro w'
    go_simp
    with_reducible rfl
  rotate_left
  · simp only [Act.put, List.setIfInBounds_toArray, List.set_cons_zero, List.set_cons_succ, i64_w, i32_w]
    rfl
  refine pure_ (i := 22) (N := some 60) (v := ?_) (a' := ?_) #[true, true, true, false, false, true, true, true, false, false, false, false, true, false, false, true, true, true, false, false, false, false, true, false, false, false, false, false, false] rfl rfl (by kernel_rfl) (fun _ _ _ h => h) (Or.inl ⟨by rfl, ?_⟩) ?_ ?_
  rotate_left
  · intro w'
    go_simp
    with_reducible rfl
  rotate_left
  · simp only [Act.put, List.setIfInBounds_toArray, List.set_cons_zero, List.set_cons_succ, i64_w, i32_w]
    rfl
  refine pure_ (i := 23) (N := some 61) (v := ?_) (a' := ?_) #[true, true, true, false, false, true, true, true, false, false, false, false, true, false, false, true, true, true, false, false, false, false, true, true, false, false, false, false, false] rfl rfl (by kernel_rfl) (fun _ _ _ h => h) (Or.inl ⟨by rfl, ?_⟩) ?_ ?_
  rotate_left
  · intro w'
    go_simp
    with_reducible rfl
  rotate_left
  · simp only [Act.put, List.setIfInBounds_toArray, List.set_cons_zero, List.set_cons_succ, i64_w, i32_w]
    rfl
  refine take_ (i := 3) (N := some 41) (v := ?_) (a' := ?_) #[true, true, true, true, false, true, true, true, false, false, false, false, true, false, false, true, true, true, false, false, false, false, true, true, false, false, false, false, false] rfl rfl (by kernel_rfl) (fun _ _ _ h => h) (Or.inl ⟨by rfl, ?_⟩) hHeld ?_ ?_
  rotate_left
  · rintro w' ⟨s0, s1⟩
    go_simp
    with_reducible rfl
  rotate_left
  · simp only [Act.put, List.setIfInBounds_toArray, List.set_cons_zero, List.set_cons_succ, i64_w, i32_w]
    rfl
  refine take_ (i := 8) (N := some 46) (v := ?_) (a' := ?_) #[true, true, true, true, false, true, true, true, true, false, false, false, true, false, false, true, true, true, false, false, false, false, true, true, false, false, false, false, false] rfl rfl (by kernel_rfl) (fun _ _ _ h => h) (Or.inl ⟨by rfl, ?_⟩) hHeld ?_ ?_
  rotate_left
  · rintro w' ⟨s0, s1⟩
    go_simp
    with_reducible rfl
  rotate_left
  · simp only [Act.put, List.setIfInBounds_toArray, List.set_cons_zero, List.set_cons_succ, i64_w, i32_w]
    rfl
  refine pure_ (i := 9) (N := some 47) (v := ?_) (a' := ?_) #[true, true, true, true, false, true, true, true, true, true, false, false, true, false, false, true, true, true, false, false, false, false, true, true, false, false, false, false, false] rfl rfl (by kernel_rfl) (fun _ _ _ h => h) (Or.inl ⟨by rfl, ?_⟩) ?_ ?_
  rotate_left
  · intro w'
    go_simp
    with_reducible rfl
  rotate_left
  · simp only [Act.put, List.setIfInBounds_toArray, List.set_cons_zero, List.set_cons_succ, i64_w, i32_w]
    rfl
  refine pure_ (i := 10) (N := some 48) (v := ?_) (a' := ?_) #[true, true, true, true, false, true, true, true, true, true, true, false, true, false, false, true, true, true, false, false, false, false, true, true, false, false, false, false, false] rfl rfl (by kernel_rfl) (fun _ _ _ h => h) (Or.inl ⟨by rfl, ?_⟩) ?_ ?_
  rotate_left
  · intro w'
    go_simp
    with_reducible rfl
  rotate_left
  · simp only [Act.put, List.setIfInBounds_toArray, List.set_cons_zero, List.set_cons_succ, i64_w, i32_w]
    rfl
  refine take_ (i := 11) (N := some 49) (v := ?_) (a' := ?_) #[true, true, true, true, false, true, true, true, true, true, true, true, true, false, false, true, true, true, false, false, false, false, true, true, false, false, false, false, false] rfl rfl (by kernel_rfl) (fun _ _ _ h => h) (Or.inl ⟨by rfl, ?_⟩) hHeld ?_ ?_
  rotate_left
  · rintro w' ⟨s0, s1⟩
    go_simp
    with_reducible rfl
  rotate_left
  · simp only [Act.put, List.setIfInBounds_toArray, List.set_cons_zero, List.set_cons_succ, i64_w, i32_w]
    rfl
  refine pure_ (i := 13) (N := some 51) (v := ?_) (a' := ?_) #[true, true, true, true, false, true, true, true, true, true, true, true, true, true, false, true, true, true, false, false, false, false, true, true, false, false, false, false, false] rfl rfl (by kernel_rfl) (fun _ _ _ h => h) (Or.inl ⟨by rfl, ?_⟩) ?_ ?_
  rotate_left
  · intro w'
    go_simp
    with_reducible rfl
  rotate_left
  · simp only [Act.put, List.setIfInBounds_toArray, List.set_cons_zero, List.set_cons_succ, i64_w, i32_w]
    rfl
  refine take_ (i := 18) (N := some 56) (v := ?_) (a' := ?_) #[true, true, true, true, false, true, true, true, true, true, true, true, true, true, false, true, true, true, true, false, false, false, true, true, false, false, false, false, false] rfl rfl (by kernel_rfl) (fun _ _ _ h => h) (Or.inl ⟨by rfl, ?_⟩) hHeld ?_ ?_
  rotate_left
  · rintro w' ⟨s0, s1⟩
    go_simp
    with_reducible rfl
  rotate_left
  · simp only [Act.put, List.setIfInBounds_toArray, List.set_cons_zero, List.set_cons_succ, i64_w, i32_w]
    rfl
  refine pure_ (i := 19) (N := some 57) (v := ?_) (a' := ?_) #[true, true, true, true, false, true, true, true, true, true, true, true, true, true, false, true, true, true, true, true, false, false, true, true, false, false, false, false, false] rfl rfl (by kernel_rfl) (fun _ _ _ h => h) (Or.inl ⟨by rfl, ?_⟩) ?_ ?_
  rotate_left
  · intro w'
    go_simp
    with_reducible rfl
  rotate_left
  · simp only [Act.put, List.setIfInBounds_toArray, List.set_cons_zero, List.set_cons_succ, i64_w, i32_w]
    rfl
  refine pure_ (i := 20) (N := some 58) (v := ?_) (a' := ?_) #[true, true, true, true, false, true, true, true, true, true, true, true, true, true, false, true, true, true, true, true, true, false, true, true, false, false, false, false, false] rfl rfl (by kernel_rfl) (fun _ _ _ h => h) (Or.inl ⟨by rfl, ?_⟩) ?_ ?_
  rotate_left
  · intro w'
    go_simp
    with_reducible rfl
  rotate_left
  · simp only [Act.put, List.setIfInBounds_toArray, List.set_cons_zero, List.set_cons_succ, i64_w, i32_w]
    rfl
  refine take_ (i := 21) (N := some 59) (v := ?_) (a' := ?_) #[true, true, true, true, false, true, true, true, true, true, true, true, true, true, false, true, true, true, true, true, true, true, true, true, false, false, false, false, false] rfl rfl (by kernel_rfl) (fun _ _ _ h => h) (Or.inl ⟨by rfl, ?_⟩) hHeld ?_ ?_
  rotate_left
  · rintro w' ⟨s0, s1⟩
    go_simp
    with_reducible rfl
  rotate_left
  · simp only [Act.put, List.setIfInBounds_toArray, List.set_cons_zero, List.set_cons_succ, i64_w, i32_w]
    rfl
  refine pure_ (i := 24) (N := some 62) (v := ?_) (a' := ?_) #[true, true, true, true, false, true, true, true, true, true, true, true, true, true, false, true, true, true, true, true, true, true, true, true, true, false, false, false, false] rfl rfl (by kernel_rfl) (fun _ _ _ h => h) (Or.inl ⟨by rfl, ?_⟩) ?_ ?_
  rotate_left
  · intro w'
    go_simp
    with_reducible rfl
  rotate_left
  · simp only [Act.put, List.setIfInBounds_toArray, List.set_cons_zero, List.set_cons_succ, i64_w, i32_w]
    rfl
  refine one_ (i := 4) (N := some 42) #[true, true, true, true, true, true, true, true, true, true, true, true, true, true, false, true, true, true, true, true, true, true, true, true, true, false, false, false, false] rfl rfl (by kernel_rfl) (by decide) (fun K hK => ?_)
  refine value_ (w1 := ?_) (v := ?_) (by rfl) rfl ?_ ?_
  rotate_left 2
  · go_simp
    constructor
    · rfl
    · rfl
  refine hK.out _ _ ⟨(HL.out.box.blk.alloc _).at 1 _ (by simp [worC]), (HB.out.blk.alloc _).at 1 (.slice (some ⟨g, 0, none⟩) l.length c) rfl⟩ (fun hHeld => ?_)
  clear hK K
  refine norm_ (a' := ?_) ?_ ?_
  rotate_left
  · show Act.put _ (some 42) _ = _
    simp only [Act.put, List.setIfInBounds_toArray, List.set_cons_zero, List.set_cons_succ, i64_w, i32_w]
    rfl
  refine one_ (i := 14) (N := some 52) #[true, true, true, true, true, true, true, true, true, true, true, true, true, true, true, true, true, true, true, true, true, true, true, true, true, false, false, false, false] rfl rfl (by kernel_rfl) (by decide) (fun K hK => ?_)
  refine TS.step_append_eq rfl _ _ 29 29 rfl _ _ rfl rfl (hr1 _) ?_
  refine hK.out _ _ ⟨HX5.out.at 1 _ (by simp [worC]), HB5.out.at 1 (.slice (some ⟨g, 0, none⟩) l.length c) rfl⟩ (fun hHeld => ?_)
  clear hK K
  refine norm_ (a' := ?_) ?_ ?_
  rotate_left
  · show Act.put _ (some 52) _ = _
    simp only [Act.put, List.setIfInBounds_toArray, List.set_cons_zero, List.set_cons_succ, i64_w, i32_w]
    rfl
  refine one_ (i := 25) (N := some 63) #[true, true, true, true, true, true, true, true, true, true, true, true, true, true, true, true, true, true, true, true, true, true, true, true, true, true, false, false, false] rfl rfl (by kernel_rfl) (by decide) (fun K hK => ?_)
  refine TS.step_append_eq rfl _ _ 29 29 rfl _ _ rfl rfl (hr2 _) ?_
  refine hK.out _ _ ⟨HX6.out.at 1 _ (by simp [worC]), HB6.out.at 1 (.slice (some ⟨g, 0, none⟩) l.length c) rfl⟩ (fun hHeld => ?_)
  clear hK K
  refine norm_ (a' := ?_) ?_ ?_
  rotate_left
  · show Act.put _ (some 63) _ = _
    simp only [Act.put, List.setIfInBounds_toArray, List.set_cons_zero, List.set_cons_succ, i64_w, i32_w]
    rfl
  refine pure_ (i := 26) (N := some 64) (v := ?_) (a' := ?_) #[true, true, true, true, true, true, true, true, true, true, true, true, true, true, true, true, true, true, true, true, true, true, true, true, true, true, true, false, false] rfl rfl (by kernel_rfl) (fun _ _ _ h => h) (Or.inl ⟨by rfl, ?_⟩) ?_ ?_
  rotate_left
  · intro w'
    go_simp
    with_reducible rfl
  rotate_left
  · simp only [Act.put, List.setIfInBounds_toArray, List.set_cons_zero, List.set_cons_succ, i64_w, i32_w]
    rfl
  refine pure_ (i := 27) (N := some 65) (v := ?_) (a' := ?_) #[true, true, true, true, true, true, true, true, true, true, true, true, true, true, true, true, true, true, true, true, true, true, true, true, true, true, true, true, false] rfl rfl (by kernel_rfl) (fun _ _ _ h => h) (Or.inl ⟨by rfl, ?_⟩) ?_ ?_
  rotate_left
  · intro w'
    go_simp
    with_reducible rfl
  rotate_left
  · simp only [Act.put, List.setIfInBounds_toArray, List.set_cons_zero, List.set_cons_succ, i64_w, i32_w]
    rfl
  refine last_ (i := 28) (N := none) #[true, true, true, true, true, true, true, true, true, true, true, true, true, true, true, true, true, true, true, true, true, true, true, true, true, true, true, true, true] rfl rfl (by kernel_rfl) (by decide) (fun K hK => ?_)
  have f7 := HB6.out.fz 1
  refine skip_ (w1 := ?_) (by rfl) rfl ?_ ?_
  rotate_left
  · go_simp
    rfl
  refine hK.out _ _ ?_
  clear hK K
  refine done_ (by kernel_rfl) ?_
  go_wp2_with fail
  go_ret
  have hfin := HN.out
  exact ⟨rfl, _, _, hfin⟩
end Go.Proofs.YtenkdmloolbdaaaGreatDoor.T
end
section
namespace Go.Proofs.YtenkdmloolbdaaaGreatDoor.T
open Go.RowKit Go.Maps Go.WideShapes Go.Proofs.YtenkdmloolbdaaaGreatDoorW.PrintWords Go.Proofs.YtenkdmloolbdaaaGreatDoorW.PrintLast Go.Proofs.YtenkdmloolbdaaaGreatDoorW.PrintMore
set_option linter.unusedVariables false
set_option linter.unusedSimpArgs false
set_option maxHeartbeats 4000000 in
set_option maxRecDepth 100000 in
theorem law_free_bad (w0 : World) (κ μ : Kol) (b m mo nc : Nat) (t : Top) (a : Ad) (s s' : St) (l : List Ob) (j : Int) (x : Int) (hj : 0 ≤ j) (hj2 : j < nc) (hnc : nc ≤ 1000) (hf : ∀ o ∈ l, (o.addr : Int) ≠ x)
    (hD : Does 43 #[.pointer (some ⟨m, 0, none⟩), .int .i64 j, .int .i64 x] m a s s' (.int .i64 6)) (w : World) (h : LawK w0 κ μ w b m mo nc t a s l) :
    Calls Tryz.prog 19 #[.pointer (some ⟨b, 0, none⟩), .int .i64 j, .int .i64 x] w fun e w' => e = .returned (.bool true) ∧ ∃ κ' μ', LawK w0 κ' μ' w' b m mo nc t a s' l := by
  have HM := Aside0.mk (hD κ w h.glob h.mach)
  have HL := Aside0.mk h
  have x0 := h.x0
  have HF := Aside0.mk (fndI_none l x hf)
  clear h hD hf
  go_enter Tryz.func19, Tryz.ntmps19
  go_upto_region 2 with (go_at_call 43; (with_reducible refine HM.out.mono ?_); rintro e_ w1 ⟨rfl, κ1, q1, q2⟩; have HL1 := Aside0.mk (HL.out.stepM q1 q2); clear q1 q2)
  clear x0 HM HL
  have x1 := HL1.out.x1
  have HFN := Aside0.mk (model_find _ mo nc l x _ HL1.out.mod)
  rw [HF.out] at HFN
  go_wp2_with (first | (go_at_call 57; (with_reducible refine (model_cpu _ mo nc l j hj hj2 hnc _ HL1.out.mod).mono ?_); rintro e_ w2 ⟨rfl, rfl⟩) | (go_at_call 60; (with_reducible refine HFN.out.mono ?_); rintro e_ w3 ⟨rfl, rfl⟩))
  go_ret
  have hfin := HL1.out
  exact ⟨rfl, _, _, hfin⟩
theorem obs_set (l : List Ob) (k : Nat) (hk : k < l.length) (bs : List Nat) (hb : bs.length = l[k].bs.length) : obs (l.set k { l[k] with bs := bs }) = obs l := by
  unfold obs
  rw [List.flatMap_def, List.flatMap_def, List.map_set]
  have : Ob.cells { l[k] with bs := bs } = (l.map Ob.cells)[k]'(by simpa using hk) := by
    rw [List.getElem_map]
    simp only [Ob.cells, hb]
  rw [this, List.set_getElem_self]
/-- The model, an object's bytes written. -/
theorem ModK.wrote {κ : Kol} {w w' : World} {b nc k : Nat} {l : List Ob} (h : ModK κ w b nc l) (hk : k < l.length) (bs : List Nat) (hb : bs.length = l[k].bs.length) (hB : BlkK κ 4 w' l[k].blk (bv bs) 5) (hoth : ∀ q, q ≠ l[k].blk → w'.heap[q]? = w.heap[q]?) (hU : Upd (· = 4) κ w κ w') :
    ModK κ w' b nc (l.set k { l[k] with bs := bs }) := by
  obtain ⟨A, c, h1, h2⟩ := h.row
  have hmem : ∀ o ∈ l.set k { l[k] with bs := bs }, o = { l[k] with bs := bs } ∨ (o ∈ l ∧ o.blk ≠ l[k].blk) := by
    intro o ho
    obtain ⟨q, hq, rfl⟩ := List.mem_iff_getElem.1 ho
    rw [List.length_set] at hq
    by_cases e : k = q
    · subst e
      exact .inl (List.getElem_set_self _)
    · rw [List.getElem_set_ne e]
      refine .inr ⟨List.getElem_mem hq, fun e2 => e ?_⟩
      have hn := List.pairwise_iff_getElem.1 (show (l.map Ob.blk).Pairwise (· ≠ ·) from h.nd)
      rcases Nat.lt_or_ge k q with h9 | h9
      · exact absurd (by rw [List.getElem_map, List.getElem_map]; exact e2.symm) (hn k q (by simpa using hk) (by simpa using hq) h9)
      · exact absurd (by rw [List.getElem_map, List.getElem_map]; exact e2) (hn q k (by simpa using hq) (by simpa using hk) (by omega))
  refine ⟨⟨A, c, by rw [List.length_set]; exact h1.upd hU (by omega), by rw [List.length_set, obs_set l k hk bs hb]; exact h2.upd hU (by omega)⟩, fun o ho => ?_, ?_, by rw [List.length_set]; exact h.len, fun o ho => ?_⟩
  · rcases hmem o ho with rfl | ⟨h3, h4⟩
    · exact hB
    · exact ⟨(h.bl o h3).kol, (hoth o.blk h4).trans (h.bl o h3).blk⟩
  · rw [List.map_set]
    have : (l.map Ob.blk).set k l[k].blk = l.map Ob.blk := by
      rw [show l[k].blk = (l.map Ob.blk)[k]'(by simpa using hk) by rw [List.getElem_map], List.set_getElem_self]
    show ((l.map Ob.blk).set k l[k].blk).Nodup
    rw [this]
    exact h.nd
  · rcases hmem o ho with rfl | ⟨h3, h4⟩
    · exact ⟨(h.val _ (List.getElem_mem hk)).1, by show bs.length ≤ 1024; rw [hb]; exact (h.val _ (List.getElem_mem hk)).2⟩
    · exact h.val o h3
/-- copy into an object's bytes. -/
theorem copy_obs (κ : Kol) (w : World) (g o z n dc cb : Nat) (B : Option Addr) (xs bs : List Nat) (hg : BlkK κ 4 w g (bv xs) 5) (hz : o + z = xs.length) (hn : n ≤ z) (hr : RdB w B n bs) :
    ∃ v' w', (∀ ty, (Builtin.copy_ #[23, 23] ty #[.slice (some ⟨g, o, none⟩) z dc, .slice B n cb]).run Tryz.prog w = .ok v' w') ∧ BlkK κ 4 w' g (bv (spliceB xs o bs)) 5 ∧ (∀ q, q ≠ g → w'.heap[q]? = w.heap[q]?) ∧ Upd (· = 4) κ w κ w' := by
  have hl := hr.len
  have hinfo : (Tryz.prog.info? 5).map (·.size) = some 1 := by kernel_rfl
  cases B with
  | some ad =>
    refine ⟨goInt n, w.setRow g (bv (spliceB xs o bs)), fun ty => ?_, hg.setRow (bv (spliceB xs o bs)), fun q hq => setRow_other w g q _ hq, Upd.setRow hg.kol _⟩
    · have hcp := run_copy_row (P := Tryz.prog) (ty := ty) w 23 23 5 g o z dc ad n cb (bv xs) 5 (bs.map fun (x : Nat) => Value.int .u8 x) Tryz.underlying23 hinfo hg.blk
        (by rw [List.length_map, hl]; exact (Nat.min_eq_left hn).symm) (fun j v hv => by
          rw [List.getElem?_map] at hv
          cases hy : bs[j]? with
          | none => rw [hy] at hv; simp at hv
          | some y =>
            rw [hy] at hv; simp at hv; rw [← hv]
            have hj : j < bs.length := (List.getElem?_eq_some_iff.1 hy).1
            obtain ⟨ad2, e2, h2⟩ := hr.cell (by omega)
            obtain rfl := Option.some.inj e2
            exact h2 j y hy)
        (by unfold bv; simp; omega) (by intro v hv; obtain ⟨y, _, rfl⟩ := List.mem_map.1 hv; rfl)
      rw [splice_bv, List.length_map, hl] at hcp
      exact hcp
  | none =>
    obtain rfl : n = 0 := by
      rcases Nat.eq_zero_or_pos n with h | h
      · exact h
      · obtain ⟨_, e, _⟩ := hr.cell h
        cases e
    obtain rfl := List.length_eq_zero_iff.1 hl
    have hs : spliceB xs o [] = xs := by unfold spliceB; simp
    rw [hs]
    refine ⟨goInt 0, w, fun ty => ?_, hg, fun q hq => rfl, Upd.refl _ _ _⟩
    cases hq : Tryz.prog.info? 5 with
    | none => simp [hq] at hinfo
    | some i =>
      have hi : i.size = 1 := by simpa [hq] using hinfo
      simp [Builtin.copy_, run_underlying Tryz.underlying23, Builtin.lenOf, Builtin.firstCells, sizeOf, typeInfo, hq, hi]
      try rfl
end Go.Proofs.YtenkdmloolbdaaaGreatDoor.T
end
