/- A law's world: write and read. A law's world: read. -/
import Derived.Test.YtenkdmloolbdaaaGreatDoorV42
section
namespace Go.Proofs.YtenkdmloolbdaaaGreatDoor.T
open Go.RowKit Go.Maps Go.WideShapes Go.Proofs.YtenkdmloolbdaaaGreatDoorW.PrintWords Go.Proofs.YtenkdmloolbdaaaGreatDoorW.PrintLast Go.Proofs.YtenkdmloolbdaaaGreatDoorW.PrintMore
set_option linter.unusedVariables false
set_option linter.unusedSimpArgs false
/-- What a Write of the machine does, of bytes that a step of the machine leaves. -/
def DoesW (j x o : Int) (B : Option Addr) (n cb : Nat) (bs : List Nat) (m : Nat) (a : Ad) (s s' : St) : Prop :=
  ∀ κ w, GlobK κ w → MachK κ w m a s → RdS (fun z => 1 ≤ z) κ w B bs → Calls Tryz.prog 23 #[.pointer (some ⟨m, 0, none⟩), .int .i64 j, .int .i64 x, .int .i64 o, .slice B n cb] w fun e w' => e = .returned (.int .i64 0) ∧ ∃ κ', MachK κ' w' m a s' ∧ Upd (fun z => 1 ≤ z) κ w κ' w'
/-- What a Read of the machine does. -/
def DoesR (j x o : Int) (n : Nat) (xs : List Nat) (m : Nat) (a : Ad) (s : St) : Prop :=
  ∀ κ w, GlobK κ w → MachK κ w m a s → Calls Tryz.prog 24 #[.pointer (some ⟨m, 0, none⟩), .int .i64 j, .int .i64 x, .int .i64 o, .int .i64 n] w fun e w' => ∃ A cp, e = .returned (.tuple #[.slice A n cp, .int .i64 0]) ∧ RdB w' A n xs ∧ RowKit.Below w.heap.size w w'
set_option maxHeartbeats 4000000 in
set_option maxRecDepth 100000 in
theorem law_write (w0 : World) (κ μ : Kol) (b m mo nc : Nat) (t : Top) (a : Ad) (s s' : St) (l : List Ob) (j : Int) (x k o n cb : Nat) (B : Option Addr) (bs : List Nat) (hj : 0 ≤ j) (hj2 : j < nc) (hnc : nc ≤ 1000) (hk : k < l.length) (hf : fndI l x = k) (hfit : o + n ≤ l[k].bs.length) (ho : o < l[k].bs.length)
    (hD : DoesW j x o B n cb bs m a s s') (w : World) (h : LawK w0 κ μ w b m mo nc t a s l) (hs : RdS (fun z => 1 ≤ z) κ w B bs) (hn : bs.length = n) :
    Calls Tryz.prog 18 #[.pointer (some ⟨b, 0, none⟩), .int .i64 j, .int .i64 x, .int .i64 o, .slice B n cb] w fun e w' => e = .returned (.bool true) ∧ ∃ κ' μ', LawK w0 κ' μ' w' b m mo nc t a s' (l.set k { l[k] with bs := spliceB l[k].bs o bs }) := by
  have HM := Aside0.mk (hD κ w h.glob h.mach hs)
  have HL := Aside0.mk h
  have HS := Aside0.mk hs
  have x0 := h.x0
  have HF := Aside0.mk hf
  have hlen := h.mod.len
  clear h hD hf hs
  go_enter Tryz.func18, Tryz.ntmps18
  go_upto_region 2 with (go_at_call 23; (with_reducible refine HM.out.mono ?_); rintro e_ w1 ⟨rfl, κ1, q1, q2⟩; have HL1 := Aside0.mk (HL.out.stepM q1 q2); have HRD := Aside0.mk (HS.out _ _ q2); clear q1 q2)
  clear x0 HM HL HS
  have x1 := HL1.out.x1
  go_upto_region 7 with (go_at_call 59; (with_reducible refine (model_reach _ mo nc l j hj hj2 hnc x k o n hk HF.out hfit _ HL1.out.mod).mono ?_); rintro e_ w2 ⟨rfl, rfl⟩)
  clear x1
  obtain ⟨μ1, hμ1⟩ : ∃ μ1, μ.ext w.heap.size 0 = μ1 := ⟨_, rfl⟩
  rw [hμ1] at HL1
  clear hμ1
  rw [hn] at HRD
  obtain ⟨A, c, hB, hR⟩ := HL1.out.mod.row
  obtain ⟨g, rfl, _, s1⟩ := obs_at hR k hk
  have x1 := HL1.out.x1
  have y1 := hB.blk.at 1 (.slice (some ⟨g, 0, none⟩) l.length c) rfl
  obtain ⟨z, hz⟩ : ∃ z, z + o = l[k].bs.length := ⟨l[k].bs.length - o, by omega⟩
  have hk0 : (0 : Int) ≤ (k : Int) := by omega
  have hkI : (k : Int) < (l.length : Int) := by omega
  have hzl := (HL1.out.mod.val l[k] (List.getElem_mem hk)).2
  have HV := Aside0.mk (And.intro hfit hz)
  rw [← hz] at s1 hfit ho hzl
  have HB := Aside0.mk hB
  have HR := Aside0.mk hR
  obtain ⟨bk, hbk⟩ : ∃ bk, l[k].blk = bk := ⟨_, rfl⟩
  rw [hbk] at s1
  have HBK := Aside0.mk hbk
  have hoz : (o : Int) ≤ (z : Int) + (o : Int) := by omega
  have hz0 : ¬ z = 0 := by omega
  clear hB hR hbk hz
  refine start_ (n := 20) (S := fun w' => w'.cell? ⟨b, 1, none⟩ = some (.pointer (some ⟨mo, 0, none⟩)) ∧ w'.cell? ⟨mo, 1, none⟩ = some (.slice (some ⟨g, 0, none⟩) l.length c) ∧ w'.cell? ⟨g, k * 2 + 1, none⟩ = some (.slice (some ⟨bk, 0, none⟩) (z + o) (z + o))) (ds := [19]) #[false, false, false, false, false, false, false, false, false, false, false, false, false, false, false, false, false, false, false, false] (by kernel_rfl) rfl rfl ⟨x1, y1, s1⟩ (fun hHeld => ?_)
  have hd_ := below_drew (RowKit.Below.refl w2.heap.size w2)
  have n0_ := Aside0.mk (HL1.out.below hd_)
  have n1_ := Aside0.mk (HRD.out.below hd_)
  clear HL1 HRD HB HR x1 y1 s1
  generalize w2.drew = wd at *
  clear hd_
  have HL := n0_
  have HRD := n1_
  clear n0_ n1_
  have HFN := Aside0.mk (model_find _ mo nc l x _ HL.out.mod)
  rw [HF.out] at HFN
  have hob := HL.out.mod.bl l[k] (List.getElem_mem hk)
  have hlw : (spliceB l[k].bs o bs).length = l[k].bs.length := splice_len _ _ _ (by rw [hn]; exact HV.out.1)
  obtain ⟨v7, w7, hcp, q1, q2, q3⟩ := copy_obs μ1 wd l[k].blk o z n z cb B l[k].bs bs hob (by have := HV.out.2; omega) (by have := HV.out; omega) HRD.out
  have HN := Aside0.mk (HL.out.stepW (HL.out.mod.wrote hk _ hlw q1 q2 q3) (q3.mono (fun c e => by omega)))
  rw [HBK.out] at hcp
  clear hob hlw q1 q2 q3
  refine pure_ (i := 0) (N := some 41) (v := ?_) (a' := ?_) #[true, false, false, false, false, false, false, false, false, false, false, false, false, false, false, false, false, false, false, false] rfl rfl (by kernel_rfl) (fun _ _ _ h => h) (Or.inl ⟨by rfl, ?_⟩) ?_ ?_
  rotate_left
  · intro w'
    go_simp
    with_reducible rfl
  rotate_left
  · simp only [Act.put, List.setIfInBounds_toArray, List.set_cons_zero, List.set_cons_succ, i64_w, i32_w]
    rfl
  refine pure_ (i := 1) (N := some 42) (v := ?_) (a' := ?_) #[true, true, false, false, false, false, false, false, false, false, false, false, false, false, false, false, false, false, false, false] rfl rfl (by kernel_rfl) (fun _ _ _ h => h) (Or.inl ⟨by rfl, ?_⟩) ?_ ?_
  rotate_left
  · intro w'
    go_simp
    with_reducible rfl
  rotate_left
  · simp only [Act.put, List.setIfInBounds_toArray, List.set_cons_zero, List.set_cons_succ, i64_w, i32_w]
    rfl
  refine pure_ (i := 2) (N := some 43) (v := ?_) (a' := ?_) #[true, true, true, false, false, false, false, false, false, false, false, false, false, false, false, false, false, false, false, false] rfl rfl (by kernel_rfl) (fun _ _ _ h => h) (Or.inl ⟨by rfl, ?_⟩) ?_ ?_
  rotate_left
  · intro w'
    go_simp
    with_reducible rfl
  rotate_left
  · simp only [Act.put, List.setIfInBounds_toArray, List.set_cons_zero, List.set_cons_succ, i64_w, i32_w]
    rfl
  refine pure_ (i := 7) (N := some 48) (v := ?_) (a' := ?_) #[true, true, true, false, false, false, false, true, false, false, false, false, false, false, false, false, false, false, false, false] rfl rfl (by kernel_rfl) (fun _ _ _ h => h) (Or.inl ⟨by rfl, ?_⟩) ?_ ?_
  rotate_left
  · intro w'
    go_simp
    with_reducible rfl
  rotate_left
  · simp only [Act.put, List.setIfInBounds_toArray, List.set_cons_zero, List.set_cons_succ, i64_w, i32_w]
    rfl
  refine pure_ (i := 8) (N := some 49) (v := ?_) (a' := ?_) #[true, true, true, false, false, false, false, true, true, false, false, false, false, false, false, false, false, false, false, false] rfl rfl (by kernel_rfl) (fun _ _ _ h => h) (Or.inl ⟨by rfl, ?_⟩) ?_ ?_
  rotate_left
  · intro w'
    go_simp
    with_reducible rfl
  rotate_left
  · simp only [Act.put, List.setIfInBounds_toArray, List.set_cons_zero, List.set_cons_succ, i64_w, i32_w]
    rfl
  refine pure_ (i := 9) (N := some 50) (v := ?_) (a' := ?_) #[true, true, true, false, false, false, false, true, true, true, false, false, false, false, false, false, false, false, false, false] rfl rfl (by kernel_rfl) (fun _ _ _ h => h) (Or.inl ⟨by rfl, ?_⟩) ?_ ?_
  rotate_left
  · intro w'
    go_simp
    with_reducible rfl
  rotate_left
  · simp only [Act.put, List.setIfInBounds_toArray, List.set_cons_zero, List.set_cons_succ, i64_w, i32_w]
    rfl
  refine pure_ (i := 11) (N := some 52) (v := ?_) (a' := ?_) #[true, true, true, false, false, false, false, true, true, true, false, true, false, false, false, false, false, false, false, false] rfl rfl (by kernel_rfl) (fun _ _ _ h => h) (Or.inl ⟨by rfl, ?_⟩) ?_ ?_
  rotate_left
  · intro w'
    go_simp
    with_reducible rfl
  rotate_left
  · simp only [Act.put, List.setIfInBounds_toArray, List.set_cons_zero, List.set_cons_succ, i64_w, i32_w]
    rfl
  refine pure_ (i := 16) (N := some 57) (v := ?_) (a' := ?_) #[true, true, true, false, false, false, false, true, true, true, false, true, false, false, false, false, true, false, false, false] rfl rfl (by kernel_rfl) (fun _ _ _ h => h) (Or.inl ⟨by rfl, ?_⟩) ?_ ?_
  rotate_left
  · intro w'
    go_simp
    with_reducible rfl
  rotate_left
  · simp only [Act.put, List.setIfInBounds_toArray, List.set_cons_zero, List.set_cons_succ, i64_w, i32_w]
    rfl
  refine pure_ (i := 18) (N := some 59) (v := ?_) (a' := ?_) #[true, true, true, false, false, false, false, true, true, true, false, true, false, false, false, false, true, false, true, false] rfl rfl (by kernel_rfl) (fun _ _ _ h => h) (Or.inl ⟨by rfl, ?_⟩) ?_ ?_
  rotate_left
  · intro w'
    go_simp
    with_reducible rfl
  rotate_left
  · simp only [Act.put, List.setIfInBounds_toArray, List.set_cons_zero, List.set_cons_succ, i64_w, i32_w]
    rfl
  refine take_ (i := 3) (N := some 44) (v := ?_) (a' := ?_) #[true, true, true, true, false, false, false, true, true, true, false, true, false, false, false, false, true, false, true, false] rfl rfl (by kernel_rfl) (fun _ _ _ h => h) (Or.inl ⟨by rfl, ?_⟩) hHeld ?_ ?_
  rotate_left
  · rintro w' ⟨s0, s1, s2⟩
    go_simp
    with_reducible rfl
  rotate_left
  · simp only [Act.put, List.setIfInBounds_toArray, List.set_cons_zero, List.set_cons_succ, i64_w, i32_w]
    rfl
  refine pure_ (i := 4) (N := some 45) (v := ?_) (a' := ?_) #[true, true, true, true, true, false, false, true, true, true, false, true, false, false, false, false, true, false, true, false] rfl rfl (by kernel_rfl) (fun _ _ _ h => h) (Or.inl ⟨by rfl, ?_⟩) ?_ ?_
  rotate_left
  · intro w'
    go_simp
    with_reducible rfl
  rotate_left
  · simp only [Act.put, List.setIfInBounds_toArray, List.set_cons_zero, List.set_cons_succ, i64_w, i32_w]
    rfl
  refine pure_ (i := 5) (N := some 46) (v := ?_) (a' := ?_) #[true, true, true, true, true, true, false, true, true, true, false, true, false, false, false, false, true, false, true, false] rfl rfl (by kernel_rfl) (fun _ _ _ h => h) (Or.inl ⟨by rfl, ?_⟩) ?_ ?_
  rotate_left
  · intro w'
    go_simp
    with_reducible rfl
  rotate_left
  · simp only [Act.put, List.setIfInBounds_toArray, List.set_cons_zero, List.set_cons_succ, i64_w, i32_w]
    rfl
  refine take_ (i := 6) (N := some 47) (v := ?_) (a' := ?_) #[true, true, true, true, true, true, true, true, true, true, false, true, false, false, false, false, true, false, true, false] rfl rfl (by kernel_rfl) (fun _ _ _ h => h) (Or.inl ⟨by rfl, ?_⟩) hHeld ?_ ?_
  rotate_left
  · rintro w' ⟨s0, s1, s2⟩
    go_simp
    with_reducible rfl
  rotate_left
  · simp only [Act.put, List.setIfInBounds_toArray, List.set_cons_zero, List.set_cons_succ, i64_w, i32_w]
    rfl
  refine take_ (i := 10) (N := some 51) (v := ?_) (a' := ?_) #[true, true, true, true, true, true, true, true, true, true, true, true, false, false, false, false, true, false, true, false] rfl rfl (by kernel_rfl) (fun _ _ _ h => h) (Or.inl ⟨by rfl, ?_⟩) hHeld ?_ ?_
  rotate_left
  · rintro w' ⟨s0, s1, s2⟩
    go_simp
    with_reducible rfl
  rotate_left
  · simp only [Act.put, List.setIfInBounds_toArray, List.set_cons_zero, List.set_cons_succ, i64_w, i32_w]
    rfl
  refine one_ (i := 12) (N := some 53) #[true, true, true, true, true, true, true, true, true, true, true, true, true, false, false, false, true, false, true, false] rfl rfl (by kernel_rfl) (by decide) (fun K hK => ?_)
  refine goes_ Tryz.func60 (by kernel_rfl) rfl #[.pointer (some ⟨mo, 0, none⟩), .int .i64 x] (by rfl) rfl rfl (by simp only [List.map_toArray, List.map_cons, List.map_nil]; rfl) ?_
  with_reducible refine (HFN.out).mono ?_
  rintro e_ w5 ⟨rfl, rfl⟩
  refine ⟨_, rfl, ?_⟩
  refine hK.out _ _ ⟨hHeld.1, hHeld.2.1, hHeld.2.2⟩ (fun hHeld => ?_)
  clear hK K
  refine norm_ (a' := ?_) ?_ ?_
  rotate_left
  · show Act.put _ (some 53) _ = _
    simp only [Act.put, List.setIfInBounds_toArray, List.set_cons_zero, List.set_cons_succ, i64_w, i32_w]
    rfl
  refine pure_ (i := 13) (N := some 54) (v := ?_) (a' := ?_) #[true, true, true, true, true, true, true, true, true, true, true, true, true, true, false, false, true, false, true, false] rfl rfl (by kernel_rfl) (fun _ _ _ h => h) (Or.inl ⟨by rfl, ?_⟩) ?_ ?_
  rotate_left
  · intro w'
    go_simp
    with_reducible rfl
  rotate_left
  · simp only [Act.put, List.setIfInBounds_toArray, List.set_cons_zero, List.set_cons_succ, i64_w, i32_w]
    rfl
  refine pure_ (i := 14) (N := some 55) (v := ?_) (a' := ?_) #[true, true, true, true, true, true, true, true, true, true, true, true, true, true, true, false, true, false, true, false] rfl rfl (by kernel_rfl) (fun _ _ _ h => h) (Or.inl ⟨by rfl, ?_⟩) ?_ ?_
  rotate_left
  · intro w'
    go_simp
    with_reducible rfl
  rotate_left
  · simp only [Act.put, List.setIfInBounds_toArray, List.set_cons_zero, List.set_cons_succ, i64_w, i32_w]
    rfl
  refine take_ (i := 15) (N := some 56) (v := ?_) (a' := ?_) #[true, true, true, true, true, true, true, true, true, true, true, true, true, true, true, true, true, false, true, false] rfl rfl (by kernel_rfl) (fun _ _ _ h => h) (Or.inl ⟨by rfl, ?_⟩) hHeld ?_ ?_
  rotate_left
  · rintro w' ⟨s0, s1, s2⟩
    go_simp
    with_reducible rfl
  rotate_left
  · simp only [Act.put, List.setIfInBounds_toArray, List.set_cons_zero, List.set_cons_succ, i64_w, i32_w]
    rfl
  refine pure_ (i := 17) (N := some 58) (v := ?_) (a' := ?_) #[true, true, true, true, true, true, true, true, true, true, true, true, true, true, true, true, true, true, true, false] rfl rfl (by kernel_rfl) (fun _ _ _ h => h) (Or.inl ⟨by rfl, ?_⟩) ?_ ?_
  rotate_left
  · intro w'
    go_simp
    with_reducible rfl
  rotate_left
  · simp only [Act.put, List.setIfInBounds_toArray, List.set_cons_zero, List.set_cons_succ, i64_w, i32_w]
    rfl
  refine last_ (i := 19) (N := some 60) #[true, true, true, true, true, true, true, true, true, true, true, true, true, true, true, true, true, true, true, true] rfl rfl (by kernel_rfl) (by decide) (fun K hK => ?_)
  refine TS.step_copy_eq rfl _ _ 23 23 rfl _ _ rfl rfl (hcp _) ?_
  refine hK.out _ _ ?_
  clear hK K
  refine norm_ (a' := ?_) ?_ ?_
  rotate_left
  · show Act.put _ (some 60) _ = _
    simp only [Act.put, List.setIfInBounds_toArray, List.set_cons_zero, List.set_cons_succ, i64_w, i32_w]
    rfl
  refine done_ (by kernel_rfl) ?_
  go_wp2_with fail
  go_ret
  exact ⟨rfl, _, _, HN.out⟩
/-- Bytes in memory, as a string. -/
theorem conv_rd (W : World) (A : Option Addr) (n c : Nat) (xs : List Nat) (h : RdB W A n xs) : (convert 23 9 (.slice A n c)).run Tryz.prog W = .ok (.string (strOfNums (xs.map fun (x : Nat) => (x : Int)))) W := by
  have hl := h.len
  cases A with
  | none =>
    obtain rfl : n = 0 := by
      rcases Nat.eq_zero_or_pos n with h9 | h9
      · exact h9
      · obtain ⟨_, e, _⟩ := h.cell h9
        cases e
    obtain rfl := List.length_eq_zero_iff.1 hl
    have := run_convert_bytes_nil (P := Tryz.prog) W 23 5 Tryz.underlying23 Tryz.underlying5 0 c 9 Tryz.underlying9
    rw [this]
    rfl
  | some ad =>
    have hq : (loadCells ad n).run Tryz.prog W = .ok ((xs.map fun (x : Nat) => (x : Int)).map (Value.int .u8)).toArray W := by
      have := run_loadCells_list (P := Tryz.prog) W ad (((xs.map fun (x : Nat) => (x : Int)).map (Value.int .u8))) (fun j v hj => by
        rw [List.getElem?_map, List.getElem?_map] at hj
        cases hy : xs[j]? with
        | none => rw [hy] at hj; simp at hj
        | some y =>
          rw [hy] at hj; simp at hj; rw [← hj]
          have hjl : j < xs.length := (List.getElem?_eq_some_iff.1 hy).1
          obtain ⟨ad2, e2, h2⟩ := h.cell (by omega)
          obtain rfl := Option.some.inj e2
          exact h2 j y hy)
      rw [List.length_map, List.length_map, hl] at this
      exact this
    rw [run_convert_bytes_string W 23 9 5 _ n c Tryz.underlying23 Tryz.underlying5 Tryz.underlying9, run_bytesToString W _ n c _ hq, foldl_push_bytes]
    simp [strOfNums, ByteArray.empty, ByteArray.emptyWithCapacity]
    try rfl
theorem rd_obs {κ : Kol} {w : World} {g o n : Nat} {xs : List Nat} (h : BlkK κ 4 w g (bv xs) 5) (hl : o + n ≤ xs.length) (h1 : xs.length ≤ 1024) : RdB w (some ⟨g, o, none⟩) n ((xs.drop o).take n) := by
  exact bv_cells h.blk o n hl (by omega)
end Go.Proofs.YtenkdmloolbdaaaGreatDoor.T
end
section
namespace Go.Proofs.YtenkdmloolbdaaaGreatDoor.T
open Go.RowKit Go.Maps Go.WideShapes Go.Proofs.YtenkdmloolbdaaaGreatDoorW.PrintWords Go.Proofs.YtenkdmloolbdaaaGreatDoorW.PrintLast Go.Proofs.YtenkdmloolbdaaaGreatDoorW.PrintMore
set_option linter.unusedVariables false
set_option linter.unusedSimpArgs false
theorem cell_keep {w : World} {p : Addr} {v : Value} (o : Obj) (h : w.cell? p = some v) : (w.alloc o).cell? p = some v := (World.cell?_alloc_lt w o p (World.block_lt_of_cell? w p h)).trans h
set_option maxHeartbeats 4000000 in
set_option maxRecDepth 100000 in
theorem law_read (w0 : World) (κ μ : Kol) (b m mo nc : Nat) (t : Top) (a : Ad) (s : St) (l : List Ob) (j : Int) (x k o n : Nat) (xs : List Nat) (hj : 0 ≤ j) (hj2 : j < nc) (hnc : nc ≤ 1000) (hk : k < l.length) (hf : fndI l x = k) (hfit : o + n ≤ l[k].bs.length) (h1n : 1 ≤ n)
    (hD : DoesR j x o n xs m a s) (hxs : xs = (l[k].bs.drop o).take n) (w : World) (h : LawK w0 κ μ w b m mo nc t a s l) :
    Calls Tryz.prog 20 #[.pointer (some ⟨b, 0, none⟩), .int .i64 j, .int .i64 x, .int .i64 o, .int .i64 n] w fun e w' => e = .returned (.bool true) ∧ LawK w0 κ μ w' b m mo nc t a s l := by
  have HM := Aside0.mk (hD κ w h.glob h.mach)
  have HL := Aside0.mk h
  have x0 := h.x0
  have HF := Aside0.mk hf
  have hlen := h.mod.len
  have HXS := Aside0.mk hxs
  clear h hD hf hxs
  go_enter Tryz.func20, Tryz.ntmps20
  go_upto_region 2 with (go_at_call 24; (with_reducible refine HM.out.mono ?_); rintro e_ w1 ⟨A1, c1, rfl, q1, q2⟩; have HL1 := Aside0.mk (HL.out.below q2); have HRD := Aside0.mk q1; clear q1 q2)
  clear x0 HM HL
  have x1 := HL1.out.x1
  go_upto_region 7 with (go_at_call 59; (with_reducible refine (model_reach _ mo nc l j hj hj2 hnc x k o n hk HF.out hfit _ HL1.out.mod).mono ?_); rintro e_ w2 ⟨rfl, rfl⟩)
  clear x1
  obtain ⟨A, c, hB, hR⟩ := HL1.out.mod.row
  obtain ⟨g, rfl, s0, s1⟩ := obs_at hR k hk
  have x1 := HL1.out.x1
  have y1 := hB.blk.at 1 (.slice (some ⟨g, 0, none⟩) l.length c) rfl
  obtain ⟨z, hz⟩ : ∃ z, z + o = l[k].bs.length := ⟨l[k].bs.length - o, by omega⟩
  have hk0 : (0 : Int) ≤ (k : Int) := by omega
  have hkI : (k : Int) < (l.length : Int) := by omega
  have hzl := (HL1.out.mod.val l[k] (List.getElem_mem hk)).2
  have HV := Aside0.mk (And.intro hfit hz)
  rw [← hz] at s1 hfit hzl
  obtain ⟨bk, hbk⟩ : ∃ bk, l[k].blk = bk := ⟨_, rfl⟩
  rw [hbk] at s1
  obtain ⟨ax, hax⟩ : ∃ ax : Int, (l[k].addr : Int) = ax := ⟨_, rfl⟩
  rw [hax] at s0
  have HBK := Aside0.mk hbk
  clear hB hR hbk hz hax
  refine start_ (n := 17) (S := fun w' => w'.cell? ⟨b, 1, none⟩ = some (.pointer (some ⟨mo, 0, none⟩)) ∧ w'.cell? ⟨mo, 1, none⟩ = some (.slice (some ⟨g, 0, none⟩) l.length c) ∧ w'.cell? ⟨g, k * 2, none⟩ = some (.int .i64 ax) ∧ w'.cell? ⟨g, k * 2 + 1, none⟩ = some (.slice (some ⟨bk, 0, none⟩) (z + o) (z + o))) (ds := [16]) #[false, false, false, false, false, false, false, false, false, false, false, false, false, false, false, false, false] (by kernel_rfl) rfl rfl ⟨x1, y1, s0, s1⟩ (fun hHeld => ?_)
  have hd_ := below_drew (RowKit.Below.refl w2.heap.size w2)
  have n0_ := Aside0.mk (HL1.out.below hd_)
  have n1_ := Aside0.mk (HRD.out.below hd_)
  clear HL1 HRD x1 y1 s0 s1
  generalize w2.drew = wd at *
  clear hd_
  have HL := n0_
  have HRD := n1_
  clear n0_ n1_
  refine pure_ (i := 0) (N := some 55) (v := ?_) (a' := ?_) #[true, false, false, false, false, false, false, false, false, false, false, false, false, false, false, false, false] rfl rfl (by kernel_rfl) (fun _ _ _ h => h) (Or.inl ⟨by rfl, ?_⟩) ?_ ?_
  rotate_left
  · intro w'
    go_simp
    with_reducible rfl
  rotate_left
  · simp only [Act.put, List.setIfInBounds_toArray, List.set_cons_zero, List.set_cons_succ, i64_w, i32_w]
    rfl
  refine pure_ (i := 1) (N := some 56) (v := ?_) (a' := ?_) #[true, true, false, false, false, false, false, false, false, false, false, false, false, false, false, false, false] rfl rfl (by kernel_rfl) (fun _ _ _ h => h) (Or.inl ⟨by rfl, ?_⟩) ?_ ?_
  rotate_left
  · intro w'
    go_simp
    with_reducible rfl
  rotate_left
  · simp only [Act.put, List.setIfInBounds_toArray, List.set_cons_zero, List.set_cons_succ, i64_w, i32_w]
    rfl
  refine pure_ (i := 2) (N := some 57) (v := ?_) (a' := ?_) #[true, true, true, false, false, false, false, false, false, false, false, false, false, false, false, false, false] rfl rfl (by kernel_rfl) (fun _ _ _ h => h) (Or.inl ⟨by rfl, ?_⟩) ?_ ?_
  rotate_left
  · intro w'
    go_simp
    with_reducible rfl
  rotate_left
  · simp only [Act.put, List.setIfInBounds_toArray, List.set_cons_zero, List.set_cons_succ, i64_w, i32_w]
    rfl
  refine pure_ (i := 7) (N := some 62) (v := ?_) (a' := ?_) #[true, true, true, false, false, false, false, true, false, false, false, false, false, false, false, false, false] rfl rfl (by kernel_rfl) (fun _ _ _ h => h) (Or.inl ⟨by rfl, ?_⟩) ?_ ?_
  rotate_left
  · intro w'
    go_simp
    with_reducible rfl
  rotate_left
  · simp only [Act.put, List.setIfInBounds_toArray, List.set_cons_zero, List.set_cons_succ, i64_w, i32_w]
    rfl
  refine pure_ (i := 8) (N := some 63) (v := ?_) (a' := ?_) #[true, true, true, false, false, false, false, true, true, false, false, false, false, false, false, false, false] rfl rfl (by kernel_rfl) (fun _ _ _ h => h) (Or.inl ⟨by rfl, ?_⟩) ?_ ?_
  rotate_left
  · intro w'
    go_simp
    with_reducible rfl
  rotate_left
  · simp only [Act.put, List.setIfInBounds_toArray, List.set_cons_zero, List.set_cons_succ, i64_w, i32_w]
    rfl
  refine pure_ (i := 9) (N := some 64) (v := ?_) (a' := ?_) #[true, true, true, false, false, false, false, true, true, true, false, false, false, false, false, false, false] rfl rfl (by kernel_rfl) (fun _ _ _ h => h) (Or.inl ⟨by rfl, ?_⟩) ?_ ?_
  rotate_left
  · intro w'
    go_simp
    with_reducible rfl
  rotate_left
  · simp only [Act.put, List.setIfInBounds_toArray, List.set_cons_zero, List.set_cons_succ, i64_w, i32_w]
    rfl
  refine pure_ (i := 11) (N := some 66) (v := ?_) (a' := ?_) #[true, true, true, false, false, false, false, true, true, true, false, true, false, false, false, false, false] rfl rfl (by kernel_rfl) (fun _ _ _ h => h) (Or.inl ⟨by rfl, ?_⟩) ?_ ?_
  rotate_left
  · intro w'
    go_simp
    with_reducible rfl
  rotate_left
  · simp only [Act.put, List.setIfInBounds_toArray, List.set_cons_zero, List.set_cons_succ, i64_w, i32_w]
    rfl
  refine take_ (i := 3) (N := some 58) (v := ?_) (a' := ?_) #[true, true, true, true, false, false, false, true, true, true, false, true, false, false, false, false, false] rfl rfl (by kernel_rfl) (fun _ _ _ h => h) (Or.inl ⟨by rfl, ?_⟩) hHeld ?_ ?_
  rotate_left
  · rintro w' ⟨s0, s1, s2, s3⟩
    go_simp
    with_reducible rfl
  rotate_left
  · simp only [Act.put, List.setIfInBounds_toArray, List.set_cons_zero, List.set_cons_succ, i64_w, i32_w]
    rfl
  refine pure_ (i := 4) (N := some 59) (v := ?_) (a' := ?_) #[true, true, true, true, true, false, false, true, true, true, false, true, false, false, false, false, false] rfl rfl (by kernel_rfl) (fun _ _ _ h => h) (Or.inl ⟨by rfl, ?_⟩) ?_ ?_
  rotate_left
  · intro w'
    go_simp
    with_reducible rfl
  rotate_left
  · simp only [Act.put, List.setIfInBounds_toArray, List.set_cons_zero, List.set_cons_succ, i64_w, i32_w]
    rfl
  refine pure_ (i := 5) (N := some 60) (v := ?_) (a' := ?_) #[true, true, true, true, true, true, false, true, true, true, false, true, false, false, false, false, false] rfl rfl (by kernel_rfl) (fun _ _ _ h => h) (Or.inl ⟨by rfl, ?_⟩) ?_ ?_
  rotate_left
  · intro w'
    go_simp
    with_reducible rfl
  rotate_left
  · simp only [Act.put, List.setIfInBounds_toArray, List.set_cons_zero, List.set_cons_succ, i64_w, i32_w]
    rfl
  refine take_ (i := 6) (N := some 61) (v := ?_) (a' := ?_) #[true, true, true, true, true, true, true, true, true, true, false, true, false, false, false, false, false] rfl rfl (by kernel_rfl) (fun _ _ _ h => h) (Or.inl ⟨by rfl, ?_⟩) hHeld ?_ ?_
  rotate_left
  · rintro w' ⟨s0, s1, s2, s3⟩
    go_simp
    with_reducible rfl
  rotate_left
  · simp only [Act.put, List.setIfInBounds_toArray, List.set_cons_zero, List.set_cons_succ, i64_w, i32_w]
    rfl
  refine take_ (i := 10) (N := some 65) (v := ?_) (a' := ?_) #[true, true, true, true, true, true, true, true, true, true, true, true, false, false, false, false, false] rfl rfl (by kernel_rfl) (fun _ _ _ h => h) (Or.inl ⟨by rfl, ?_⟩) hHeld ?_ ?_
  rotate_left
  · rintro w' ⟨s0, s1, s2, s3⟩
    go_simp
    with_reducible rfl
  rotate_left
  · simp only [Act.put, List.setIfInBounds_toArray, List.set_cons_zero, List.set_cons_succ, i64_w, i32_w]
    rfl
  refine join_ (σ := Unit) 1 #[true, true, true, true, true, true, true, true, true, true, true, true, true, true, true, true, false] (fun sg_ => [(67, .int .i64 k), (14, .pointer (some ⟨wd.heap.size, 0, none⟩)), (68, .pointer (some ⟨g, k * 2, none⟩)), (69, .agg #[.int .i64 ax, .slice (some ⟨bk, 0, none⟩) (z + o) (z + o)])]) (fun sg_ w_ => w_ = wd.alloc (.cells #[.int .i64 0, .slice none 0 0] 45) ∧ w_.cell? ⟨b, 1, none⟩ = some (.pointer (some ⟨mo, 0, none⟩)) ∧ w_.cell? ⟨mo, 1, none⟩ = some (.slice (some ⟨g, 0, none⟩) l.length c) ∧ w_.cell? ⟨g, k * 2, none⟩ = some (.int .i64 ax) ∧ w_.cell? ⟨g, k * 2 + 1, none⟩ = some (.slice (some ⟨bk, 0, none⟩) (z + o) (z + o))) ?_ ?_
  rotate_left
  · intro hCont
    refine two_ (i := 12) (j := 15) (Ni := some 67) (Nj := some 14) #[true, true, true, true, true, true, true, true, true, true, true, true, true, false, false, false, false] #[true, true, true, true, true, true, true, true, true, true, true, true, false, false, false, true, false] rfl rfl rfl rfl (by kernel_rfl) (by decide) (by decide) (fun K hK => ?_) (fun K hK => ?_)
    · skip
      have HFN := Aside0.mk (model_find _ mo nc l x _ HL.out.mod)
      rw [HF.out] at HFN
      refine goes_ Tryz.func60 (by kernel_rfl) rfl #[.pointer (some ⟨mo, 0, none⟩), .int .i64 x] (by rfl) rfl rfl (by simp only [List.map_toArray, List.map_cons, List.map_nil]; rfl) ?_
      with_reducible refine (HFN.out).mono ?_
      rintro e_ w5 ⟨rfl, hw5⟩
      refine ⟨_, rfl, ?_⟩
      subst hw5
      clear HFN
      refine hK.out _ _ ⟨hHeld.1, hHeld.2.1, hHeld.2.2.1, hHeld.2.2.2⟩ (fun hHeld => ?_)
      clear hK K
      refine norm_ (a' := ?_) ?_ ?_
      rotate_left
      · show Act.put _ (some 67) _ = _
        simp only [Act.put, List.setIfInBounds_toArray, List.set_cons_zero, List.set_cons_succ, i64_w, i32_w]
        rfl
      refine pure_ (i := 13) (N := some 68) (v := ?_) (a' := ?_) #[true, true, true, true, true, true, true, true, true, true, true, true, true, true, false, false, false] rfl rfl (by kernel_rfl) (fun _ _ _ h => h) (Or.inl ⟨by rfl, ?_⟩) ?_ ?_
      rotate_left
      · intro w'
        go_simp
        with_reducible rfl
      rotate_left
      · simp only [Act.put, List.setIfInBounds_toArray, List.set_cons_zero, List.set_cons_succ, i64_w, i32_w]
        rfl
      refine take_ (i := 14) (N := some 69) (v := ?_) (a' := ?_) #[true, true, true, true, true, true, true, true, true, true, true, true, true, true, true, false, false] rfl rfl (by kernel_rfl) (fun _ _ _ h => h) (Or.inl ⟨by rfl, ?_⟩) hHeld ?_ ?_
      rotate_left
      · rintro w' ⟨s0, s1, s2, s3⟩
        go_simp
        with_reducible rfl
      rotate_left
      · simp only [Act.put, List.setIfInBounds_toArray, List.set_cons_zero, List.set_cons_succ, i64_w, i32_w]
        rfl
      refine one_ (i := 15) (N := some 14) #[true, true, true, true, true, true, true, true, true, true, true, true, true, true, true, true, false] rfl rfl (by kernel_rfl) (by decide) (fun K hK => ?_)
      refine value_ (w1 := ?_) (v := ?_) (by rfl) rfl ?_ ?_
      rotate_left 2
      · go_simp
        constructor
        · rfl
        · rfl
      refine hK.out _ _ ⟨(cell_keep (.cells #[.int .i64 0, .slice none 0 0] 45) hHeld.1), (cell_keep (.cells #[.int .i64 0, .slice none 0 0] 45) hHeld.2.1), (cell_keep (.cells #[.int .i64 0, .slice none 0 0] 45) hHeld.2.2.1), (cell_keep (.cells #[.int .i64 0, .slice none 0 0] 45) hHeld.2.2.2)⟩ (fun hHeld => ?_)
      clear hK K
      refine norm_ (a' := ?_) ?_ ?_
      rotate_left
      · show Act.put _ (some 14) _ = _
        simp only [Act.put, List.setIfInBounds_toArray, List.set_cons_zero, List.set_cons_succ, i64_w, i32_w]
        rfl
      exact norm_ (by simp only [putAll, Act.put, List.setIfInBounds_toArray, List.set_cons_zero, List.set_cons_succ]) (hCont () _ ⟨rfl, hHeld⟩)
    · skip
      refine value_ (w1 := ?_) (v := ?_) (by rfl) rfl ?_ ?_
      rotate_left 2
      · go_simp
        constructor
        · rfl
        · rfl
      refine hK.out _ _ ⟨(cell_keep (.cells #[.int .i64 0, .slice none 0 0] 45) hHeld.1), (cell_keep (.cells #[.int .i64 0, .slice none 0 0] 45) hHeld.2.1), (cell_keep (.cells #[.int .i64 0, .slice none 0 0] 45) hHeld.2.2.1), (cell_keep (.cells #[.int .i64 0, .slice none 0 0] 45) hHeld.2.2.2)⟩ (fun hHeld => ?_)
      clear hK K
      refine norm_ (a' := ?_) ?_ ?_
      rotate_left
      · show Act.put _ (some 14) _ = _
        simp only [Act.put, List.setIfInBounds_toArray, List.set_cons_zero, List.set_cons_succ, i64_w, i32_w]
        rfl
      refine one_ (i := 12) (N := some 67) #[true, true, true, true, true, true, true, true, true, true, true, true, true, false, false, true, false] rfl rfl (by kernel_rfl) (by decide) (fun K hK => ?_)
      have HFN := Aside0.mk (model_find _ mo nc l x _ (HL.out.below (below_alloc (RowKit.Below.refl _ _) (.cells #[.int .i64 0, .slice none 0 0] 45))).mod)
      rw [HF.out] at HFN
      refine goes_ Tryz.func60 (by kernel_rfl) rfl #[.pointer (some ⟨mo, 0, none⟩), .int .i64 x] (by rfl) rfl rfl (by simp only [List.map_toArray, List.map_cons, List.map_nil]; rfl) ?_
      with_reducible refine (HFN.out).mono ?_
      rintro e_ w5 ⟨rfl, hw5⟩
      refine ⟨_, rfl, ?_⟩
      subst hw5
      clear HFN
      refine hK.out _ _ ⟨hHeld.1, hHeld.2.1, hHeld.2.2.1, hHeld.2.2.2⟩ (fun hHeld => ?_)
      clear hK K
      refine norm_ (a' := ?_) ?_ ?_
      rotate_left
      · show Act.put _ (some 67) _ = _
        simp only [Act.put, List.setIfInBounds_toArray, List.set_cons_zero, List.set_cons_succ, i64_w, i32_w]
        rfl
      refine pure_ (i := 13) (N := some 68) (v := ?_) (a' := ?_) #[true, true, true, true, true, true, true, true, true, true, true, true, true, true, false, true, false] rfl rfl (by kernel_rfl) (fun _ _ _ h => h) (Or.inl ⟨by rfl, ?_⟩) ?_ ?_
      rotate_left
      · intro w'
        go_simp
        with_reducible rfl
      rotate_left
      · simp only [Act.put, List.setIfInBounds_toArray, List.set_cons_zero, List.set_cons_succ, i64_w, i32_w]
        rfl
      refine take_ (i := 14) (N := some 69) (v := ?_) (a' := ?_) #[true, true, true, true, true, true, true, true, true, true, true, true, true, true, true, true, false] rfl rfl (by kernel_rfl) (fun _ _ _ h => h) (Or.inl ⟨by rfl, ?_⟩) hHeld ?_ ?_
      rotate_left
      · rintro w' ⟨s0, s1, s2, s3⟩
        go_simp
        with_reducible rfl
      rotate_left
      · simp only [Act.put, List.setIfInBounds_toArray, List.set_cons_zero, List.set_cons_succ, i64_w, i32_w]
        rfl
      exact norm_ (by simp only [putAll, Act.put, List.setIfInBounds_toArray, List.set_cons_zero, List.set_cons_succ]) (hCont () _ ⟨rfl, hHeld⟩)
  rintro ⟨⟩ wj ⟨rfl, hHeld⟩
  refine norm_ (a' := ?_) ?_ ?_
  rotate_left
  · simp only [putAll, Act.put, List.setIfInBounds_toArray, List.set_cons_zero, List.set_cons_succ]
    rfl
  refine last_ (i := 16) (N := none) #[true, true, true, true, true, true, true, true, true, true, true, true, true, true, true, true, true] rfl rfl (by kernel_rfl) (by decide) (fun K hK => ?_)
  have f0_ := (Blk.new wd #[.int .i64 0, .slice none 0 0] 45).fz 0
  have f1_ := (Blk.new wd #[.int .i64 0, .slice none 0 0] 45).fz 1
  refine skip_ (w1 := ?_) (by rfl) rfl ?_ ?_
  rotate_left
  · go_simp
    rfl
  refine hK.out _ _ ?_
  clear hK K
  refine done_ (by kernel_rfl) ?_
  go_upto_region 8 with fail
  obtain ⟨W, hW⟩ : ∃ W, wd.alloc (.cells #[.int .i64 ax, .slice (some ⟨bk, 0, none⟩) (z + o) (z + o)] 45) = W := ⟨_, rfl⟩
  have hbw : RowKit.Below wd.heap.size wd W := by rw [← hW]; exact below_alloc (RowKit.Below.refl _ _) _
  have HT := Aside0.mk (show Blk W wd.heap.size #[.int .i64 ax, .slice (some ⟨bk, 0, none⟩) (z + o) (z + o)] 45 from by rw [← hW]; exact Blk.new wd _ _)
  have HL3 := Aside0.mk (HL.out.below hbw)
  have HR3 := Aside0.mk (HRD.out.below hbw)
  have HO3 := Aside0.mk (show RdB W (some ⟨bk, o, none⟩) n xs from by
    have h9 := rd_obs (n := n) (o := o) (HL3.out.mod.bl l[k] (List.getElem_mem hk)) HV.out.1 (HL3.out.mod.val l[k] (List.getElem_mem hk)).2
    rw [HBK.out, ← HXS.out] at h9
    exact h9)
  rw [hW]
  obtain ⟨tb, htb⟩ : ∃ tb, wd.heap.size = tb := ⟨_, rfl⟩
  rw [htb] at HT ⊢
  clear hW hbw HL HRD htb hHeld
  obtain ⟨q, hq⟩ : ∃ q, strOfNums (xs.map fun (x : Nat) => (x : Int)) = q := ⟨_, rfl⟩
  have hcv1 : ∀ V, RdB V A1 n xs → (convert 23 9 (.slice A1 n c1)).run Tryz.prog V = .ok (.string q) V := fun V h => by rw [← hq]; exact conv_rd V A1 n c1 xs h
  have hcv2 : ∀ V, RdB V (some ⟨bk, o, none⟩) n xs → (convert 23 9 (.slice (some ⟨bk, o, none⟩) n z)).run Tryz.prog V = .ok (.string q) V := fun V h => by rw [← hq]; exact conv_rd V _ n z xs h
  have t1 := HT.out.at 1 (.slice (some ⟨bk, 0, none⟩) (z + o) (z + o)) rfl
  have r1 := HR3.out
  have r2 := HO3.out
  clear hq
  have hz0 : ¬ z = 0 := by omega
  have ho0 : (0 : Int) ≤ (o : Int) := by omega
  obtain ⟨e, he⟩ : ∃ e, o + n = e := ⟨_, rfl⟩
  have he0 : (0 : Int) ≤ (e : Int) := by omega
  have hez : (e : Int) ≤ (z : Int) + (o : Int) := by omega
  have hoe : o ≤ e := by omega
  have heo : e - o = n := by omega
  have hwe : wrap64 ((o : Int) + (n : Int)) = (e : Int) := by rw [IntWalk.wrap64_in _ ⟨by omega, by omega⟩]; omega
  clear he
  refine start_ (n := 12) (S := fun w' => w'.cell? ⟨tb, 1, none⟩ = some (.slice (some ⟨bk, 0, none⟩) (z + o) (z + o)) ∧ RdB w' A1 n xs ∧ RdB w' (some ⟨bk, o, none⟩) n xs) (ds := []) #[false, false, false, false, false, false, false, false, false, false, false, false] (by kernel_rfl) rfl rfl ⟨t1, r1.below (below_drew (RowKit.Below.refl _ _)), r2.below (below_drew (RowKit.Below.refl _ _))⟩ (fun hHeld => ?_)
  have hd_ := below_drew (RowKit.Below.refl W.heap.size W)
  have HL4 := Aside0.mk (HL3.out.below hd_)
  clear HL3 HR3 HO3 HT t1 r1 r2
  generalize W.drew = we at *
  clear hd_
  refine pure_ (i := 0) (N := some 70) (v := ?_) (a' := ?_) #[true, false, false, false, false, false, false, false, false, false, false, false] rfl rfl (by kernel_rfl) (fun _ _ _ h => h) (Or.inl ⟨by rfl, ?_⟩) ?_ ?_
  rotate_left
  · intro w'
    go_simp
    with_reducible rfl
  rotate_left
  · simp only [Act.put, List.setIfInBounds_toArray, List.set_cons_zero, List.set_cons_succ, i64_w, i32_w]
    rfl
  refine pure_ (i := 2) (N := some 72) (v := ?_) (a' := ?_) #[true, false, true, false, false, false, false, false, false, false, false, false] rfl rfl (by kernel_rfl) (fun _ _ _ h => h) (Or.inl ⟨by rfl, ?_⟩) ?_ ?_
  rotate_left
  · intro w'
    go_simp
    with_reducible rfl
  rotate_left
  · simp only [Act.put, List.setIfInBounds_toArray, List.set_cons_zero, List.set_cons_succ, i64_w, i32_w]
    rfl
  refine pure_ (i := 4) (N := some 74) (v := ?_) (a' := ?_) #[true, false, true, false, true, false, false, false, false, false, false, false] rfl rfl (by kernel_rfl) (fun _ _ _ h => h) (Or.inl ⟨by rfl, ?_⟩) ?_ ?_
  rotate_left
  · intro w'
    go_simp
    with_reducible rfl
  rotate_left
  · simp only [Act.put, List.setIfInBounds_toArray, List.set_cons_zero, List.set_cons_succ, i64_w, i32_w]
    rfl
  refine pure_ (i := 5) (N := some 75) (v := ?_) (a' := ?_) #[true, false, true, false, true, true, false, false, false, false, false, false] rfl rfl (by kernel_rfl) (fun _ _ _ h => h) (Or.inl ⟨by rfl, ?_⟩) ?_ ?_
  rotate_left
  · intro w'
    go_simp
    with_reducible rfl
  rotate_left
  · simp only [Act.put, List.setIfInBounds_toArray, List.set_cons_zero, List.set_cons_succ, i64_w, i32_w]
    rfl
  refine pure_ (i := 6) (N := some 76) (v := ?_) (a' := ?_) #[true, false, true, false, true, true, true, false, false, false, false, false] rfl rfl (by kernel_rfl) (fun _ _ _ h => h) (Or.inl ⟨by rfl, ?_⟩) ?_ ?_
  rotate_left
  · intro w'
    go_simp
    with_reducible rfl
  rotate_left
  · simp only [Act.put, List.setIfInBounds_toArray, List.set_cons_zero, List.set_cons_succ, i64_w, i32_w]
    rfl
  refine pure_ (i := 7) (N := some 77) (v := ?_) (a' := ?_) #[true, false, true, false, true, true, true, true, false, false, false, false] rfl rfl (by kernel_rfl) (fun _ _ _ h => h) (Or.inl ⟨by rfl, ?_⟩) ?_ ?_
  rotate_left
  · intro w'
    go_simp
    with_reducible rfl
  rotate_left
  · simp only [Act.put, List.setIfInBounds_toArray, List.set_cons_zero, List.set_cons_succ, i64_w, i32_w]
    rfl
  refine take_ (i := 1) (N := some 71) (v := ?_) (a' := ?_) #[true, true, true, false, true, true, true, true, false, false, false, false] rfl rfl (by kernel_rfl) (fun _ _ _ h => h) (Or.inl ⟨by rfl, ?_⟩) hHeld ?_ ?_
  rotate_left
  · rintro w' ⟨s0, s1, s2⟩
    go_simp
    with_reducible rfl
  rotate_left
  · simp only [Act.put, List.setIfInBounds_toArray, List.set_cons_zero, List.set_cons_succ, i64_w, i32_w]
    rfl
  refine take_ (i := 3) (N := some 73) (v := ?_) (a' := ?_) #[true, true, true, true, true, true, true, true, false, false, false, false] rfl rfl (by kernel_rfl) (fun _ _ _ h => h) (Or.inl ⟨by rfl, ?_⟩) hHeld ?_ ?_
  rotate_left
  · rintro w' ⟨s0, s1, s2⟩
    go_simp
    with_reducible rfl
  rotate_left
  · simp only [Act.put, List.setIfInBounds_toArray, List.set_cons_zero, List.set_cons_succ, i64_w, i32_w]
    rfl
  refine pure_ (i := 8) (N := some 78) (v := ?_) (a' := ?_) #[true, true, true, true, true, true, true, true, true, false, false, false] rfl rfl (by kernel_rfl) (fun _ _ _ h => h) (Or.inl ⟨by rfl, ?_⟩) ?_ ?_
  rotate_left
  · intro w'
    go_simp
    with_reducible rfl
  rotate_left
  · simp only [Act.put, List.setIfInBounds_toArray, List.set_cons_zero, List.set_cons_succ, i64_w, i32_w]
    rfl
  refine take_ (i := 9) (N := some 79) (v := ?_) (a' := ?_) #[true, true, true, true, true, true, true, true, true, true, false, false] rfl rfl (by kernel_rfl) (fun _ _ _ h => h) (Or.inl ⟨by rfl, ?_⟩) hHeld ?_ ?_
  rotate_left
  · rintro w' ⟨s0, s1, s2⟩
    go_simp
    with_reducible rfl
  rotate_left
  · simp only [Act.put, List.setIfInBounds_toArray, List.set_cons_zero, List.set_cons_succ, i64_w, i32_w]
    rfl
  refine pure_ (i := 10) (N := some 80) (v := ?_) (a' := ?_) #[true, true, true, true, true, true, true, true, true, true, true, false] rfl rfl (by kernel_rfl) (fun _ _ _ h => h) (Or.inl ⟨by rfl, ?_⟩) ?_ ?_
  rotate_left
  · intro w'
    go_simp
    with_reducible rfl
  rotate_left
  · simp only [Act.put, List.setIfInBounds_toArray, List.set_cons_zero, List.set_cons_succ, i64_w, i32_w]
    rfl
  refine pure_ (i := 11) (N := some 10) (v := ?_) (a' := ?_) #[true, true, true, true, true, true, true, true, true, true, true, true] rfl rfl (by kernel_rfl) (fun _ _ _ h => h) (Or.inl ⟨by rfl, ?_⟩) ?_ ?_
  rotate_left
  · intro w'
    go_simp
    with_reducible rfl
  rotate_left
  · simp only [Act.put, List.setIfInBounds_toArray, List.set_cons_zero, List.set_cons_succ, i64_w, i32_w]
    rfl
  refine done_ (by kernel_rfl) ?_
  go_wp2_with fail
  go_ret
  exact ⟨rfl, HL4.out⟩
end Go.Proofs.YtenkdmloolbdaaaGreatDoor.T
end
