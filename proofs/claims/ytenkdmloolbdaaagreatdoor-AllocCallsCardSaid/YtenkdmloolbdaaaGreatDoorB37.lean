/- A law's world: read. A law's world: begin. What the machine does when it is new: the first small object. One small object of a machine: made, written, read, freed, made again. -/
import Derived.Test.YtenkdmloolbdaaaGreatDoorB36
import Derived.Test.YtenkdmloolbdaaaGreatDoorB05
import Derived.Test.YtenkdmloolbdaaaGreatDoorB24
section
namespace Go.Proofs.YtenkdmloolbdaaaGreatDoor.T
open Go.RowKit Go.Maps Go.WideShapes Go.Proofs.YtenkdmloolbdaaaGreatDoorW.PrintWords Go.Proofs.YtenkdmloolbdaaaGreatDoorW.PrintLast Go.Proofs.YtenkdmloolbdaaaGreatDoorW.PrintMore
set_option linter.unusedVariables false
set_option linter.unusedSimpArgs false
theorem cell_keep {w : World} {p : Addr} {v : Value} (o : Obj) (h : w.cell? p = some v) : (w.alloc o).cell? p = some v := (World.cell?_alloc_lt w o p (World.block_lt_of_cell? w p h)).trans h
set_option maxHeartbeats 4000000 in
set_option maxRecDepth 100000 in
theorem law_read (w0 : World) (κ μ : Kol) (b m mo nc : Nat) (t : Top) (a : Ad) (s : St) (l : List Ob) (j : Int) (x k o n : Nat) (xs : List Nat) (hj : 0 ≤ j) (hj2 : j < nc) (hnc : nc ≤ 1000) (hk : k < l.length) (hf : fndI l x = k) (hfit : o + n ≤ l[k].bs.length) (h1n : 1 ≤ n)
    (hD : DoesR j x o n xs m a s) (hxs : xs = (l[k].bs.drop o).take n) (w : World) (h : LawK w0 κ μ w b m mo nc t a s l) :
    Calls Tryz.prog 20 #[.pointer (some ⟨b, 0, none⟩), .int .i64 j, .int .i64 x, .int .i64 o, .int .i64 n] w fun e w' => e = .returned (.bool true) ∧ LawK w0 κ μ w' b m mo nc t a s l := by
  have HM := Aside0.mk (hD κ w h.glob h.mach)
  have HL := Aside0.mk h
  have x0 := h.x0
  have HF := Aside0.mk hf
  have hlen := h.mod.len
  have HXS := Aside0.mk hxs
  clear h hD hf hxs
  go_enter Tryz.func20, Tryz.ntmps20
  go_upto_region 2 with (go_at_call 24; (with_reducible refine HM.out.mono ?_); rintro e_ w1 ⟨A1, c1, rfl, q1, q2⟩; have HL1 := Aside0.mk (HL.out.below q2); have HRD := Aside0.mk q1; clear q1 q2)
  clear x0 HM HL
  have x1 := HL1.out.x1
  go_upto_region 7 with (go_at_call 59; (with_reducible refine (model_reach _ mo nc l j hj hj2 hnc x k o n hk HF.out hfit _ HL1.out.mod).mono ?_); rintro e_ w2 ⟨rfl, rfl⟩)
  clear x1
  obtain ⟨A, c, hB, hR⟩ := HL1.out.mod.row
  obtain ⟨g, rfl, s0, s1⟩ := obs_at hR k hk
  have x1 := HL1.out.x1
  have y1 := hB.blk.at 1 (.slice (some ⟨g, 0, none⟩) l.length c) rfl
  obtain ⟨z, hz⟩ : ∃ z, z + o = l[k].bs.length := ⟨l[k].bs.length - o, by omega⟩
  have hk0 : (0 : Int) ≤ (k : Int) := by omega
  have hkI : (k : Int) < (l.length : Int) := by omega
  have hzl := (HL1.out.mod.val l[k] (List.getElem_mem hk)).2
  have HV := Aside0.mk (And.intro hfit hz)
  rw [← hz] at s1 hfit hzl
  obtain ⟨bk, hbk⟩ : ∃ bk, l[k].blk = bk := ⟨_, rfl⟩
  rw [hbk] at s1
  obtain ⟨ax, hax⟩ : ∃ ax : Int, (l[k].addr : Int) = ax := ⟨_, rfl⟩
  rw [hax] at s0
  have HBK := Aside0.mk hbk
  clear hB hR hbk hz hax
  refine st_ 17 (fun w' => w'.cell? ⟨b, 1, none⟩ = some (.pointer (some ⟨mo, 0, none⟩)) ∧ w'.cell? ⟨mo, 1, none⟩ = some (.slice (some ⟨g, 0, none⟩) l.length c) ∧ w'.cell? ⟨g, k * 2, none⟩ = some (.int .i64 ax) ∧ w'.cell? ⟨g, k * 2 + 1, none⟩ = some (.slice (some ⟨bk, 0, none⟩) (z + o) (z + o))) [16] ⟨x1, y1, s0, s1⟩ (fun hHeld => ?_)
  have hd_ := below_drew (RowKit.Below.refl w2.heap.size w2)
  have n0_ := Aside0.mk (HL1.out.below hd_)
  have n1_ := Aside0.mk (HRD.out.below hd_)
  clear HL1 HRD x1 y1 s0 s1
  generalize w2.drew = wd at *
  clear hd_
  have HL := n0_
  have HRD := n1_
  clear n0_ n1_
  refine pu_ 0 55 1 ?_
  refine pu_ 1 56 3 ?_
  refine pu_ 2 57 7 ?_
  refine pu_ 7 62 135 ?_
  refine pu_ 8 63 391 ?_
  refine pu_ 9 64 903 ?_
  refine pu_ 11 66 2951 ?_
  refine ta_ 3 58 2959 hHeld ?_
  refine pu_ 4 59 2975 ?_
  refine pu_ 5 60 3007 ?_
  refine ta_ 6 61 3071 hHeld ?_
  refine ta_ 10 65 4095 hHeld ?_
  refine join_ (σ := Unit) 1 (bz 17 65535) (fun sg_ => [(67, .int .i64 k), (14, .pointer (some ⟨wd.heap.size, 0, none⟩)), (68, .pointer (some ⟨g, k * 2, none⟩)), (69, .agg #[.int .i64 ax, .slice (some ⟨bk, 0, none⟩) (z + o) (z + o)])]) (fun sg_ w_ => w_ = wd.alloc (.cells #[.int .i64 0, .slice none 0 0] 45) ∧ w_.cell? ⟨b, 1, none⟩ = some (.pointer (some ⟨mo, 0, none⟩)) ∧ w_.cell? ⟨mo, 1, none⟩ = some (.slice (some ⟨g, 0, none⟩) l.length c) ∧ w_.cell? ⟨g, k * 2, none⟩ = some (.int .i64 ax) ∧ w_.cell? ⟨g, k * 2 + 1, none⟩ = some (.slice (some ⟨bk, 0, none⟩) (z + o) (z + o))) ?_ ?_
  rotate_left
  · intro hCont
    refine two_ (i := 12) (j := 15) (Ni := some 67) (Nj := some 14) (bz 17 8191) (bz 17 36863) rfl rfl rfl rfl (by kernel_rfl) (by decide) (by decide) (fun K hK => ?_) (fun K hK => ?_)
    · skip
      have HFN := Aside0.mk (model_find _ mo nc l x _ HL.out.mod)
      rw [HF.out] at HFN
      refine goes_ Tryz.func60 (by kernel_rfl) rfl #[.pointer (some ⟨mo, 0, none⟩), .int .i64 x] (by rfl) rfl rfl (by simp only [List.map_toArray, List.map_cons, List.map_nil]; rfl) ?_
      with_reducible refine (HFN.out).mono ?_
      rintro e_ w5 ⟨rfl, hw5⟩
      refine ⟨_, rfl, ?_⟩
      subst hw5
      clear HFN
      refine hK.out _ _ ⟨hHeld.1, hHeld.2.1, hHeld.2.2.1, hHeld.2.2.2⟩ (fun hHeld => ?_)
      clear hK K
      refine no_ 67 ?_
      refine pu_ 13 68 16383 ?_
      refine ta_ 14 69 32767 hHeld ?_
      refine one_ (i := 15) (N := some 14) (bz 17 65535) rfl rfl (by kernel_rfl) (by decide) (fun K hK => ?_)
      refine va_ ?_
      refine hK.out _ _ ⟨(cell_keep (.cells #[.int .i64 0, .slice none 0 0] 45) hHeld.1), (cell_keep (.cells #[.int .i64 0, .slice none 0 0] 45) hHeld.2.1), (cell_keep (.cells #[.int .i64 0, .slice none 0 0] 45) hHeld.2.2.1), (cell_keep (.cells #[.int .i64 0, .slice none 0 0] 45) hHeld.2.2.2)⟩ (fun hHeld => ?_)
      clear hK K
      refine no_ 14 ?_
      exact norm_ (by simp only [putAll, Act.put, List.setIfInBounds_toArray, List.set_cons_zero, List.set_cons_succ]) (hCont () _ ⟨rfl, hHeld⟩)
    · skip
      refine va_ ?_
      refine hK.out _ _ ⟨(cell_keep (.cells #[.int .i64 0, .slice none 0 0] 45) hHeld.1), (cell_keep (.cells #[.int .i64 0, .slice none 0 0] 45) hHeld.2.1), (cell_keep (.cells #[.int .i64 0, .slice none 0 0] 45) hHeld.2.2.1), (cell_keep (.cells #[.int .i64 0, .slice none 0 0] 45) hHeld.2.2.2)⟩ (fun hHeld => ?_)
      clear hK K
      refine no_ 14 ?_
      refine one_ (i := 12) (N := some 67) (bz 17 40959) rfl rfl (by kernel_rfl) (by decide) (fun K hK => ?_)
      have HFN := Aside0.mk (model_find _ mo nc l x _ (HL.out.below (below_alloc (RowKit.Below.refl _ _) (.cells #[.int .i64 0, .slice none 0 0] 45))).mod)
      rw [HF.out] at HFN
      refine goes_ Tryz.func60 (by kernel_rfl) rfl #[.pointer (some ⟨mo, 0, none⟩), .int .i64 x] (by rfl) rfl rfl (by simp only [List.map_toArray, List.map_cons, List.map_nil]; rfl) ?_
      with_reducible refine (HFN.out).mono ?_
      rintro e_ w5 ⟨rfl, hw5⟩
      refine ⟨_, rfl, ?_⟩
      subst hw5
      clear HFN
      refine hK.out _ _ ⟨hHeld.1, hHeld.2.1, hHeld.2.2.1, hHeld.2.2.2⟩ (fun hHeld => ?_)
      clear hK K
      refine no_ 67 ?_
      refine pu_ 13 68 49151 ?_
      refine ta_ 14 69 65535 hHeld ?_
      exact norm_ (by simp only [putAll, Act.put, List.setIfInBounds_toArray, List.set_cons_zero, List.set_cons_succ]) (hCont () _ ⟨rfl, hHeld⟩)
  rintro ⟨⟩ wj ⟨rfl, hHeld⟩
  refine norm_ (a' := ?_) ?_ ?_
  rotate_left
  · simp only [putAll, Act.put, List.setIfInBounds_toArray, List.set_cons_zero, List.set_cons_succ]
    rfl
  refine last_ (i := 16) (N := none) (bz 17 131071) rfl rfl (by kernel_rfl) (by decide) (fun K hK => ?_)
  have f0_ := (Blk.new wd #[.int .i64 0, .slice none 0 0] 45).fz 0
  have f1_ := (Blk.new wd #[.int .i64 0, .slice none 0 0] 45).fz 1
  refine skip_ (w1 := ?_) (by rfl) rfl ?_ ?_
  rotate_left
  · go_simp
    rfl
  refine hK.out _ _ ?_
  clear hK K
  refine done_ (by kernel_rfl) ?_
  go_upto_region 8 with fail
  obtain ⟨W, hW⟩ : ∃ W, wd.alloc (.cells #[.int .i64 ax, .slice (some ⟨bk, 0, none⟩) (z + o) (z + o)] 45) = W := ⟨_, rfl⟩
  have hbw : RowKit.Below wd.heap.size wd W := by rw [← hW]; exact below_alloc (RowKit.Below.refl _ _) _
  have HT := Aside0.mk (show Blk W wd.heap.size #[.int .i64 ax, .slice (some ⟨bk, 0, none⟩) (z + o) (z + o)] 45 from by rw [← hW]; exact Blk.new wd _ _)
  have HL3 := Aside0.mk (HL.out.below hbw)
  have HR3 := Aside0.mk (HRD.out.below hbw)
  have HO3 := Aside0.mk (show RdB W (some ⟨bk, o, none⟩) n xs from by
    have h9 := rd_obs (n := n) (o := o) (HL3.out.mod.bl l[k] (List.getElem_mem hk)) HV.out.1 (HL3.out.mod.val l[k] (List.getElem_mem hk)).2
    rw [HBK.out, ← HXS.out] at h9
    exact h9)
  rw [hW]
  obtain ⟨tb, htb⟩ : ∃ tb, wd.heap.size = tb := ⟨_, rfl⟩
  rw [htb] at HT ⊢
  clear hW hbw HL HRD htb hHeld
  obtain ⟨q, hq⟩ : ∃ q, strOfNums (xs.map fun (x : Nat) => (x : Int)) = q := ⟨_, rfl⟩
  have hcv1 : ∀ V, RdB V A1 n xs → (convert 23 9 (.slice A1 n c1)).run Tryz.prog V = .ok (.string q) V := fun V h => by rw [← hq]; exact conv_rd V A1 n c1 xs h
  have hcv2 : ∀ V, RdB V (some ⟨bk, o, none⟩) n xs → (convert 23 9 (.slice (some ⟨bk, o, none⟩) n z)).run Tryz.prog V = .ok (.string q) V := fun V h => by rw [← hq]; exact conv_rd V _ n z xs h
  have t1 := HT.out.at 1 (.slice (some ⟨bk, 0, none⟩) (z + o) (z + o)) rfl
  have r1 := HR3.out
  have r2 := HO3.out
  clear hq
  have hz0 : ¬ z = 0 := by omega
  have ho0 : (0 : Int) ≤ (o : Int) := by omega
  obtain ⟨e, he⟩ : ∃ e, o + n = e := ⟨_, rfl⟩
  have he0 : (0 : Int) ≤ (e : Int) := by omega
  have hez : (e : Int) ≤ (z : Int) + (o : Int) := by omega
  have hoe : o ≤ e := by omega
  have heo : e - o = n := by omega
  have hwe : wrap64 ((o : Int) + (n : Int)) = (e : Int) := by rw [IntWalk.wrap64_in _ ⟨by omega, by omega⟩]; omega
  clear he
  refine st_ 12 (fun w' => w'.cell? ⟨tb, 1, none⟩ = some (.slice (some ⟨bk, 0, none⟩) (z + o) (z + o)) ∧ RdB w' A1 n xs ∧ RdB w' (some ⟨bk, o, none⟩) n xs) [] ⟨t1, r1.below (below_drew (RowKit.Below.refl _ _)), r2.below (below_drew (RowKit.Below.refl _ _))⟩ (fun hHeld => ?_)
  have hd_ := below_drew (RowKit.Below.refl W.heap.size W)
  have HL4 := Aside0.mk (HL3.out.below hd_)
  clear HL3 HR3 HO3 HT t1 r1 r2
  generalize W.drew = we at *
  clear hd_
  refine pu_ 0 70 1 ?_
  refine pu_ 2 72 5 ?_
  refine pu_ 4 74 21 ?_
  refine pu_ 5 75 53 ?_
  refine pu_ 6 76 117 ?_
  refine pu_ 7 77 245 ?_
  refine ta_ 1 71 247 hHeld ?_
  refine ta_ 3 73 255 hHeld ?_
  refine pu_ 8 78 511 ?_
  refine ta_ 9 79 1023 hHeld ?_
  refine pu_ 10 80 2047 ?_
  refine pu_ 11 10 4095 ?_
  refine done_ (by kernel_rfl) ?_
  go_wp2_with fail
  go_ret
  exact ⟨rfl, HL4.out⟩
end Go.Proofs.YtenkdmloolbdaaaGreatDoor.T
end
section
namespace Go.Proofs.YtenkdmloolbdaaaGreatDoor.T
open Go.RowKit Go.Maps Go.WideShapes Go.Proofs.YtenkdmloolbdaaaGreatDoorW.PrintWords Go.Proofs.YtenkdmloolbdaaaGreatDoorW.PrintLast Go.Proofs.YtenkdmloolbdaaaGreatDoorW.PrintMore
set_option linter.unusedVariables false
set_option linter.unusedSimpArgs false
def topC (n : Nat) : List Int := (List.range n).map (fun (x : Nat) => (x : Int)) ++ [0]
def topD (n : Nat) : List (List Int) := (List.range n).map fun a => (List.range n).map fun b => if a = b then 10 else ((15 + (5 * (a + b)) % 40 : Nat) : Int)
theorem top_all : ∀ n, n < 5 → ∀ f ∈ [8, 16, 32], PH.messuagelaw19_topology.f 60 ((n : Nat) : Int) ((f : Nat) : Int) = some (((n : Nat) : Int), ((f : Nat) : Int), topC n, topD n) := by
  intro n hn f hf
  have h : (List.range 5).all (fun n => [8, 16, 32].all fun f => PH.messuagelaw19_topology.f 60 ((n : Nat) : Int) ((f : Nat) : Int) == some (((n : Nat) : Int), ((f : Nat) : Int), topC n, topD n)) = true := by decide +kernel
  have h1 := List.all_eq_true.1 (List.all_eq_true.1 h n (List.mem_range.2 hn)) f hf
  exact eq_of_beq h1
theorem top_chk : ∀ n, n < 5 → 1 ≤ n → ∀ f ∈ [8, 16, 32], TZ.chk (n : Nat) (f : Nat) (topC n) (topD n) = 0 := by decide +kernel
theorem top_p2 : ∀ f ∈ [8, 16, 32], f ∈ p2s ∧ 8 ≤ f := by decide +kernel
theorem topC_len (n : Nat) : (topC n).length = n + 1 := by simp [topC]
theorem topD_len (n : Nat) : (topD n).length = n := by simp [topD]
theorem topD_row (n : Nat) : ∀ r ∈ topD n, r.length = n := by
  intro r hr
  obtain ⟨x, _, rfl⟩ := List.mem_map.1 hr
  simp
/-- The policies as a world begins: sixteen of noughts. -/
def polZ : List Value := (List.replicate 16 [Value.int .i64 0, .int .u8 0, .int .i64 0]).flatten
theorem shl_f (c1 : Int) : ∃ f : Nat, f ∈ [8, 16, 32] ∧ ∀ W : World, (Op.shift .shl .i64 8 .u64 ((IntKind.u64.wrap c1).tmod 3)).run Tryz.prog W = .ok (.int .i64 (f : Int)) W := by
  have h0 : 0 ≤ IntKind.u64.wrap c1 := by rw [IntKind.wrap_u64]; omega
  have h1 := Int.tmod_nonneg 3 h0
  have h2 := Int.tmod_lt_of_pos (IntKind.u64.wrap c1) (show (0 : Int) < 3 by omega)
  generalize (IntKind.u64.wrap c1).tmod 3 = x at h1 h2
  obtain rfl | rfl | rfl : x = 0 ∨ x = 1 ∨ x = 2 := by omega
  · exact ⟨8, by simp, fun W => rfl⟩
  · exact ⟨16, by simp, fun W => rfl⟩
  · exact ⟨32, by simp, fun W => rfl⟩
theorem nodes_n (c0 : Int) : ∃ n : Nat, wrap64 (1 + wrap64 ((IntKind.u64.wrap c0).tmod 4)) = (n : Int) ∧ 1 ≤ n ∧ n ≤ 4 := by
  have h0 : 0 ≤ IntKind.u64.wrap c0 := by rw [IntKind.wrap_u64]; omega
  have h1 := Int.tmod_nonneg 4 h0
  have h2 := Int.tmod_lt_of_pos (IntKind.u64.wrap c0) (show (0 : Int) < 4 by omega)
  generalize (IntKind.u64.wrap c0).tmod 4 = x at h1 h2
  refine ⟨(1 + x).toNat, ?_, by omega, by omega⟩
  rw [IntWalk.wrap64_in x ⟨by omega, by omega⟩, IntWalk.wrap64_in (1 + x) ⟨by omega, by omega⟩]
  omega
/-- A world as it begins: nodes, frames, the least mark, and where its topology lies. -/
def begS (n f q : Nat) : St := newS n f (topC n) (topD n) (q : Int) ((q : Int) + 1) ((q : Int) + 2)
def begT (n f : Nat) (A : Option Addr) (ca : Nat) (B : Option Addr) (cb : Nat) : Top := ⟨n, f, topC n, topD n, A, ca, B, cb, polZ⟩
/-- What was made, in colours. -/
theorem begun (w wa wt wb w5 : World) (κ5 : Kol) (m n f q tb : Nat) (A : Option Addr) (ca : Nat) (B : Option Addr) (cb : Nat) (a : Ad) (HG : GlobR w) (HA : RowKit.Below w.heap.size w wa) (HBT : RowKit.Below wa.heap.size wa wt) (HBB : RowKit.Below wt.heap.size wt wb) (HTE : wt.heap.size = tb) (HM : MachK κ5 w5 m a (newS n f (topC n) (topD n) (q : Int) ((q : Int) + 1) ((q : Int) + 2))) (HO : ∀ b, b < wb.heap.size → κ5 b = 0) (HB5 : RowKit.Below wb.heap.size wb w5)
    (HT5 : Blk w5 tb #[.int .i64 n, .int .i64 f, .slice A (topC n).length ca, .slice B (topD n).length cb] 37)
    (HR2 : Kd.R (Kd.int .i64) 3 wt wa.heap.size (fun _ => True) (.slice A (topC n).length ca) (topC n)) (HR3 : Kd.R (Kd.slice 3 (Kd.int .i64)) 34 wt wa.heap.size (fun k_ => some k_ ≠ (Value.slice A (topC n).length ca).ownBlock) (.slice B (topD n).length cb) (topD n)) :
    LawK w (κ5.ext w5.heap.size 0) (fun x => if x < wa.heap.size then 0 else if x < wt.heap.size then 5 else if x < w5.heap.size then 0 else if x = w5.heap.size then 2 else 1)
      ((w5.alloc (.cells #[.int .i64 ((topC n).length : Int), .slice none 0 0] 31)).alloc (.cells (worC m w5.heap.size (begT n f A ca B cb).cells) 43)) (w5.heap.size + 1) m w5.heap.size (n + 1) (begT n f A ca B cb) a (begS n f q) [] := by
  have z1 := HA.size
  have z2 := HBT.size
  have z3 := HBB.size
  have z4 := HB5.size
  have hbt5 : RowKit.Below wt.heap.size wt w5 := below_then HBB z3 HB5
  have hb5 : RowKit.Below w.heap.size w w5 := below_then (below_then (below_then HA z1 HBT) (by omega) HBB) (by omega) HB5
  obtain ⟨w7, hw7⟩ : ∃ w7, (w5.alloc (.cells #[.int .i64 ((topC n).length : Int), .slice none 0 0] 31)).alloc (.cells (worC m w5.heap.size (begT n f A ca B cb).cells) 43) = w7 := ⟨_, rfl⟩
  have hb7 : RowKit.Below w5.heap.size w5 w7 := by rw [← hw7]; exact below_alloc (below_alloc (RowKit.Below.refl _ _) _) _
  have hmo : Blk w7 w5.heap.size #[.int .i64 ((topC n).length : Int), .slice none 0 0] 31 := by rw [← hw7]; exact (Blk.new w5 _ _).alloc _
  have hbo : Blk w7 (w5.heap.size + 1) (worC m w5.heap.size (begT n f A ca B cb).cells) 43 := by rw [← hw7]; exact Blk.new1 w5 _ _ _
  rw [hw7]
  obtain ⟨μ, hμ⟩ : ∃ μ : Kol, (fun x => if x < wa.heap.size then 0 else if x < wt.heap.size then 5 else if x < w5.heap.size then 0 else if x = w5.heap.size then 2 else 1) = μ := ⟨_, rfl⟩
  have m0 : ∀ x, x < wa.heap.size → μ x = 0 := fun x hx => by rw [← hμ]; exact if_pos hx
  have m5 : ∀ x, wa.heap.size ≤ x → x < wt.heap.size → μ x = 5 := fun x h1 h2 => by rw [← hμ]; show (if x < wa.heap.size then _ else _) = _; rw [if_neg (by omega), if_pos h2]
  have m0' : ∀ x, wt.heap.size ≤ x → x < w5.heap.size → μ x = 0 := fun x h1 h2 => by rw [← hμ]; show (if x < wa.heap.size then _ else _) = _; rw [if_neg (by omega), if_neg (by omega), if_pos h2]
  have m2 : μ w5.heap.size = 2 := by rw [← hμ]; show (if w5.heap.size < wa.heap.size then _ else _) = _; rw [if_neg (by omega), if_neg (by omega), if_neg (by omega), if_pos rfl]
  have m1 : μ (w5.heap.size + 1) = 1 := by rw [← hμ]; show (if w5.heap.size + 1 < wa.heap.size then _ else _) = _; rw [if_neg (by omega), if_neg (by omega), if_neg (by omega), if_neg (by omega)]
  rw [hμ]
  clear hμ hw7
  refine ⟨fun x hx => ⟨?_, m0 x (by omega)⟩, below_then hb5 hb5.size hb7, fun x => ?_, HG, ?_, ⟨m1, hbo⟩, ⟨⟨none, 0, ⟨m2, ?_⟩, RowG.nil _ _ _ _ _⟩, fun o ho => (by cases ho), List.nodup_nil, Nat.zero_le _, fun o ho => (by cases ho)⟩, ?_, ?_⟩
  · rw [Kol.ext_old κ5 (by omega)]; exact HO x (by omega)
  · rcases Nat.lt_or_ge x wb.heap.size with h1 | h1
    · left; rw [Kol.ext_old κ5 (by omega)]; exact HO x h1
    · rcases Nat.lt_or_ge x w5.heap.size with h2 | h2
      · right; exact m0' x (by omega) h2
      · left; exact Kol.ext_new κ5 h2
  · exact HM.upd (I := fun _ => False) ((Upd.of_below κ5 hb7).paint _ _ (Nat.le_refl _)) (fun _ _ h => h)
  · rw [topC_len] at hmo
    exact hmo
  · exact KR.below (KR.made HR2 (fun b h1 h2 => m5 b h1 h2)) (below_then hbt5 hbt5.size hb7)
  · exact KR.below (KR.made (Kd.R_mono HR3 (fun _ _ => trivial)) (fun b h1 h2 => m5 b h1 h2)) (below_then hbt5 hbt5.size hb7)
set_option maxHeartbeats 4000000 in
set_option maxRecDepth 100000 in
theorem law_begin (c0 c1 k : Int) (n f q : Nat) (hn : wrap64 (1 + wrap64 ((IntKind.u64.wrap c0).tmod 4)) = (n : Int)) (hn1 : 1 ≤ n) (hn4 : n ≤ 4) (hf : f ∈ [8, 16, 32]) (hsh : ∀ W : World, (Op.shift .shl .i64 8 .u64 ((IntKind.u64.wrap c1).tmod 3)).run Tryz.prog W = .ok (.int .i64 (f : Int)) W)
    (hq : wrap64 ((IntKind.u64.wrap k).tmod 3) = (q : Int)) (hq2 : q ≤ 2) (w : World) (hg : GlobR w) :
    Calls Tryz.prog 15 #[.agg #[.int .i64 c0, .int .i64 c1], .int .i64 k] w fun e w' => ∃ κ μ b m mo A ca B cb a, e = .returned (.pointer (some ⟨b, 0, none⟩)) ∧ LawK w κ μ w' b m mo (n + 1) (begT n f A ca B cb) a (begS n f q) [] := by
  have HG := Aside0.mk hg
  have HTP := Aside0.mk (top_all n (by omega) f hf)
  have hp2 := top_p2 f hf
  have hfl := p2_le f hp2.1
  have HCK := Aside0.mk (And.intro (top_chk n (by omega) hn1 f hf) hp2.1)
  have hf8 := hp2.2
  clear hg hf hp2
  have HQ := Aside0.mk hq
  clear hq
  go_enter Tryz.func15, Tryz.ntmps15
  go_upto_region 1 with fail
  have q0 := (Blk.new w #[.int .i64 c0, .int .i64 c1] 22).at 0 (.int .i64 c0) rfl
  have q1 := (Blk.new w #[.int .i64 c0, .int .i64 c1] 22).at 1 (.int .i64 c1) rfl
  refine st_ 13 (fun w' => w'.cell? ⟨w.heap.size, 0, none⟩ = some (.int .i64 c0) ∧ w'.cell? ⟨w.heap.size, 1, none⟩ = some (.int .i64 c1)) [] ⟨q0, q1⟩ (fun hHeld => ?_)
  refine pu_ 0 11 1 ?_
  refine pu_ 6 17 65 ?_
  refine ta_ 1 12 67 hHeld ?_
  refine pu_ 2 13 71 ?_
  refine pu_ 3 14 79 ?_
  refine pu_ 4 15 95 ?_
  refine pu_ 5 16 127 ?_
  refine pu_ 11 5 2175 ?_
  refine ta_ 7 18 2303 hHeld ?_
  refine pu_ 8 19 2559 ?_
  refine pu_ 9 20 3071 ?_
  refine pu_ 10 21 4095 ?_
  refine pu_ 12 6 8191 ?_
  refine done_ (by kernel_rfl) ?_
  clear q0 q1 hHeld hsh hn
  obtain ⟨wa, hwa⟩ : ∃ wa, (w.alloc (.cells #[.int .i64 c0, .int .i64 c1] 22)).drew = wa := ⟨_, rfl⟩
  have HA := Aside0.mk (show RowKit.Below w.heap.size w wa from by rw [← hwa]; exact below_drew (below_alloc (RowKit.Below.refl _ _) _))
  rw [hwa]
  clear hwa
  go_upto_region 3 with (go_at_call 56; (with_reducible refine (PH.messuagelaw19_topology.calls 60 n f n f (topC n) (topD n) _ HTP.out).mono ?_); rintro e_ wt ⟨v2, v3, rfl, hr2, hr3, hbt⟩; have HR2 := Aside0.mk hr2; have HR3 := Aside0.mk (Kd.S_R hr3); have HBT := Aside0.mk hbt; obtain ⟨A, ca, rfl⟩ := Kd.R_slice hr2; obtain ⟨B, cb, rfl⟩ := Kd.R_slice (Kd.S_R hr3); clear hr2 hr3 hbt)
  obtain ⟨wb, hwb⟩ : ∃ wb, wt.alloc (.cells #[.int .i64 n, .int .i64 f, .slice A (topC n).length ca, .slice B (topD n).length cb] 37) = wb := ⟨_, rfl⟩
  have hbb : RowKit.Below wt.heap.size wt wb := by rw [← hwb]; exact below_alloc (RowKit.Below.refl _ _) _
  have HTB := Aside0.mk (show Blk wb wt.heap.size #[.int .i64 n, .int .i64 f, .slice A (topC n).length ca, .slice B (topD n).length cb] 37 from by rw [← hwb]; exact Blk.new wt _ _)
  have HBB := Aside0.mk hbb
  rw [hwb]
  obtain ⟨tb, htb⟩ : ∃ tb, wt.heap.size = tb := ⟨_, rfl⟩
  have HTE := Aside0.mk htb
  rw [htb] at HTB ⊢
  have hca : (topC n).length ≤ ca := (Kd.R_reads' HR2.out).2.1
  have hcb : (topD n).length ≤ cb := (Kd.R_reads' HR3.out).2.1
  have HMN := Aside0.mk (mach_new n f A ca (topC n) B cb (topD n) q ((q : Int) + 1) ((q : Int) + 2) HCK.out.1 hn1 (by omega) HCK.out.2 (by rw [topC_len]; omega) (by rw [topC_len]; omega) (topD_len n) (topD_row n) (by omega) (by omega) (by omega) (by omega) wb (Kd.C_below (Kd.R_reads' HR2.out).2.2 hbb) hca (Kd.C_below (Kd.R_reads' HR3.out).2.2 hbb) hcb)
  clear hwb hbb htb hca hcb
  have t0 := HTB.out.at 0 (.int .i64 (n : Int)) rfl
  have t1 := HTB.out.at 1 (.int .i64 (f : Int)) rfl
  have t2 := HTB.out.at 2 (.slice A (topC n).length ca) rfl
  have t3 := HTB.out.at 3 (.slice B (topD n).length cb) rfl
  go_upto_region 4 with fail
  rw [HQ.out]
  have hq3 : (q : Int) ≤ 2 := by omega
  have hq4 : (0 : Int) ≤ (q : Int) := by omega
  go_upto_region 5 with (go_at_call 35; (with_reducible refine HMN.out.mono ?_); rintro e_ w5 ⟨κ5, m, a, rfl, hm, ho, hb⟩; have HM := Aside0.mk hm; have HO := Aside0.mk ho; have HB5 := Aside0.mk hb; have HT5 := Aside0.mk (HTB.out.below hb); clear hm ho hb)
  clear t0 t1 t2 t3 HMN
  have t2 := HT5.out.at 2 (.slice A (topC n).length ca) rfl
  have u0 := fun o => (HT5.out.alloc o).at 0 (.int .i64 (n : Int)) rfl
  have u1 := fun o => (HT5.out.alloc o).at 1 (.int .i64 (f : Int)) rfl
  have u2 := fun o => (HT5.out.alloc o).at 2 (.slice A (topC n).length ca) rfl
  have u3 := fun o => (HT5.out.alloc o).at 3 (.slice B (topD n).length cb) rfl
  go_wp2_with fail
  go_ret
  have HF := begun w wa wt wb w5 κ5 m n f q tb A ca B cb a HG.out HA.out HBT.out HBB.out HTE.out HM.out HO.out HB5.out HT5.out HR2.out HR3.out
  exact ⟨_, _, _, m, w5.heap.size, A, ca, B, cb, a, rfl, HF⟩
end Go.Proofs.YtenkdmloolbdaaaGreatDoor.T
end
section
namespace Go.Proofs.YtenkdmloolbdaaaGreatDoor.T
open Go.RowKit Go.Maps Go.WideShapes Go.Proofs.YtenkdmloolbdaaaGreatDoorW.PrintWords Go.Proofs.YtenkdmloolbdaaaGreatDoorW.PrintLast Go.Proofs.YtenkdmloolbdaaaGreatDoorW.PrintMore
set_option linter.unusedVariables false
set_option linter.unusedSimpArgs false
theorem MachK.cps {κ : Kol} {w : World} {m : Nat} {a : Ad} {s : St} (h : MachK κ w m a s) (j : Nat) (hj : j < s.cpus.length) : ∃ p, a.cps[j]? = some p := by
  have := h.cpus.2.1
  exact ⟨_, List.getElem?_eq_getElem (by omega)⟩
def ndN (n j : Nat) : Nat := if j < n then j else 0
theorem ndN_lt (n j : Nat) (h : 1 ≤ n) : ndN n j < n := by unfold ndN; split <;> omega
theorem topC_get (n j : Nat) (hj : j ≤ n) : (topC n)[j]? = some (ndN n j : Int) := by
  unfold topC ndN
  rcases Nat.lt_or_ge j n with h | h
  · rw [List.getElem?_append_left (by simpa using h), if_pos h, List.getElem?_map, List.getElem?_range h]
    rfl
  · obtain rfl : j = n := by omega
    rw [List.getElem?_append_right (by simp), if_neg (by omega)]
    simp
theorem ch_all : ((List.range 5).all fun n => n == 0 || ([8, 16, 32] : List Nat).all fun f => (List.range (n + 1)).all fun j => TZ.chV (n : Int) (f : Int) (topC n) (topD n) 0 0 0 (j : Int) 0 (List.replicate n true) == ((ndN n j : Int), (ndN n j : Int), 0, 0)) = true := by decide +kernel
theorem may_all : (([8, 16, 32] : List Nat).all fun f => (List.range 3).all fun q => (List.range 4).all fun c => mayB (q : Int) (newBud f) (clO c)) = true := by decide +kernel
theorem er_all : ((List.range 5).all fun n => n == 0 || TZ.polR 0 0 0 (n : Int) == 0 && ([8, 16, 32] : List Nat).all fun f => (List.range (n + 1)).all fun j => TZ.erN (n : Int) (f : Int) (topC n) (topD n) (ndN n j : Int) == 0) = true := by decide +kernel
def lgF (f : Nat) : Nat := if f = 8 then 3 else if f = 16 then 4 else 5
theorem bud_all : ∀ f ∈ [8, 16, 32], ∀ k, k < 11 → ((newBud f).fr k).Pairwise (· < ·) ∧ (∀ x ∈ (newBud f).fr k, x + 2 ^ k ≤ f) ∧ ((newBud f).fr k).length ≤ 1024 := by decide +kernel
theorem f_le (f : Nat) (hf : f ∈ [8, 16, 32]) : f ≤ 1024 := by
  have : f = 8 ∨ f = 16 ∨ f = 32 := by simpa using hf
  omega
theorem bud_ok (f : Nat) (hf : f ∈ [8, 16, 32]) : BudOK f (newBud f).fr := ⟨f_le f hf, fun k hk => (bud_all f hf k hk).1, fun k hk => (bud_all f hf k hk).2.1, fun k hk => (bud_all f hf k hk).2.2⟩
theorem lg_all : ∀ f ∈ [8, 16, 32], (newBud f).fr (lgF f) = [0] ∧ lgF f < 11 ∧ ∀ c, c < 4 → clO c ≤ lgF f ∧ ∀ q, q < lgF f → (newBud f).fr q = [] := by decide +kernel
theorem clO_all : ∀ c, c < 4 → TS.takeR ((2 ^ clO c : Nat) : Int) [] = (1, 0, [(1, ((2 ^ clO c : Nat) : Int))]) ∧ 2 ^ clO c ≤ 4 ∧ 1 ≤ clS c ∧ clS c ≤ 64 := by decide +kernel
/-- A new machine may grow by a span. -/
theorem begP (n f q j cls p : Nat) (a : Ad) (hn1 : 1 ≤ n) (hn4 : n ≤ 4) (hf : f ∈ [8, 16, 32]) (hq : q ≤ 2) (hj : j ≤ n) (hc : cls < 4) (hp : a.cps[j]? = some p) :
    GrowP (begS n f q) a j p (newCpu (ndN n j)) cls (ndN n j) (ndN n j) (ndN n j) 0 (newBud f) (lgF f) 0 [] 1 [(1, ((2 ^ clO cls : Nat) : Int))] := by
  have hnd := ndN_lt n j hn1
  have hfr : f = 8 ∨ f = 16 ∨ f = 32 := by simpa using hf
  have hmay : mayB (q : Int) (newBud f) (clO cls) = true := List.all_eq_true.1 (List.all_eq_true.1 (List.all_eq_true.1 may_all f hf) q (List.mem_range.2 (by omega))) cls (List.mem_range.2 hc)
  have hn0 : (n == 0) = false := beq_eq_false_iff_ne.mpr (by omega)
  have hch := List.all_eq_true.1 ch_all n (List.mem_range.2 (by omega))
  rw [hn0, Bool.false_or] at hch
  have hch := eq_of_beq (List.all_eq_true.1 (List.all_eq_true.1 hch f hf) j (List.mem_range.2 (by omega)))
  have her := List.all_eq_true.1 er_all n (List.mem_range.2 (by omega))
  rw [hn0, Bool.false_or, Bool.and_eq_true] at her
  have hpol := eq_of_beq her.1
  have her := eq_of_beq (List.all_eq_true.1 (List.all_eq_true.1 her.2 f hf) j (List.mem_range.2 (by omega)))
  obtain ⟨l1, l2, l3⟩ := lg_all f hf
  obtain ⟨o1, o2, _⟩ := clO_all cls hc
  have hmul : ndN n j * f + f ≤ n * f := by
    have := Nat.mul_le_mul_right f (show ndN n j + 1 ≤ n by omega)
    rw [Nat.add_mul, Nat.one_mul] at this
    exact this
  refine ⟨hc, by show (0 : Nat) < 256; omega, hp, ?_, ?_, ?_, ⟨bud_ok f hf, by show (0 : Nat) < _; omega, (l3 cls hc).1, l2, l1, fun z _ hz => (l3 cls hc).2 z hz, hmay⟩, ?_, by show (-100000 : Int) ≤ (q : Int); omega, rfl, hnd, hnd, hnd, by show n ≤ 8; omega, by show f ≤ 1024; omega, Nat.zero_le _, o1, by omega, fun _ _ => rfl, fun _ _ => rfl, by show ndN n j * f + 0 + 2 ^ clO cls ≤ n * f; omega, Nat.zero_le _, Nat.zero_le _, hpol, her, fun _ => rfl, rfl, ?_⟩
  · show ((topC n).map newCpu)[j]? = _
    rw [List.getElem?_map, topC_get n j hj]
    rfl
  · show TZ.chV (n : Int) (f : Int) (topC n) (topD n) 0 0 0 (j : Int) 0 ((List.replicate n (newBud f)).map fun x => mayB (q : Int) x (clO cls)) = _
    rw [List.map_replicate, hmay]
    exact hch
  · show (List.replicate n (newBud f))[ndN n j]? = _
    rw [List.getElem?_replicate, if_pos hnd]
  · intro x hx k hk
    obtain rfl := List.eq_of_mem_replicate hx
    exact (bud_all f hf k hk).2.2
  · show (List.replicate (n * f * 64) 0).length = _
    rw [List.length_replicate]
    rfl
/-- A live small object, and what the machine knows of it. -/
structure One (s : St) (j : Nat) (c : Cpu) (x n1 cls nd fr page : Nat) (y : Int) (hd : Held) (bs : List Nat) : Prop where
  live : s.live (x : Int) = some ((n1 : Nat) : Int)
  on : OnPage s x (clS cls) fr
  fit : n1 ≤ clS cls
  len : bs.length = n1
  cont : (s.l.drop (fr * 64 + x % 64)).take n1 = bs
  hof : TS.ofR s.rs ((x / 64 : Nat) : Int) = ((page : Int), y, true)
  hpage : page < 4096
  hsp : s.sp page = some hd
  hcls : hd.cls = cls
  hnode : hd.node = nd
  hcpu : s.cpus[j]? = some c
  cnode : c.node = (nd : Int)
  cL : (c.L cls).length < 8
  hc4 : cls < 4
  ln : s.ln < 1000000
/-- Bytes laid into a window. -/
theorem splice_window (L : List Nat) (b o n : Nat) (ys : List Nat) (h1 : o + ys.length ≤ n) (h2 : b + n ≤ L.length) : ((spliceB L (b + o) ys).drop b).take n = spliceB ((L.drop b).take n) o ys := by
  unfold spliceB
  apply List.ext_getElem?
  intro i
  simp only [List.getElem?_take, List.getElem?_drop, List.getElem?_append, List.length_append, List.length_take, List.length_drop]
  repeat' split
  all_goals first | rfl | (exfalso; omega) | (congr 1; omega) | skip
  all_goals (try (rw [List.getElem?_eq_none (by omega)]))
end Go.Proofs.YtenkdmloolbdaaaGreatDoor.T
end
section
namespace Go.Proofs.YtenkdmloolbdaaaGreatDoor.T
open Go.RowKit Go.Maps Go.WideShapes Go.Proofs.YtenkdmloolbdaaaGreatDoorW.PrintWords Go.Proofs.YtenkdmloolbdaaaGreatDoorW.PrintLast Go.Proofs.YtenkdmloolbdaaaGreatDoorW.PrintMore
set_option linter.unusedVariables false
set_option linter.unusedSimpArgs false
theorem splice_at (L : List Nat) (b k : Nat) (ys : List Nat) (hb : b ≤ L.length) (hk : k ≤ ys.length) : ((spliceB L b ys).drop b).take k = ys.take k := by
  unfold spliceB
  rw [List.append_assoc, List.drop_append_of_le_length (by rw [List.length_take]; omega), List.drop_of_length_le (by rw [List.length_take]; omega), List.nil_append, List.take_append_of_le_length hk]
theorem of_all : ∀ c, c < 4 → TS.ofR [(1, ((2 ^ clO c : Nat) : Int))] 1 = (1, ((2 ^ clO c : Nat) : Int), true) := by decide +kernel
theorem clOf_lt (n : Nat) : clOf n < 4 := by unfold clOf; split <;> (try split) <;> (try split) <;> omega
theorem clOf_fit (n : Nat) (h : n ≤ 64) : n ≤ clS (clOf n) := by
  have e : clS 0 = 8 ∧ clS 1 = 16 ∧ clS 2 = 32 ∧ clS 3 = 64 := by decide
  unfold clOf
  split
  · omega
  · split
    · omega
    · split <;> omega
/-- The first object of a new machine. -/
theorem does_new [SortI] (n f q j n1 m : Nat) (a : Ad) (hn1 : 1 ≤ n) (hn4 : n ≤ 4) (hf : f ∈ [8, 16, 32]) (hq : q ≤ 2) (hj : j ≤ n) (h1 : 1 ≤ n1) (h64 : n1 ≤ 64) :
    ∃ s1 c1 fr hd y, Does 21 #[.pointer (some ⟨m, 0, none⟩), .int .i64 j, .int .i64 n1] m a (begS n f q) s1 (.tuple #[.int .i64 (64 : Nat), .int .i64 0]) ∧ One s1 j c1 64 n1 (clOf n1) (ndN n j) fr 1 y hd (List.replicate n1 0) ∧ s1.cpus.length = n + 1 ∧ s1.ln = 1 ∧ s1.qs = List.replicate n [] := by
  obtain ⟨cls, hcl⟩ : ∃ cls, clOf n1 = cls := ⟨_, rfl⟩
  have hc4 : cls < 4 := by rw [← hcl]; exact clOf_lt n1
  have hfit : n1 ≤ clS cls := by rw [← hcl]; exact clOf_fit n1 h64
  have hnd := ndN_lt n j hn1
  have hfr := f_le f hf
  obtain ⟨c, hc⟩ : ∃ c, newCpu (ndN n j) = c := ⟨_, rfl⟩
  obtain ⟨nd, hnd'⟩ : ∃ nd, ndN n j = nd := ⟨_, rfl⟩
  rw [hnd'] at hc hnd ⊢
  have hP : ∀ p, a.cps[j]? = some p → GrowP (begS n f q) a j p c cls nd nd nd 0 (newBud f) (lgF f) 0 [] 1 [(1, ((2 ^ clO cls : Nat) : Int))] := by
    intro p hp
    have := begP n f q j cls p a hn1 hn4 hf hq hj hc4 hp
    rw [hnd', hc] at this
    exact this
  obtain ⟨sT, hsT⟩ : ∃ sT, takS (begS n f q) j c cls nd nd nd 0 (newBud f) (lgF f) 0 1 [(1, ((2 ^ clO cls : Nat) : Int))] = sT := ⟨_, rfl⟩
  obtain ⟨s2, hs2⟩ : ∃ s2 : St, { sT with l := spliceB (begS n f q).l ((nd * f + 0) * 64 + 1 * 64 % 64) (List.replicate (clS cls) 0), pn := sT.pn, pf := sT.pf, pg := sT.pg } = s2 := ⟨_, rfl⟩
  have hcl0 : (begS n f q).cpus[j]? = some c := by
    show ((topC n).map newCpu)[j]? = _
    rw [List.getElem?_map, topC_get n j hj, hnd', ← hc]
    rfl
  have hlen0 : (begS n f q).l.length = n * f * 64 := by
    show (List.replicate (n * f * 64) 0).length = _
    rw [List.length_replicate]
  have hmul : nd * f + f ≤ n * f := by
    have := Nat.mul_le_mul_right f (show nd + 1 ≤ n by omega)
    rw [Nat.add_mul, Nat.one_mul] at this
    exact this
  have hf8 := (top_p2 f hf).2
  have hcz := (clO_all cls hc4).2.2
  have hcpl : (begS n f q).cpus.length = n + 1 := by
    show ((topC n).map newCpu).length = _
    rw [List.length_map, topC_len]
  have hcpus : s2.cpus = ((begS n f q).cpus.set j { c with cur := 0 }).set j { ({ c with cur := 0 } : Cpu) with L := fiL { c with cur := 0 } 1 cls 0 4 } := by
    rw [← hs2, ← hsT]
    rfl
  refine ⟨liveS s2 64 n1, { ({ c with cur := 0 } : Cpu) with L := fiL { c with cur := 0 } 1 cls 0 4 }, nd * f + 0, ⟨nd, clO cls, nd * f + 0, cls, tkI 0 4⟩, ((2 ^ clO cls : Nat) : Int), fun κ w hg hM => ?_, ⟨?_, ?_, by rw [hcl]; exact hfit, by rw [List.length_replicate], ?_, ?_, by omega, ?_, hcl.symm, rfl, ?_, ?_, ?_, clOf_lt n1, ?_⟩, ?_, ?_, ?_⟩
  · obtain ⟨p, hp⟩ := hM.cps j (by rw [hcpl]; omega)
    have hsm := small_new κ m a (begS n f q) j p c n1 h1 h64 nd nd nd 0 (newBud f) (lgF f) 0 [] 1 [(1, ((2 ^ clO cls : Nat) : Int))] (by rw [hcl]; exact hP p hp) w hg hM
    rw [hcl, hsT] at hsm
    have hsm2 := malloc_small κ m a (begS n f q) s2 j p n1 64 h1 h64 (by omega) hp (by rw [← hs2, ← hsT]; show (0 : Nat) < _; omega) w hg hM (by rw [← hs2]; exact hsm)
    exact hsm2
  · show putF s2.live 64 n1 64 = _
    unfold putF
    rw [if_pos rfl]
  · have hF := (hP 0 · |>.onPage hcz.2)
    have h9 : OnPage sT (1 * 64) (clS cls) (nd * f + 0) := by
      rw [← hsT]
      refine ⟨?_, by show nd * f + 0 < n * f; omega, by omega, by omega, by show n * f ≤ 100000; exact Nat.le_trans (Nat.mul_le_mul hn4 hfr) (by omega), by show (begS n f q).l.length = _; exact hlen0⟩
      show mapF (begS n f q).pf 1 (nd * f + 0 : Nat) (2 ^ clO cls) ((1 * 64 / 64 : Nat) : Int) = _
      unfold mapF
      have := Nat.one_le_two_pow (n := clO cls)
      rw [if_pos (by omega)]
      congr 1
    rw [hcl]
    refine ⟨?_, ?_, h9.fit, h9.max, ?_, ?_⟩
    · rw [← hs2]; exact h9.f
    · rw [← hs2]; exact h9.lt
    · rw [← hs2]; exact h9.N
    · rw [← hs2]
      show (spliceB (begS n f q).l ((nd * f + 0) * 64 + 1 * 64 % 64) (List.replicate (clS cls) 0)).length = sT.n * sT.f * 64
      rw [splice_len _ _ _ (by rw [hlen0, List.length_replicate]; omega), hlen0, ← hsT]
      rfl
  · show (s2.l.drop ((nd * f + 0) * 64 + 64 % 64)).take n1 = _
    rw [← hs2]
    show ((spliceB (begS n f q).l ((nd * f + 0) * 64 + 1 * 64 % 64) (List.replicate (clS cls) 0)).drop ((nd * f + 0) * 64 + 64 % 64)).take n1 = _
    rw [show 1 * 64 % 64 = 64 % 64 by omega, splice_at _ _ _ _ (by rw [hlen0]; omega) (by rw [List.length_replicate]; exact hfit), List.take_replicate, Nat.min_eq_left hfit]
  · show TS.ofR s2.rs ((64 / 64 : Nat) : Int) = _
    rw [← hs2, ← hsT]
    exact of_all cls hc4
  · show s2.sp 1 = _
    rw [← hs2, ← hsT]
    rfl
  · show s2.cpus[j]? = _
    rw [hcpus]
    exact List.getElem?_set_self (by rw [List.length_set, hcpl]; omega)
  · show c.node = _
    rw [← hc]
    rfl
  · rw [hcl]
    show ((fiL { c with cur := 0 } 1 cls 0 4) cls).length < 8
    rw [fiL_len, ← hc]
    show ([] : List Int).length + (4 - 1) < 8
    decide
  · show s2.ln + 1 < 1000000
    rw [← hs2, ← hsT]
    show (0 : Nat) + 1 < _
    omega
  · show s2.cpus.length = _
    rw [hcpus, List.length_set, List.length_set, hcpl]
  · show s2.ln + 1 = 1
    rw [← hs2, ← hsT]
    rfl
  · show s2.qs = _
    rw [← hs2, ← hsT]
    rfl
section
variable {s : St} {j : Nat} {c : Cpu} {x n1 cls nd fr page : Nat} {y : Int} {hd : Held} {bs : List Nat}
/-- Bytes written. -/
def wrS (s : St) (a : Nat) (ys : List Nat) : St := { s with l := spliceB s.l a ys, pn := s.pn, pf := s.pf, pg := s.pg }
theorem wrS_nil (s : St) (a : Nat) : wrS s a [] = s := by
  unfold wrS
  rw [show spliceB s.l a [] = s.l by unfold spliceB; simp]
theorem One.wrote (h : One s j c x n1 cls nd fr page y hd bs) (o : Nat) (ys : List Nat) (hfit : o + ys.length ≤ n1) : One (wrS s (fr * 64 + x % 64 + o) ys) j c x n1 cls nd fr page y hd (spliceB bs o ys) := by
  have h1 := h.on
  have h2 := h.fit
  have h3 := h1.fit
  have h4 := h1.lt
  have h5 := h1.len
  have hin : fr * 64 + x % 64 + n1 ≤ s.l.length := by
    rw [h5]
    have := Nat.mul_le_mul_right 64 (show fr + 1 ≤ s.n * s.f by omega)
    omega
  refine ⟨h.live, ⟨h1.f, h1.lt, h1.fit, h1.max, h1.N, ?_⟩, h.fit, ?_, ?_, h.hof, h.hpage, h.hsp, h.hcls, h.hnode, h.hcpu, h.cnode, h.cL, h.hc4, h.ln⟩
  · show (spliceB s.l (fr * 64 + x % 64 + o) ys).length = _
    rw [splice_len _ _ _ (by omega)]
    exact h5
  · rw [splice_len _ _ _ (by rw [h.len]; exact hfit)]
    exact h.len
  · show ((spliceB s.l (fr * 64 + x % 64 + o) ys).drop (fr * 64 + x % 64)).take n1 = _
    rw [splice_window _ _ _ _ _ hfit hin, h.cont]
theorem One.at (h : One s j c x n1 cls nd fr page y hd bs) (o k : Nat) (hk : 1 ≤ k) (hfit : o + k ≤ n1) : (x + o) / 64 = x / 64 ∧ (x + o) % 64 = x % 64 + o ∧ Lives s x o k n1 fr := by
  have h1 := h.on
  have h2 := h.fit
  have h3 := h1.fit
  have h4 := h1.max
  have e1 : (x + o) / 64 = x / 64 := by omega
  have e2 : (x + o) % 64 = x % 64 + o := by omega
  exact ⟨e1, e2, h.live, by omega, hfit, by rw [e1]; exact h1.f, h1.lt, by omega, by omega, h1.N, h1.len⟩
theorem one_write (h : One s j c x n1 cls nd fr page y hd bs) (i m o cb : Nat) (a : Ad) (B : Option Addr) (ys : List Nat) (hi : i < s.cpus.length) (hfit : o + ys.length ≤ n1) (hcb : ys.length ≤ cb) :
    DoesW i x o B ys.length cb ys m a s (wrS s (fr * 64 + x % 64 + o) ys) := by
  intro κ w hg hM hb
  obtain ⟨p, hp⟩ := hM.cps i hi
  rcases Nat.eq_zero_or_pos ys.length with h0 | h0
  · obtain rfl := List.length_eq_zero_iff.1 h0
    rw [wrS_nil]
    have h1 := h.on
    have h2 := h.fit
    have h3 := h1.fit
    have h4 := h1.max
    refine (write_zero κ m a s i p x o n1 cb B hp (by simp at hfit; omega) h.live (by simp at hfit; omega) (by omega) h1.N w hM).mono ?_
    rintro e w' ⟨he, κ', q1, q2⟩
    exact ⟨he, κ', q1, q2.mono (fun c hc => by omega)⟩
  · obtain ⟨e1, e2, hl⟩ := h.at o ys.length h0 hfit
    have hw := write_own κ m a s i p x o n1 fr cb ys B hp h0 hcb hl w hM (fun κ' w' hU => hb κ' w' (hU.mono (fun c hc => by omega)))
    refine hw.mono ?_
    rintro e w' ⟨he, κ', q1, q2⟩
    refine ⟨he, κ', ?_, q2.mono (fun c hc => by omega)⟩
    rw [e2, ← Nat.add_assoc] at q1
    exact q1
theorem one_read (h : One s j c x n1 cls nd fr page y hd bs) (i m o k : Nat) (a : Ad) (hi : i < s.cpus.length) (hk : 1 ≤ k) (hfit : o + k ≤ n1) : DoesR i x o k ((bs.drop o).take k) m a s := by
  intro κ w hg hM
  obtain ⟨p, hp⟩ := hM.cps i hi
  obtain ⟨e1, e2, hl⟩ := h.at o k hk hfit
  have hr := read_own κ m a s i p x o k n1 fr hp hk hl w hM
  rw [e2, ← Nat.add_assoc] at hr
  have e3 : (bs.drop o).take k = (s.l.drop (fr * 64 + x % 64 + o)).take k := by
    rw [← h.cont, List.drop_take, List.take_take, List.drop_drop, Nat.min_eq_left (by omega)]
  rw [e3]
  exact hr
theorem one_free (h : One s j c x n1 cls nd fr page y hd bs) (m : Nat) (a : Ad) : Does 43 #[.pointer (some ⟨m, 0, none⟩), .int .i64 j, .int .i64 x] m a s (freeS_ s j c cls x) (.int .i64 0) := by
  intro κ w hg hM
  have hj := (List.getElem?_eq_some_iff.1 h.hcpu).1
  obtain ⟨p, hp⟩ := hM.cps j hj
  have := h.on.max
  have hf := free_own κ m a s j p c x n1 page y hd (by omega) hp h.hcpu h.live h.hpage h.hof h.hsp (by rw [h.cnode, h.hnode]) (by rw [h.hcls]; exact h.hc4) (by rw [h.hcls]; exact h.cL) w hM
  rw [h.hcls] at hf
  exact hf
theorem bad_free (i m : Nat) (x : Int) (a : Ad) (s : St) (hx : I64 x) (hi : i < s.cpus.length) (hl : s.live x = none) : Does 43 #[.pointer (some ⟨m, 0, none⟩), .int .i64 i, .int .i64 x] m a s s (.int .i64 6) := by
  intro κ w hg hM
  obtain ⟨p, hp⟩ := hM.cps i hi
  refine (free_bad κ m a s i p x hx hp hl w hM).mono ?_
  rintro e w' ⟨he, rfl⟩
  exact ⟨he, κ, hM, Upd.refl _ _ _⟩
end
end Go.Proofs.YtenkdmloolbdaaaGreatDoor.T
end
