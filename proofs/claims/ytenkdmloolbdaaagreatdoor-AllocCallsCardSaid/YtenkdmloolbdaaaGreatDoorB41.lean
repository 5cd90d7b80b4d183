/- Keys of a map of numbers, sorted: Live. The law AllocCalls, walked. -/
import Derived.Test.YtenkdmloolbdaaaGreatDoorB35
import Derived.Test.YtenkdmloolbdaaaGreatDoorB40
import Derived.Test.YtenkdmloolbdaaaGreatDoorB38
import Derived.Test.YtenkdmloolbdaaaGreatDoorB39
section
namespace Go.Proofs.YtenkdmloolbdaaaGreatDoor.T
open Go.RowKit Go.Maps Go.Sort Go.WideShapes Go.Proofs.YtenkdmloolbdaaaGreatDoorW.PrintWords Go.Proofs.YtenkdmloolbdaaaGreatDoorW.PrintLast Go.Proofs.YtenkdmloolbdaaaGreatDoorW.PrintMore
set_option linter.unusedVariables false
set_option linter.unusedSimpArgs false
theorem keys_size {w : World} {R : Value → Option (DataW Unit × List MemPlace)} {b n : Nat} {D : DataW Unit} (hown : w.ownsMap Tryz.prog 3 R b n D) : (intKeys D).length = Maps.size D := by
  obtain ⟨es, hD, _⟩ := hown.entries int_law
  subst hD
  simp [intKeys, Maps.size]
theorem has_i64 {w : World} {R : Value → Option (DataW Unit × List MemPlace)} {b n : Nat} {D : DataW Unit} (hown : w.ownsMap Tryz.prog 3 R b n D) (x : Int) (h : Maps.has D (.int .i64 x) = true) : I64 x := by
  obtain ⟨es, hD, _⟩ := hown.entries int_law
  obtain ⟨es', hD', hko⟩ := hown.keysOf
  obtain rfl : es = es' := by rw [hD] at hD'; simpa using hD'
  subst hD
  rw [Maps.has_eq, List.any_eq_true] at h
  obtain ⟨p, hp, hs⟩ := h
  obtain ⟨v, hv⟩ := hko p hp
  obtain ⟨y, _, hy, hwf⟩ := Maps.keyOf_i64 Tryz.underlying3 hv
  rw [hy] at hs
  have : y = x := by simpa [Lit.sameKey] using hs
  rw [← this]
  exact hwf
theorem sortsL (m : Nat) : AnyZI.SortsIn Tryz.prog Tryz.sortedL_ren Fence.wide m :=
  ⟨fun blk off cap ss W hH hblk hsz => callsIn_wide.2 (AnyM.slices_Sort_int Tryz.sortL blk off cap ss W hH hblk hsz),
   fun p cap W => callsIn_wide.2 (AnyM.slices_Sort_int_none Tryz.sortL p cap W)⟩
theorem keys_call (mb : Option Nat) (W : World) : Calls Tryz.prog 88 #[.map mb] W fun e w' => e = .returned (.func (.func 143) #[] #[.pointer (some ⟨W.heap.size, 0, none⟩)]) ∧ w' = W.alloc (.cells #[.map mb] 127) :=
  (callsIn_wide (n := 5)).1 (AnyZI.keys_in Tryz.keysL Fence.wide 5 trivial rfl mb W)
theorem sorted_call (b nn : Nat) (D0 : DataW Unit) (R : Value → Option (DataW Unit × List MemPlace)) (w : World) (hown : w.ownsMap Tryz.prog 3 R b nn D0) (hmax : Maps.size D0 ≤ 1000000) :
    Calls Tryz.prog 70 #[.func (.func 143) #[] #[.pointer (some ⟨w.heap.size, 0, none⟩)]] (w.alloc (.cells #[.map (some b)] 127)) fun e w' => ∃ (v : Value) (ss : List Int), e = .returned v ∧ ss.Perm (intKeys D0) ∧
      w'.ownsRow w.heap.size 3 1 v ss.length ((ss.mergeSort (fun x y => decide (x ≤ y))).map encZ) ∧ (v = .slice none 0 0 ↔ ss = []) ∧ RowKit.Below w.heap.size w w' := by
  have hbl := hown.lt
  have hseq : SeqGives Fence.wide 2 Tryz.prog 143 #[.pointer (some ⟨w.heap.size, 0, none⟩)] encZ (fun ss => ss.Perm (intKeys D0)) (Maps.size D0) (w.alloc (.cells #[.map (some b)] 127)) :=
    AnyZI.keys_gives (ρ := Tryz.keysL_ren) { Tryz.keysL with } Fence.wide _ trivial rfl (by omega) w.heap.size b nn D0 _ (by simp) (by simp) (by
      obtain ⟨es, clock, hb, Ft, hs, hD⟩ := hown
      exact ⟨es, clock, (Below.heap_alloc _ _ b hbl).trans hb, Ft, hs, hD⟩)
  have cS := AnyZI.sorted_in Tryz.sortedL Fence.wide 5 trivial trivial trivial trivial rfl (by omega) (sortsL _) (enters_of Tryz.func92 (by kernel_rfl) rfl) 143 #[.pointer (some ⟨w.heap.size, 0, none⟩)] trivial (enters_of Tryz.func143 (by kernel_rfl) rfl) _ _ (by simp only [maxLen]; omega) (by omega) _ hseq
  change CallsIn _ _ Tryz.prog 70 _ _ _ at cS
  refine (callsIn_wide.1 cS).mono ?_
  rintro e w' ⟨v, ss, rfl, hS, hrow, hnil, hb⟩
  exact ⟨v, ss, rfl, hS, ownsRow_base_a hrow (by simp), hnil, ((RowKit.Below.refl _ w).alloc (Nat.le_refl _) _).trans (hb.mono (by simp))⟩
/-- What a sorting of a map's keys has left. -/
theorem keys_row {w w' : World} {R : Value → Option (DataW Unit × List MemPlace)} {b n base : Nat} {D : DataW Unit} {ss : List Int} {v : Value} {f : Int → Bool} (hown : w.ownsMap Tryz.prog 3 R b n D) (hf : ∀ x, I64 x → Maps.has D (.int .i64 x) = f x) (hp : ss.Perm (intKeys D))
    (hr : w'.ownsRow base 3 1 v ss.length ((ss.mergeSort (fun x y => decide (x ≤ y))).map encZ)) :
    ∃ L : List Int, L.length = Maps.size D ∧ L.Pairwise (· < ·) ∧ (∀ x, x ∈ L ↔ I64 x ∧ f x = true) ∧ Kd.R (Kd.int .i64) 3 w' base (fun _ => True) v L := by
  obtain ⟨es, hD, hpw, _⟩ := hown.entries int_law
  obtain ⟨es', hD', hko⟩ := hown.keysOf
  obtain rfl : es = es' := by rw [hD] at hD'; simpa using hD'
  have hks : ∀ p ∈ es, ∃ x, p.1 = .int .i64 x := fun p hp => by obtain ⟨v, hv⟩ := hko p hp; obtain ⟨x, _, hx, _⟩ := Maps.keyOf_i64 Tryz.underlying3 hv; exact ⟨x, hx⟩
  have hkeys : ∀ x, x ∈ intKeys D ↔ Maps.has D (.int .i64 x) = true := fun x => by
    subst hD
    rw [Maps.has_eq, List.any_eq_true]
    show x ∈ es.map (fun p => Go.intOf p.1) ↔ _
    rw [List.mem_map]
    constructor
    · rintro ⟨p, hp', rfl⟩
      obtain ⟨a, ha⟩ := hks p hp'
      exact ⟨p, hp', by rw [ha]; simp [Lit.sameKey, Go.intOf]⟩
    · rintro ⟨p, hp', hs⟩
      obtain ⟨a, ha⟩ := hks p hp'
      rw [ha] at hs
      exact ⟨p, hp', by rw [ha]; simpa [Lit.sameKey, Go.intOf] using hs⟩
  have hnd : (intKeys D).Nodup := by
    subst hD
    show (es.map fun p => Go.intOf p.1).Nodup
    refine List.pairwise_map.2 (hpw.imp_of_mem fun {p q} hp' hq' hne e => hne ?_)
    obtain ⟨a, ha⟩ := hks p hp'
    obtain ⟨b, hb⟩ := hks q hq'
    rw [ha, hb] at e ⊢
    exact congrArg _ e
  obtain ⟨L, hL⟩ : ∃ L, ss.mergeSort (fun x y => decide (x ≤ y)) = L := ⟨_, rfl⟩
  have hpL : L.Perm (intKeys D) := by rw [← hL]; exact (List.mergeSort_perm ss _).trans hp
  have hlen : ss.length = L.length := by rw [← hL]; simp
  have hle : L.Pairwise (fun x y => x ≤ y) := by
    rw [← hL]
    refine (List.pairwise_mergeSort (fun a b c h1 h2 => ?_) (fun a b => ?_) ss).imp (fun {a b} h => of_decide_eq_true h)
    · simp only [decide_eq_true_eq] at *; exact Int.le_trans h1 h2
    · simp only [Bool.or_eq_true, decide_eq_true_eq]; exact Int.le_total a b
  have hndL : L.Nodup := hpL.nodup_iff.2 hnd
  refine ⟨L, by rw [hpL.length_eq, keys_size hown], (hle.and hndL).imp (fun {a b} h => by have h1 := h.1; have h2 := h.2; omega), fun x => ?_, ?_⟩
  · rw [hpL.mem_iff, hkeys]
    constructor
    · intro h
      have hx := has_i64 hown x h
      exact ⟨hx, by rw [← hf x hx]; exact h⟩
    · rintro ⟨hx, h⟩
      rw [hf x hx]; exact h
  · rw [hlen, hL] at hr
    exact Kd.R_of_own (enc := Value.int .i64) (h1 := fun _ => rfl) (ok := fun _ => True) (xs := L) hr (fun _ _ => trivial)
set_option maxHeartbeats 2000000 in
set_option maxRecDepth 100000 in
/-- The live objects' addresses, rising. -/
theorem live_own (κ : Kol) (m : Nat) (a : Ad) (s : St) (hln : s.ln ≤ 1000000) (w : World) (h : MachK κ w m a s) :
    Calls Tryz.prog 38 #[.pointer (some ⟨m, 0, none⟩)] w fun e w' => ∃ (v : Value) (L : List Int), e = .returned v ∧ L.length ≤ s.ln ∧ L.Pairwise (· < ·) ∧ (∀ x, x ∈ L ↔ I64 x ∧ (s.live x).isSome = true) ∧ Kd.R (Kd.int .i64) 3 w' w.heap.size (fun _ => True) v L ∧ RowKit.Below w.heap.size w w' := by
  obtain ⟨hk, D, hown, hv⟩ := h.live
  have hsz : Maps.size D ≤ s.ln := by
    obtain ⟨es, clock, hb, F, hs, rfl⟩ := hown
    simpa [Maps.size, length_sorted] using hs
  have HO := Aside0.mk (And.intro hown (And.intro hv hsz))
  have HSC := Aside0.mk (sorted_call a.lb s.ln D _ w hown (by omega))
  have c12 := h.c12
  have HBL := Aside0.mk (below_alloc (RowKit.Below.refl w.heap.size w) (.cells #[.map (some a.lb)] 127))
  clear h hk hown hv hsz
  go_enter Tryz.func38, Tryz.ntmps38
  go_wp2_with (first | (go_at_call 88; (with_reducible refine (keys_call _ _).mono ?_); rintro e_ w1 ⟨rfl, rfl⟩) | (go_at_call 70; (with_reducible refine HSC.out.mono ?_); rintro e_ w2 ⟨v, ss, rfl, q1, q2, q3, q4⟩; have HQ := Aside0.mk (And.intro q1 (And.intro q2 q4)); clear q1 q2 q3 q4))
  go_ret
  obtain ⟨L, l1, l2, l3, l4⟩ := keys_row HO.out.1 (fun x hx => (HO.out.2.1 x hx).1) HQ.out.1 HQ.out.2.1
  exact ⟨v, L, rfl, by rw [l1]; exact HO.out.2.2, l2, l3, l4, HQ.out.2.2⟩
end Go.Proofs.YtenkdmloolbdaaaGreatDoor.T
end
section
namespace Go.Proofs.YtenkdmloolbdaaaGreatDoor.T
open Go.RowKit Go.Maps Go.WideShapes Go.Proofs.YtenkdmloolbdaaaGreatDoorW.PrintWords Go.Proofs.YtenkdmloolbdaaaGreatDoorW.PrintLast Go.Proofs.YtenkdmloolbdaaaGreatDoorW.PrintMore
set_option linter.unusedVariables false
set_option linter.unusedSimpArgs false
theorem mod_9 (B : Nat) (hB : B ≤ 100) (k : Int) : ∃ r : Nat, wrap64 ((B : Int) + wrap64 ((IntKind.u64.wrap k).tmod 9)) = (r : Int) ∧ B ≤ r := by
  have h0 : 0 ≤ IntKind.u64.wrap k := by rw [IntKind.wrap_u64]; omega
  have h1 := Int.tmod_nonneg 9 h0
  have h2 := Int.tmod_lt_of_pos (IntKind.u64.wrap k) (show (0 : Int) < 9 by omega)
  generalize (IntKind.u64.wrap k).tmod 9 = x at h1 h2
  refine ⟨((B : Int) + x).toNat, ?_, by omega⟩
  rw [IntWalk.wrap64_in x ⟨by omega, by omega⟩, IntWalk.wrap64_in ((B : Int) + x) ⟨by omega, by omega⟩]
  omega
theorem LawK.x2 {w0 w : World} {κ μ : Kol} {b m mo nc : Nat} {t : Top} {a : Ad} {s : St} {l : List Ob} (h : LawK w0 κ μ w b m mo nc t a s l) : w.cell? ⟨b, 2, none⟩ = some (.int .i64 t.n) := h.box.blk.at 2 _ (by simp [worC, Top.cells])
theorem LawK.x4 {w0 w : World} {κ μ : Kol} {b m mo nc : Nat} {t : Top} {a : Ad} {s : St} {l : List Ob} (h : LawK w0 κ μ w b m mo nc t a s l) : w.cell? ⟨b, 4, none⟩ = some (.slice t.A t.cs.length t.ca) := h.box.blk.at 4 _ (by simp [worC, Top.cells])
set_option maxHeartbeats 8000000 in
set_option maxRecDepth 100000 in
theorem calls_own [SortI] (c0 c1 k0 k1 : Int) (w : World) (hg : GlobR w) :
    Calls Tryz.prog 10 #[.agg #[.int .i64 c0, .int .i64 c1], .int .i64 k0, .int .i64 k1] w fun e w' => e = .returned (.bool true) ∧ RowKit.Below w.heap.size w w' := by
  obtain ⟨n, hn, hn1, hn4⟩ := nodes_n c0
  obtain ⟨f, hf, hsh⟩ := shl_f c1
  have HBG := Aside0.mk (fun (W : World) (hW : GlobR W) => law_begin c0 c1 0 n f 0 hn hn1 hn4 hf hsh (by decide +kernel) (by omega) W hW)
  have HN := Aside0.mk (fun m a => does_new n f 0 0 20 m a hn1 hn4 hf (by omega) (by omega) (by omega) (by omega))
  have HG := Aside0.mk hg
  obtain ⟨jr, hjr, hjr2⟩ := mod_9 (n + 1) (by omega) k0
  obtain ⟨kr, hkr, hkr2⟩ := mod_9 n (by omega) k1
  have HJ := Aside0.mk (And.intro (show wrap64 ((n : Int) + 1 + wrap64 ((IntKind.u64.wrap k0).tmod 9)) = (jr : Int) from by rw [Int.natCast_add] at hjr; exact hjr) (And.intro hjr2 (And.intro hkr hkr2)))
  have hw0 := below_alloc (RowKit.Below.refl w.heap.size w) (.cells #[.int .i64 c0, .int .i64 c1] 22)
  obtain ⟨W, hW⟩ : ∃ W, w.alloc (.cells #[.int .i64 c0, .int .i64 c1] 22) = W := ⟨_, rfl⟩
  rw [hW] at hw0
  have HW0 := Aside0.mk hw0
  clear hg hn hf hsh hw0 hjr hjr2 hkr hkr2
  go_enter Tryz.func10, Tryz.ntmps10
  go_upto_region 1 with fail
  have q0 := (Blk.new w #[.int .i64 c0, .int .i64 c1] 22).at 0 (.int .i64 c0) rfl
  have q1 := (Blk.new w #[.int .i64 c0, .int .i64 c1] 22).at 1 (.int .i64 c1) rfl
  rw [hW] at q0 q1
  clear hW
  go_upto_region 2 with (go_at_call 15; (with_reducible refine (HBG.out _ (HG.out.below HW0.out)).mono ?_); rintro e_ w1 ⟨κ1, μ1, b, m, mo, A1, ca1, B1, cb1, a, rfl, h1⟩; have HL1 := Aside0.mk h1; clear h1)
  clear q0 q1 HBG
  obtain ⟨s1, c1_, fr, hd, y, hD1, hO1, hcl1, hln1, hqs1⟩ := HN.out m a
  obtain ⟨T, hT⟩ : ∃ T, begT n f A1 ca1 B1 cb1 = T := ⟨_, rfl⟩
  have HT := Aside0.mk (show T.n = n ∧ T.cs.length = n + 1 from by rw [← hT]; exact ⟨rfl, topC_len n⟩)
  rw [hT] at HL1
  clear hT HN
  have HO := Aside0.mk (And.intro hO1 (And.intro hcl1 (And.intro hln1 hqs1)))
  have HD := Aside0.mk hD1
  clear hD1 hO1 hcl1 hln1 hqs1
  have HMA := Aside0.mk (fun (w2 : World) (h : LawK W κ1 μ1 w2 b m mo (n + 1) T a (begS n f 0) []) => (show Calls Tryz.prog 17 #[.pointer (some ⟨b, 0, none⟩), .int .i64 (0 : Int), .int .i64 (20 : Int)] w2 (fun e w' => e = .returned (.bool true) ∧ ∃ κ' μ' bk', LawK W κ' μ' w' b m mo (n + 1) T a s1 [⟨64, bk', List.replicate 20 0⟩]) from again_n W κ1 μ1 b m mo n 20 T a s1 hn4 w2 (begS n f 0) (by omega) (by omega) HD.out h))
  go_upto_region 4 with (first
    | (go_at_call 16; (with_reducible refine (gives_own w1 (HL1.out.gl.below HL1.out.bel)).mono ?_); rintro e_ w2 ⟨rfl, h2⟩; have HL2 := Aside0.mk (HL1.out.below h2); clear h2)
    | (go_at_call 17; (with_reducible refine (HMA.out w2 HL2.out).mono ?_); rintro e_ w3 ⟨rfl, κ3, μ3, bk, h3⟩; have HL3 := Aside0.mk h3; obtain ⟨g, cp, x1, y1, z1⟩ := h3.cell1 64 rfl; clear h3))
  have x4 := HL3.out.x4
  have x2 := HL3.out.x2
  have x0 := HL3.out.x0
  rw [HT.out.2] at x4
  rw [HT.out.1] at x2
  have HQL := Aside0.mk (show s1.qs.length = n from by rw [HO.out.2.2.2, List.length_replicate])
  have HLV := Aside0.mk (fun (w4 : World) (h : LawK W κ3 μ3 w4 b m mo (n + 1) T a s1 [⟨64, bk, List.replicate 20 0⟩]) => show Calls Tryz.prog 38 #[.pointer (some ⟨m, 0, none⟩)] w4 (fun e w' => ∃ A c, e = .returned (.slice A 1 c) ∧ LawK W κ3 μ3 w' b m mo (n + 1) T a s1 [⟨64, bk, List.replicate 20 0⟩]) from by
    refine (live_own κ3 m a s1 (by rw [HO.out.2.2.1]; omega) w4 h.mach).mono ?_
    rintro e w' ⟨v, L, rfl, l1, l2, l3, l4, l5⟩
    rw [HO.out.2.2.1] at l1
    have hin : (64 : Int) ∈ L := (l3 64).2 ⟨by decide, by rw [show s1.live 64 = _ from HO.out.1.live]; rfl⟩
    have hlen : L.length = 1 := by
      cases L with
      | nil => simp at hin
      | cons x r => simp only [List.length_cons] at l1 ⊢; omega
    obtain ⟨A, c, rfl, _, _⟩ := Kd.R_reads l4
    rw [hlen]
    exact ⟨A, c, rfl, h.below l5⟩)
  have HRD := Aside0.mk (fun (w4 : World) (h : LawK W κ3 μ3 w4 b m mo (n + 1) T a s1 [⟨64, bk, List.replicate 20 0⟩]) => show Calls Tryz.prog 20 #[.pointer (some ⟨b, 0, none⟩), .int .i64 (0 : Int), .int .i64 (64 : Int), .int .i64 (0 : Int), .int .i64 (20 : Int)] w4 (fun e w' => e = .returned (.bool true) ∧ LawK W κ3 μ3 w' b m mo (n + 1) T a s1 [⟨64, bk, List.replicate 20 0⟩]) from again_r W κ3 μ3 b m mo n 20 bk T a s1 c1_ fr hd y hn4 w4 HO.out.1 (by rw [HO.out.2.1]; omega) (by omega) h)
  go_upto_region 5 with fail
  rw [HJ.out.1]
  by_cases hc : k0 < 0
  · have d5 : decide (k0 < 0) = true := decide_eq_true hc
    have HJV := Aside0.mk (show k0 < 0 ∨ (s1.cpus.length : Int) ≤ k0 from .inl hc)
    have E1 := Aside0.mk (malloc_nocpu κ3 m a s1 k0 8 HJV.out w3 HL3.out.mach)
    have E2 := Aside0.mk (read_nocpu κ3 m a s1 k0 64 0 1 HJV.out w3 HL3.out.mach)
    have E3 := Aside0.mk (flush_nocpu κ3 m a s1 k0 HJV.out w3 HL3.out.mach)
    go_upto_region 7 with fail
    clear d5
    go_upto_region 11 with (first | (go_at_call 21; (with_reducible refine E1.out.mono ?_); rintro e_ w9 ⟨rfl, hw9⟩; have hw9 := hw9.symm; subst hw9) | (go_at_call 24; (with_reducible refine E2.out.mono ?_); rintro e_ w9 ⟨rfl, hw9⟩; have hw9 := hw9.symm; subst hw9) | (go_at_call 42; (with_reducible refine E3.out.mono ?_); rintro e_ w9 ⟨rfl, hw9⟩; have hw9 := hw9.symm; subst hw9))
    clear E1 E2 E3
    go_upto_region 12 with fail
    rw [HJ.out.2.2.1]
    by_cases hd1 : k1 < 0
    · have d6 : decide (k1 < 0) = true := decide_eq_true hd1
      go_upto_region 14 with fail
      clear d6
      have hkv : k1 < 0 ∨ (s1.qs.length : Int) ≤ k1 := .inl hd1
      have E4 := Aside0.mk (drain_nonode κ3 m a s1 k1 hkv w3 HL3.out.mach)
      have E5 := Aside0.mk (free_nocpu κ3 m a s1 k0 64 HJV.out w3 HL3.out.mach)
      have HLB := Aside0.mk (show LawK W κ3 μ3 (w3.alloc (.cells #[.int .u8 1] 5)) b m mo (n + 1) T a s1 [⟨64, bk, List.replicate 20 0⟩] from HL3.out.below (below_alloc (RowKit.Below.refl _ _) _))
      have E6 := Aside0.mk (write_nocpu κ3 m a s1 k0 64 0 (some ⟨w3.heap.size, 0, none⟩) 1 1 (by omega) HJV.out _ HLB.out.mach)
      have E7 := Aside0.mk (setpol_nocpu κ3 m a s1 k0 0 0 0 HJV.out _ HLB.out.mach)
      clear hkv
      go_upto_region 15 with (go_at_call 25; (with_reducible refine E4.out.mono ?_); rintro e_ w9 ⟨rfl, hw9⟩; have hw9 := hw9.symm; subst hw9)
      clear E4 x1 y1 z1 x2 x4
      have xb := HLB.out.x0
      go_wp2_with (first
        | (go_at_call 43; (with_reducible refine E5.out.mono ?_); rintro e_ w9 ⟨rfl, hw9⟩; have hw9 := hw9.symm; subst hw9)
        | (go_at_call 23; (with_reducible refine E6.out.mono ?_); rintro e_ w9 ⟨rfl, rfl⟩)
        | (go_at_call 44; (with_reducible refine E7.out.mono ?_); rintro e_ w4 ⟨rfl, h4⟩; have HL4 := Aside0.mk (HLB.out.below h4); have x0' := (HLB.out.below h4).x0; clear h4)
        | (go_at_call 38; (with_reducible refine (HLV.out _ HL4.out).mono ?_); rintro e_ w5 ⟨A5, c5, rfl, h5⟩; have HL5 := Aside0.mk h5; clear h5)
        | (go_at_call 20; (with_reducible refine (HRD.out _ HL5.out).mono ?_); rintro e_ w6 ⟨rfl, h6⟩; have HL6 := Aside0.mk h6; clear h6))
      go_ret
      exact ⟨rfl, below_then HW0.out HW0.out.size HL6.out.bel⟩
    · have d6 : decide (k1 < 0) = false := decide_eq_false hd1
      go_upto_region 14 with fail
      clear d6
      have hkv : (kr : Int) < 0 ∨ (s1.qs.length : Int) ≤ (kr : Int) := .inr (by rw [HQL.out]; have := HJ.out.2.2.2; omega)
      have E4 := Aside0.mk (drain_nonode κ3 m a s1 (kr : Int) hkv w3 HL3.out.mach)
      have E5 := Aside0.mk (free_nocpu κ3 m a s1 k0 64 HJV.out w3 HL3.out.mach)
      have HLB := Aside0.mk (show LawK W κ3 μ3 (w3.alloc (.cells #[.int .u8 1] 5)) b m mo (n + 1) T a s1 [⟨64, bk, List.replicate 20 0⟩] from HL3.out.below (below_alloc (RowKit.Below.refl _ _) _))
      have E6 := Aside0.mk (write_nocpu κ3 m a s1 k0 64 0 (some ⟨w3.heap.size, 0, none⟩) 1 1 (by omega) HJV.out _ HLB.out.mach)
      have E7 := Aside0.mk (setpol_nocpu κ3 m a s1 k0 0 0 0 HJV.out _ HLB.out.mach)
      clear hkv
      go_upto_region 15 with (go_at_call 25; (with_reducible refine E4.out.mono ?_); rintro e_ w9 ⟨rfl, hw9⟩; have hw9 := hw9.symm; subst hw9)
      clear E4 x1 y1 z1 x2 x4
      have xb := HLB.out.x0
      go_wp2_with (first
        | (go_at_call 43; (with_reducible refine E5.out.mono ?_); rintro e_ w9 ⟨rfl, hw9⟩; have hw9 := hw9.symm; subst hw9)
        | (go_at_call 23; (with_reducible refine E6.out.mono ?_); rintro e_ w9 ⟨rfl, rfl⟩)
        | (go_at_call 44; (with_reducible refine E7.out.mono ?_); rintro e_ w4 ⟨rfl, h4⟩; have HL4 := Aside0.mk (HLB.out.below h4); have x0' := (HLB.out.below h4).x0; clear h4)
        | (go_at_call 38; (with_reducible refine (HLV.out _ HL4.out).mono ?_); rintro e_ w5 ⟨A5, c5, rfl, h5⟩; have HL5 := Aside0.mk h5; clear h5)
        | (go_at_call 20; (with_reducible refine (HRD.out _ HL5.out).mono ?_); rintro e_ w6 ⟨rfl, h6⟩; have HL6 := Aside0.mk h6; clear h6))
      go_ret
      exact ⟨rfl, below_then HW0.out HW0.out.size HL6.out.bel⟩
  · have d5 : decide (k0 < 0) = false := decide_eq_false hc
    have HJV := Aside0.mk (show (jr : Int) < 0 ∨ (s1.cpus.length : Int) ≤ (jr : Int) from .inr (by rw [HO.out.2.1]; have := HJ.out.2.1; omega))
    have E1 := Aside0.mk (malloc_nocpu κ3 m a s1 (jr : Int) 8 HJV.out w3 HL3.out.mach)
    have E2 := Aside0.mk (read_nocpu κ3 m a s1 (jr : Int) 64 0 1 HJV.out w3 HL3.out.mach)
    have E3 := Aside0.mk (flush_nocpu κ3 m a s1 (jr : Int) HJV.out w3 HL3.out.mach)
    go_upto_region 7 with fail
    clear d5
    go_upto_region 11 with (first | (go_at_call 21; (with_reducible refine E1.out.mono ?_); rintro e_ w9 ⟨rfl, hw9⟩; have hw9 := hw9.symm; subst hw9) | (go_at_call 24; (with_reducible refine E2.out.mono ?_); rintro e_ w9 ⟨rfl, hw9⟩; have hw9 := hw9.symm; subst hw9) | (go_at_call 42; (with_reducible refine E3.out.mono ?_); rintro e_ w9 ⟨rfl, hw9⟩; have hw9 := hw9.symm; subst hw9))
    clear E1 E2 E3
    go_upto_region 12 with fail
    rw [HJ.out.2.2.1]
    by_cases hd1 : k1 < 0
    · have d6 : decide (k1 < 0) = true := decide_eq_true hd1
      go_upto_region 14 with fail
      clear d6
      have hkv : k1 < 0 ∨ (s1.qs.length : Int) ≤ k1 := .inl hd1
      have E4 := Aside0.mk (drain_nonode κ3 m a s1 k1 hkv w3 HL3.out.mach)
      have E5 := Aside0.mk (free_nocpu κ3 m a s1 (jr : Int) 64 HJV.out w3 HL3.out.mach)
      have HLB := Aside0.mk (show LawK W κ3 μ3 (w3.alloc (.cells #[.int .u8 1] 5)) b m mo (n + 1) T a s1 [⟨64, bk, List.replicate 20 0⟩] from HL3.out.below (below_alloc (RowKit.Below.refl _ _) _))
      have E6 := Aside0.mk (write_nocpu κ3 m a s1 (jr : Int) 64 0 (some ⟨w3.heap.size, 0, none⟩) 1 1 (by omega) HJV.out _ HLB.out.mach)
      have E7 := Aside0.mk (setpol_nocpu κ3 m a s1 (jr : Int) 0 0 0 HJV.out _ HLB.out.mach)
      clear hkv
      go_upto_region 15 with (go_at_call 25; (with_reducible refine E4.out.mono ?_); rintro e_ w9 ⟨rfl, hw9⟩; have hw9 := hw9.symm; subst hw9)
      clear E4 x1 y1 z1 x2 x4
      have xb := HLB.out.x0
      go_wp2_with (first
        | (go_at_call 43; (with_reducible refine E5.out.mono ?_); rintro e_ w9 ⟨rfl, hw9⟩; have hw9 := hw9.symm; subst hw9)
        | (go_at_call 23; (with_reducible refine E6.out.mono ?_); rintro e_ w9 ⟨rfl, rfl⟩)
        | (go_at_call 44; (with_reducible refine E7.out.mono ?_); rintro e_ w4 ⟨rfl, h4⟩; have HL4 := Aside0.mk (HLB.out.below h4); have x0' := (HLB.out.below h4).x0; clear h4)
        | (go_at_call 38; (with_reducible refine (HLV.out _ HL4.out).mono ?_); rintro e_ w5 ⟨A5, c5, rfl, h5⟩; have HL5 := Aside0.mk h5; clear h5)
        | (go_at_call 20; (with_reducible refine (HRD.out _ HL5.out).mono ?_); rintro e_ w6 ⟨rfl, h6⟩; have HL6 := Aside0.mk h6; clear h6))
      go_ret
      exact ⟨rfl, below_then HW0.out HW0.out.size HL6.out.bel⟩
    · have d6 : decide (k1 < 0) = false := decide_eq_false hd1
      go_upto_region 14 with fail
      clear d6
      have hkv : (kr : Int) < 0 ∨ (s1.qs.length : Int) ≤ (kr : Int) := .inr (by rw [HQL.out]; have := HJ.out.2.2.2; omega)
      have E4 := Aside0.mk (drain_nonode κ3 m a s1 (kr : Int) hkv w3 HL3.out.mach)
      have E5 := Aside0.mk (free_nocpu κ3 m a s1 (jr : Int) 64 HJV.out w3 HL3.out.mach)
      have HLB := Aside0.mk (show LawK W κ3 μ3 (w3.alloc (.cells #[.int .u8 1] 5)) b m mo (n + 1) T a s1 [⟨64, bk, List.replicate 20 0⟩] from HL3.out.below (below_alloc (RowKit.Below.refl _ _) _))
      have E6 := Aside0.mk (write_nocpu κ3 m a s1 (jr : Int) 64 0 (some ⟨w3.heap.size, 0, none⟩) 1 1 (by omega) HJV.out _ HLB.out.mach)
      have E7 := Aside0.mk (setpol_nocpu κ3 m a s1 (jr : Int) 0 0 0 HJV.out _ HLB.out.mach)
      clear hkv
      go_upto_region 15 with (go_at_call 25; (with_reducible refine E4.out.mono ?_); rintro e_ w9 ⟨rfl, hw9⟩; have hw9 := hw9.symm; subst hw9)
      clear E4 x1 y1 z1 x2 x4
      have xb := HLB.out.x0
      go_wp2_with (first
        | (go_at_call 43; (with_reducible refine E5.out.mono ?_); rintro e_ w9 ⟨rfl, hw9⟩; have hw9 := hw9.symm; subst hw9)
        | (go_at_call 23; (with_reducible refine E6.out.mono ?_); rintro e_ w9 ⟨rfl, rfl⟩)
        | (go_at_call 44; (with_reducible refine E7.out.mono ?_); rintro e_ w4 ⟨rfl, h4⟩; have HL4 := Aside0.mk (HLB.out.below h4); have x0' := (HLB.out.below h4).x0; clear h4)
        | (go_at_call 38; (with_reducible refine (HLV.out _ HL4.out).mono ?_); rintro e_ w5 ⟨A5, c5, rfl, h5⟩; have HL5 := Aside0.mk h5; clear h5)
        | (go_at_call 20; (with_reducible refine (HRD.out _ HL5.out).mono ?_); rintro e_ w6 ⟨rfl, h6⟩; have HL6 := Aside0.mk h6; clear h6))
      go_ret
      exact ⟨rfl, below_then HW0.out HW0.out.size HL6.out.bel⟩
end Go.Proofs.YtenkdmloolbdaaaGreatDoor.T
end
