/- The walk of messuagelaw27.both: rows of steps, their bytes cut. Condition: at most 1000 of them. -/
import Derived.Test.YtahagjdnjggdaaaB
import Derived.Outline
import Derived.Deep.DeepCutAuto
import Derived.Deep.DeepMust
namespace Go.Proofs.Ytahagjdnjggdaaa.T
open Go.RowKit Go.Proofs.YtahagjdnjggdaaaW.PrintWords Go.Proofs.YtahagjdnjggdaaaW.PrintLast Go.Proofs.YtahagjdnjggdaaaW.PrintMore
set_option linter.unusedVariables false
set_option linter.unusedSimpArgs false
def cut45 (x : S45) : S45 := ⟨x.f0, x.f1, x.f2, x.f3, x.f4, x.f5.take 260, ⟨x.f6.f0, x.f6.f1, x.f6.f2⟩, x.f7⟩
def to51 (x : S45) : S51 := ⟨x.f0, x.f1, x.f2, x.f3, x.f4, x.f5, ⟨x.f6.f0, x.f6.f1, x.f6.f2⟩, x.f7⟩
def messuagelaw27_both.f (_k : Nat) (l0 : List (S45)) (a1 : Int) : Option ((List (S45)) × (List (S51))) := if 0 ≤ a1 ∧ a1 ≤ 1000 then some ((l0.take a1.toNat).map cut45, ((l0.take a1.toNat).map cut45).map to51) else none
theorem messuagelaw27_both.mono : ∀ a0 a1 k, LeO (messuagelaw27_both.f k a0 a1) (messuagelaw27_both.f (k + 1) a0 a1) := fun _ _ _ _ h => h
theorem C_take260 {w : World} {A : Option Addr} {l : List Int} (h : Kd.C (Kd.int .u8) w A l.length l) : Kd.C (Kd.int .u8) w A (l.take 260).length (l.take 260) := by
  rcases Nat.lt_or_ge 260 l.length with hl | hl
  · exact Kd.C_take h (by omega)
  · rw [List.take_of_length_le hl]; exact h
def Cut7 (wr : World) (x : S45) (t5 : List Int) (W : World) : Prop :=
  ∃ A5 c5, W.heap[wr.heap.size]? = some (.cells #[.int .i64 x.f0, .int .i64 x.f1, .int .i64 x.f2, .int .i64 x.f3, .int .i64 x.f4, .slice A5 t5.length c5, .int .i64 x.f6.f0, .int .u8 x.f6.f1, .int .i64 x.f6.f2, .bool x.f7] 45 (0, 0)) ∧ Kd.R (Kd.int .u8) 5 W wr.heap.size (fun _ => True) (.slice A5 t5.length c5) t5 ∧ Below wr.heap.size wr W
theorem HI : ∃ i : TypeInfo, Try.prog.info? 5 = some i ∧ i.size = 1 := by
  obtain ⟨i, hi, _, hsz, _⟩ := info_parts info5
  exact ⟨i, hi, hsz⟩
theorem to_value (a0 a1 a2 a3 a4 : Int) (l : List Int) (a6 a7 a8 : Int) (a9 : Bool) (h : l.length ≤ 260) : messuagelaw27_to.f a0 a1 a2 a3 a4 l a6 a7 a8 a9 = some (a0, a1, a2, a3, a4, l, a6, a7, a8, a9) := by
  unfold messuagelaw27_to.f
  simp only [Option.bind_some, List.length_nil, Nat.zero_add, List.nil_append]
  rw [if_pos (by omega)]
theorem take_rd (l : List S45) (k : Nat) (h : k < l.length) : l.take (k + 1) = l.take k ++ [rd_T45 l (k : Int)] := by
  rw [List.take_add_one]
  congr 1
  simp only [rd_T45, Int.toNat_natCast]
  rw [List.getElem?_eq_getElem h]; simp [List.getElem?_eq_getElem h]
def RelB (w : World) (l0 : List S45) (m : Nat) (v6 v7 v8 : Value) (wr : World) : Prop :=
  ∃ k : Nat, v8 = .int .i64 k ∧ k ≤ l0.length ∧ k ≤ m ∧ Kd.S k45 45 wr w.heap.size (fun _ => True) v6 ((l0.take k).map cut45) ∧ Kd.S k51 51 wr w.heap.size (fun _ => True) v7 (((l0.take k).map cut45).map to51) ∧ Below w.heap.size w wr

set_option maxHeartbeats 8000000 in
set_option maxRecDepth 100000 in
theorem both_any (A0 : Option Addr) (c0 : Nat) (l0 : List (S45)) (m : Nat) (w : World) (hr0 : Kd.C k45 w A0 l0.length l0) (hc0 : l0.length ≤ c0) (hm : m ≤ 1000) :
    Calls Try.prog 7 #[.slice A0 l0.length c0, .int .i64 (m : Int)] w fun e w' => ∃ v0_ v1_ : Value, e = .returned (.tuple #[v0_, v1_]) ∧ Kd.S k45 45 w' w.heap.size (fun _ => True) v0_ ((l0.take m).map cut45) ∧ Kd.S k51 51 w' w.heap.size (fun _ => True) v1_ (((l0.take m).map cut45).map to51) ∧ Below w.heap.size w w' := by
  have H0 := Aside0.mk (show RelB w l0 m (.slice none 0 0) (.slice none 0 0) (.int .i64 0) w from ⟨0, rfl, by omega, by omega, Kd.S_nil _ _ _ _ _, Kd.S_nil _ _ _ _ _, Below.refl _ _⟩)
  have hmax : l0.length ≤ 9223372036854775807 := hr0.2.1
  have HR0 := Aside0.mk hr0
  clear hr0
  go_enter Try.func7, Try.ntmps7
  go_wp2_with fail
  go_loopw [6, 7, 8] (fun v6 v7 v8 wr => RelB w l0 m v6 v7 v8 wr) (fun _ _ v8 _ => l0.length - (intOf v8).toNat)
  case atStart => exact H0.out
  case round =>
    obtain ⟨k, rfl, hk, hkm, h6, h7, hB⟩ := hrel
    have HB := Aside0.mk hB
    have H6 := Aside0.mk h6
    have H7 := Aside0.mk h7
    clear hB h6 h7
    by_cases hlt : k < l0.length ∧ k < m
    · obtain ⟨hlt, hltm⟩ := hlt
      have hk0 : (0 : Int) ≤ (k : Int) := by omega
      have hk1 : (k : Int) < (l0.length : Int) := by omega
      have hk1b : decide ((k : Int) < (l0.length : Int)) = true := decide_eq_true hk1
      have hk2 : (k : Int) < (m : Int) := by omega
      have hk2b : decide ((k : Int) < (m : Int)) = true := decide_eq_true hk2
      obtain ⟨ad0, Ax, cx, rfl, p0, p1, p2, p3, p4, p5, p6, p7, p8, p9, lx, gx⟩ := at_T45 (Kd.C_below HR0.out HB.out) (k : Int) hk0 hk1
      obtain ⟨x, hx⟩ : ∃ x, rd_T45 l0 (k : Int) = x := ⟨_, rfl⟩
      rw [hx] at p0 p1 p2 p3 p4 p5 p6 p7 p8 p9 lx gx
      simp only [Int.toNat_natCast] at p0 p1 p2 p3 p4 p5 p6 p7 p8 p9
      have hbp := World.block_lt_of_cell? wr _ p0
      obtain ⟨t5, ht5⟩ : ∃ t, x.f5.take 260 = t := ⟨_, rfl⟩
      have ht5l : t5.length ≤ 260 := by rw [← ht5]; exact List.length_take_le _ _
      have HT5 := Aside0.mk ht5
      clear ht5
      have HX := Aside0.mk hx
      have HGX := Aside0.mk gx
      clear hx gx
      go_upto_region 7 with (fail)
      go_cut [] (fun W => Cut7 wr x t5 W)
      case first =>
        have hw1 : (wr.alloc (.cells #[.int .i64 x.f0, .int .i64 x.f1, .int .i64 x.f2, .int .i64 x.f3, .int .i64 x.f4, .slice Ax x.f5.length cx, .int .i64 x.f6.f0, .int .u8 x.f6.f1, .int .i64 x.f6.f2, .bool x.f7] 45)).heap[wr.heap.size]? = some (.cells #[.int .i64 x.f0, .int .i64 x.f1, .int .i64 x.f2, .int .i64 x.f3, .int .i64 x.f4, .slice Ax x.f5.length cx, .int .i64 x.f6.f0, .int .u8 x.f6.f1, .int .i64 x.f6.f2, .bool x.f7] 45 (0, 0)) := blk_new wr _
        have HW1 := Aside0.mk hw1
        clear hw1
        clear p0 p1 p2 p3 p4 p6 p7 p8 p9
        by_cases h260 : (260 : Int) < (x.f5.length : Int)
        · have ks := (print_take_of (P := Try.prog) (Value.int .u8) 0 26 5 .i64 Try.underlying26 HI.choose_spec.1 HI.choose_spec.2 Ax cx x.f5 260 (by omega) (by omega) lx).1
          have hlt : (x.f5.take (260 : Int).toNat).length = t5.length := by rw [← HT5.out]; rfl
          simp only [hlt] at ks
          clear hlt
          go_wp2_with (first | ((with_reducible refine gate_dst (N := 25) rfl ?_); refine Kd.R_lit (Kd.int .u8) (w0 := wr) wr.heap.size 5 ?hg (N := 25) ?hd (xs := ([] : List Int)) (inner := []) (ok := fun _ => True) (okp := fun _ => True) ?hr ?hp (fun _ hk => hk) trivial (below_alloc (Below.refl _ _) _) (by simp) (by simp) ?_; (case hd => rfl); (case hg => rfl); (case hr => first | (go_simp; done) | (go_simp; rfl)); (case hp => exact (Reps.none _ _)); intro v25 w3 ho hb hgr hnew_; have HO := Aside0.mk ho; have HB3 := Aside0.mk hb; have HW3 := Aside0.mk (blk_grown HW1.out hgr (by simp)); have e5 : w3.cell? ⟨wr.heap.size, 5, none⟩ = some (.slice Ax x.f5.length cx) := (blk_cell HW3.out 5).trans rfl; clear ho hb hgr hnew_) | ((with_reducible refine gate_builtin (b := .append) (xs := #[.tmp 25, .tmp 32]) rfl ?_); at_builtin; go_must (refine Kd.R_append_rows (Kd.int .u8) (w0 := wr) wr.heap.size rfl (.tmp 25) (.tmp 32) 26 5 (.int .u8 0) 1 rfl Try.underlying26 info5 rfl (by decide) (by omega) v25 [] t5 _ _ _ (fun _ => True) (fun _ => False) rfl rfl ?aO ?aR (fun _ _ h => h) (fun _ h => h.elim) ?aF ?aB ?aS ?aL ?_); (case aR => (rw [← HT5.out]; exact C_take260 (Kd.C_below HGX.out HB3.out))); (case aB => exact HB3.out); (case aF => exact (fun _ _ => trivial)); (case aO => exact HO.out); (case aS => exact HB3.out.size); (case aL => (simp only [List.length_nil]; omega)); intro v33 w5 ho hb hgr hat; obtain ⟨A5, c5, rfl⟩ := Kd.R_slice ho; have HO5 := Aside0.mk ho; have HB5 := Aside0.mk hb; have HW5 := Aside0.mk (blk_grown HW3.out hgr (Kd.R_ne HO.out HW3.out (by decide))); have f5 : w5.cell? ⟨wr.heap.size, 5, none⟩ = some (.slice Ax x.f5.length cx) := (blk_cell HW5.out 5).trans rfl; have g5 := blk_frozen HW5.out 5; clear ho hb hgr hat))
          go_meet
          refine ⟨A5, c5, ?_, ?_, ?_⟩
          · rw [hs_same, HW5.out]; rfl
          · exact Kd.R_set HO5.out HW5.out (by decide) 5 _
          · exact below_set HB5.out (Nat.le_refl _)
        · have ks := (print_take_of (P := Try.prog) (Value.int .u8) 0 26 5 .i64 Try.underlying26 HI.choose_spec.1 HI.choose_spec.2 Ax cx x.f5 (x.f5.length : Int) (by omega) (by omega) lx).1
          have hlt : (x.f5.take ((x.f5.length : Nat) : Int).toNat).length = t5.length := by rw [← HT5.out]; simp; omega
          simp only [hlt] at ks
          clear hlt
          go_wp2_with (first | ((with_reducible refine gate_dst (N := 25) rfl ?_); refine Kd.R_lit (Kd.int .u8) (w0 := wr) wr.heap.size 5 ?hg (N := 25) ?hd (xs := ([] : List Int)) (inner := []) (ok := fun _ => True) (okp := fun _ => True) ?hr ?hp (fun _ hk => hk) trivial (below_alloc (Below.refl _ _) _) (by simp) (by simp) ?_; (case hd => rfl); (case hg => rfl); (case hr => first | (go_simp; done) | (go_simp; rfl)); (case hp => exact (Reps.none _ _)); intro v25 w3 ho hb hgr hnew_; have HO := Aside0.mk ho; have HB3 := Aside0.mk hb; have HW3 := Aside0.mk (blk_grown HW1.out hgr (by simp)); have e5 : w3.cell? ⟨wr.heap.size, 5, none⟩ = some (.slice Ax x.f5.length cx) := (blk_cell HW3.out 5).trans rfl; clear ho hb hgr hnew_) | ((with_reducible refine gate_builtin (b := .append) (xs := #[.tmp 25, .tmp 32]) rfl ?_); at_builtin; go_must (refine Kd.R_append_rows (Kd.int .u8) (w0 := wr) wr.heap.size rfl (.tmp 25) (.tmp 32) 26 5 (.int .u8 0) 1 rfl Try.underlying26 info5 rfl (by decide) (by omega) v25 [] t5 _ _ _ (fun _ => True) (fun _ => False) rfl rfl ?aO ?aR (fun _ _ h => h) (fun _ h => h.elim) ?aF ?aB ?aS ?aL ?_); (case aR => (rw [← HT5.out]; exact C_take260 (Kd.C_below HGX.out HB3.out))); (case aB => exact HB3.out); (case aF => exact (fun _ _ => trivial)); (case aO => exact HO.out); (case aS => exact HB3.out.size); (case aL => (simp only [List.length_nil]; omega)); intro v33 w5 ho hb hgr hat; obtain ⟨A5, c5, rfl⟩ := Kd.R_slice ho; have HO5 := Aside0.mk ho; have HB5 := Aside0.mk hb; have HW5 := Aside0.mk (blk_grown HW3.out hgr (Kd.R_ne HO.out HW3.out (by decide))); have f5 : w5.cell? ⟨wr.heap.size, 5, none⟩ = some (.slice Ax x.f5.length cx) := (blk_cell HW5.out 5).trans rfl; have g5 := blk_frozen HW5.out 5; clear ho hb hgr hat))
          go_meet
          refine ⟨A5, c5, ?_, ?_, ?_⟩
          · rw [hs_same, HW5.out]; rfl
          · exact Kd.R_set HO5.out HW5.out (by decide) 5 _
          · exact below_set HB5.out (Nat.le_refl _)
      case rest =>
        obtain ⟨A5, c5, hw, hr5, hb7⟩ := hcut
        have e0 : wc.cell? ⟨wr.heap.size, 0, none⟩ = some (.int .i64 x.f0) := (blk_cell hw 0).trans rfl
        have e1 : wc.cell? ⟨wr.heap.size, 1, none⟩ = some (.int .i64 x.f1) := (blk_cell hw 1).trans rfl
        have e2 : wc.cell? ⟨wr.heap.size, 2, none⟩ = some (.int .i64 x.f2) := (blk_cell hw 2).trans rfl
        have e3 : wc.cell? ⟨wr.heap.size, 3, none⟩ = some (.int .i64 x.f3) := (blk_cell hw 3).trans rfl
        have e4 : wc.cell? ⟨wr.heap.size, 4, none⟩ = some (.int .i64 x.f4) := (blk_cell hw 4).trans rfl
        have e5 : wc.cell? ⟨wr.heap.size, 5, none⟩ = some (.slice A5 t5.length c5) := (blk_cell hw 5).trans rfl
        have e6 : wc.cell? ⟨wr.heap.size, 6, none⟩ = some (.int .i64 x.f6.f0) := (blk_cell hw 6).trans rfl
        have e7 : wc.cell? ⟨wr.heap.size, 7, none⟩ = some (.int .u8 x.f6.f1) := (blk_cell hw 7).trans rfl
        have e8 : wc.cell? ⟨wr.heap.size, 8, none⟩ = some (.int .i64 x.f6.f2) := (blk_cell hw 8).trans rfl
        have e9 : wc.cell? ⟨wr.heap.size, 9, none⟩ = some (.bool x.f7) := (blk_cell hw 9).trans rfl
        have HW := Aside0.mk hw
        have HR5 := Aside0.mk hr5
        have HB7 := Aside0.mk hb7
        have HBC := Aside0.mk (below_then HB.out HB.out.size hb7)
        have HTO := Aside0.mk (to_value x.f0 x.f1 x.f2 x.f3 x.f4 t5 x.f6.f0 x.f6.f1 x.f6.f2 x.f7 ht5l)
        clear hw hr5 hb7 p0 p1 p2 p3 p4 p5 p6 p7 p8 p9
        go_upto_region 8 with (fail)
        refine start_ (n := 11) (S := fun w' => w'.cell? ⟨wr.heap.size, 0, none⟩ = some (.int .i64 x.f0) ∧ w'.cell? ⟨wr.heap.size, 1, none⟩ = some (.int .i64 x.f1) ∧ w'.cell? ⟨wr.heap.size, 2, none⟩ = some (.int .i64 x.f2) ∧ w'.cell? ⟨wr.heap.size, 3, none⟩ = some (.int .i64 x.f3) ∧ w'.cell? ⟨wr.heap.size, 4, none⟩ = some (.int .i64 x.f4) ∧ w'.cell? ⟨wr.heap.size, 5, none⟩ = some (.slice A5 t5.length c5) ∧ w'.cell? ⟨wr.heap.size, 6, none⟩ = some (.int .i64 x.f6.f0) ∧ w'.cell? ⟨wr.heap.size, 7, none⟩ = some (.int .u8 x.f6.f1) ∧ w'.cell? ⟨wr.heap.size, 8, none⟩ = some (.int .i64 x.f6.f2) ∧ w'.cell? ⟨wr.heap.size, 9, none⟩ = some (.bool x.f7)) (ds := []) #[false, false, false, false, false, false, false, false, false, false, false] (by kernel_rfl) rfl rfl ⟨e0, e1, e2, e3, e4, e5, e6, e7, e8, e9⟩ (fun hHeld => ?_)
        have n1 := Aside0.mk (below_then HB7.out HB7.out.size (below_drew (Below.refl wc.heap.size wc)))
        have n2 := Aside0.mk (blk_drew HW.out)
        have n3 := Aside0.mk (Kd.R_below HR5.out (below_drew (Below.refl wc.heap.size wc)))
        have n4 := Aside0.mk (below_then HBC.out HBC.out.size (below_drew (Below.refl wc.heap.size wc)))
        have d0 : wc.drew.cell? ⟨wr.heap.size, 0, none⟩ = some (.int .i64 x.f0) := e0
        have d1 : wc.drew.cell? ⟨wr.heap.size, 1, none⟩ = some (.int .i64 x.f1) := e1
        have d2 : wc.drew.cell? ⟨wr.heap.size, 2, none⟩ = some (.int .i64 x.f2) := e2
        have d3 : wc.drew.cell? ⟨wr.heap.size, 3, none⟩ = some (.int .i64 x.f3) := e3
        have d4 : wc.drew.cell? ⟨wr.heap.size, 4, none⟩ = some (.int .i64 x.f4) := e4
        have d5 : wc.drew.cell? ⟨wr.heap.size, 5, none⟩ = some (.slice A5 t5.length c5) := e5
        have d6 : wc.drew.cell? ⟨wr.heap.size, 6, none⟩ = some (.int .i64 x.f6.f0) := e6
        have d7 : wc.drew.cell? ⟨wr.heap.size, 7, none⟩ = some (.int .u8 x.f6.f1) := e7
        have d8 : wc.drew.cell? ⟨wr.heap.size, 8, none⟩ = some (.int .i64 x.f6.f2) := e8
        have d9 : wc.drew.cell? ⟨wr.heap.size, 9, none⟩ = some (.bool x.f7) := e9
        clear HB7 HW HR5 HBC e0 e1 e2 e3 e4 e5 e6 e7 e8 e9
        generalize wc.drew = wd at *
        have HB7 := n1
        have HW := n2
        have HR5 := n3
        have HBC := n4
        clear n1 n2 n3 n4
        have e0 := d0
        have e1 := d1
        have e2 := d2
        have e3 := d3
        have e4 := d4
        have e5 := d5
        have e6 := d6
        have e7 := d7
        have e8 := d8
        have e9 := d9
        clear d0 d1 d2 d3 d4 d5 d6 d7 d8 d9
        refine pure_ (i := 0) (N := some 35) (v := ?_) (a' := ?_) #[true, false, false, false, false, false, false, false, false, false, false] rfl rfl (by kernel_rfl) (fun _ _ _ h => h) (Or.inl ⟨by rfl, ?_⟩) ?_ ?_
        rotate_left
        · intro w'
          go_simp
          with_reducible rfl
        rotate_left
        · simp only [Act.put, List.setIfInBounds_toArray, List.set_cons_zero, List.set_cons_succ, i64_w, i32_w]
          rfl
        refine pure_ (i := 4) (N := some 39) (v := ?_) (a' := ?_) #[true, false, false, false, true, false, false, false, false, false, false] rfl rfl (by kernel_rfl) (fun _ _ _ h => h) (Or.inl ⟨by rfl, ?_⟩) ?_ ?_
        rotate_left
        · intro w'
          go_simp
          with_reducible rfl
        rotate_left
        · simp only [Act.put, List.setIfInBounds_toArray, List.set_cons_zero, List.set_cons_succ, i64_w, i32_w]
          rfl
        refine take_ (i := 1) (N := some 36) (v := ?_) (a' := ?_) #[true, true, false, false, true, false, false, false, false, false, false] rfl rfl (by kernel_rfl) (fun _ _ _ h => h) (Or.inl ⟨by rfl, ?_⟩) hHeld ?_ ?_
        rotate_left
        · rintro w' ⟨s0, s1, s2, s3, s4, s5, s6, s7, s8, s9⟩
          go_simp
          with_reducible rfl
        rotate_left
        · simp only [Act.put, List.setIfInBounds_toArray, List.set_cons_zero, List.set_cons_succ, i64_w, i32_w]
          rfl
        refine take_ (i := 5) (N := some 40) (v := ?_) (a' := ?_) #[true, true, false, false, true, true, false, false, false, false, false] rfl rfl (by kernel_rfl) (fun _ _ _ h => h) (Or.inl ⟨by rfl, ?_⟩) hHeld ?_ ?_
        rotate_left
        · rintro w' ⟨s0, s1, s2, s3, s4, s5, s6, s7, s8, s9⟩
          go_simp
          with_reducible rfl
        rotate_left
        · simp only [Act.put, List.setIfInBounds_toArray, List.set_cons_zero, List.set_cons_succ, i64_w, i32_w]
          rfl
        refine one_ (i := 2) (N := some 37) #[true, true, true, false, true, true, false, false, false, false, false] rfl rfl (by kernel_rfl) (by decide) (fun K hK => ?_)
        refine value_ (w1 := ?_) (v := ?_) (by rfl) rfl ?_ ?_
        rotate_left 2
        · go_simp
          constructor
          · rfl
          · rfl
        refine hK.out _ _ ⟨(pw_cell_below (w := wd) (below_alloc (Below.refl wd.heap.size wd) _) e0), (pw_cell_below (w := wd) (below_alloc (Below.refl wd.heap.size wd) _) e1), (pw_cell_below (w := wd) (below_alloc (Below.refl wd.heap.size wd) _) e2), (pw_cell_below (w := wd) (below_alloc (Below.refl wd.heap.size wd) _) e3), (pw_cell_below (w := wd) (below_alloc (Below.refl wd.heap.size wd) _) e4), (pw_cell_below (w := wd) (below_alloc (Below.refl wd.heap.size wd) _) e5), (pw_cell_below (w := wd) (below_alloc (Below.refl wd.heap.size wd) _) e6), (pw_cell_below (w := wd) (below_alloc (Below.refl wd.heap.size wd) _) e7), (pw_cell_below (w := wd) (below_alloc (Below.refl wd.heap.size wd) _) e8), (pw_cell_below (w := wd) (below_alloc (Below.refl wd.heap.size wd) _) e9)⟩ (fun hHeld => ?_)
        clear hK K
        refine norm_ (a' := ?_) ?_ ?_
        rotate_left
        · show Act.put _ (some 37) _ = _
          simp only [Act.put, List.setIfInBounds_toArray, List.set_cons_zero, List.set_cons_succ, i64_w, i32_w]
          rfl
        refine one_ (i := 3) (N := some 38) #[true, true, true, true, true, true, false, false, false, false, false] rfl rfl (by kernel_rfl) (by decide) (fun K hK => ?_)
        refine Kd.S_append_step k45 (w0 := w) w.heap.size ?aW (.tmp 35) (.tmp 37) 22 45 (.agg #[(.int .i64 0), (.int .i64 0), (.int .i64 0), (.int .i64 0), (.int .i64 0), (.slice none 0 0), (.int .i64 0), (.int .u8 0), (.int .i64 0), (.bool false)]) 96 rfl Try.underlying22 info45 rfl (by decide) (by omega) u6 ((l0.take k).map cut45) (⟨x.f0, x.f1, x.f2, x.f3, x.f4, t5, ⟨x.f6.f0, x.f6.f1, x.f6.f2⟩, x.f7⟩ : S45) [.int .i64 x.f0, .int .i64 x.f1, .int .i64 x.f2, .int .i64 x.f3, .int .i64 x.f4, .slice A5 t5.length c5, .int .i64 x.f6.f0, .int .u8 x.f6.f1, .int .i64 x.f6.f2, .bool x.f7] (fun _ => True) (fun k => wr.heap.size ≤ k) ?s1 ?s2 ?aP ?aK ?aF ?aO ?aB ?aS ?aL ?_
        case aW => rfl
        case s1 => rfl
        case s2 => rfl
        case aP => exact k45_mkM _ _ _ (⟨x.f0, x.f1, x.f2, x.f3, x.f4, t5, ⟨x.f6.f0, x.f6.f1, x.f6.f2⟩, x.f7⟩ : S45) (Kd.R_lower (Kd.R_mono (Kd.R_bound HR5.out) (fun _ hk => hk.2.1)) HB.out.size)
        case aK => exact fun k hk => ⟨trivial, fun e => by have := Kd.S_lt H6.out k e.symm; omega⟩
        case aF => exact fun _ _ => trivial
        case aO => exact Kd.S_mono (Kd.S_below (Kd.S_bound H6.out) HB7.out) (fun k hk => ⟨trivial, fun e => by have := hk.2.2.1; omega⟩)
        case aB => exact HBC.out
        case aS => exact HBC.out.size
        case aL => (rw [List.length_map, List.length_take]; omega)
        intro v38 w3 ho hb hgr hat
        have HO6 := Aside0.mk ho
        have HB3 := Aside0.mk hb
        have HW3 := Aside0.mk (blk_grown HW.out hgr (fun e => by have := Kd.S_lt H6.out _ e.symm; omega))
        have HO7 := Aside0.mk (Kd.S_over' (v := u6) (Kd.S_below H7.out HB7.out) (fun k hk => by obtain ⟨cells, hc⟩ := Kd.S_typed H6.out k hk; exact ⟨cells, blk_below hc HB7.out⟩) (by decide) hgr)
        have HSZ3 := Aside0.mk hgr.size
        have HR53 := Aside0.mk (Kd.R_mono (ok' := fun _ => True) (Kd.R_grown (Kd.R_bound HR5.out) hgr (fun k hk e => by have := Kd.S_lt H6.out k e.symm; have := hk.2.1; omega)) (fun _ _ => trivial))
        clear ho hb hgr hat
        refine hK.out _ _ ⟨((blk_cell HW3.out 0).trans rfl), ((blk_cell HW3.out 1).trans rfl), ((blk_cell HW3.out 2).trans rfl), ((blk_cell HW3.out 3).trans rfl), ((blk_cell HW3.out 4).trans rfl), ((blk_cell HW3.out 5).trans rfl), ((blk_cell HW3.out 6).trans rfl), ((blk_cell HW3.out 7).trans rfl), ((blk_cell HW3.out 8).trans rfl), ((blk_cell HW3.out 9).trans rfl)⟩ (fun hHeld => ?_)
        clear hK K
        refine norm_ (a' := ?_) ?_ ?_
        rotate_left
        · show Act.put _ (some 38) _ = _
          simp only [Act.put, List.setIfInBounds_toArray, List.set_cons_zero, List.set_cons_succ, i64_w, i32_w]
          rfl
        refine one_ (i := 6) (N := some 41) #[true, true, true, true, true, true, true, false, false, false, false] rfl rfl (by kernel_rfl) (by decide) (fun K hK => ?_)
        skip
        refine goes_ Try.func15 (by kernel_rfl) rfl #[.agg #[.int .i64 x.f0, .int .i64 x.f1, .int .i64 x.f2, .int .i64 x.f3, .int .i64 x.f4, .slice A5 t5.length c5, .int .i64 x.f6.f0, .int .u8 x.f6.f1, .int .i64 x.f6.f2, .bool x.f7]] (by rfl) rfl rfl (by simp only [List.map_toArray, List.map_cons, List.map_nil]; rfl) ?_
        with_reducible refine (messuagelaw27_to.calls _ _ _ _ _ A5 c5 t5 _ _ _ _ _ _ _ _ _ _ _ _ _ _ _ (Kd.R_reads' HR53.out).2.2 (Kd.R_reads' HR53.out).2.1 HTO.out).mono ?_
        rintro e w4 ⟨v5b, rfl, hR5b, hb4⟩
        refine ⟨_, rfl, ?_⟩
        obtain ⟨A5b, c5b, rfl⟩ := Kd.R_slice hR5b
        have HR5b := Aside0.mk hR5b
        have HB4 := Aside0.mk hb4
        clear hR5b hb4
        refine hK.out _ _ ⟨((blk_cell (blk_below HW3.out HB4.out) 0).trans rfl), ((blk_cell (blk_below HW3.out HB4.out) 1).trans rfl), ((blk_cell (blk_below HW3.out HB4.out) 2).trans rfl), ((blk_cell (blk_below HW3.out HB4.out) 3).trans rfl), ((blk_cell (blk_below HW3.out HB4.out) 4).trans rfl), ((blk_cell (blk_below HW3.out HB4.out) 5).trans rfl), ((blk_cell (blk_below HW3.out HB4.out) 6).trans rfl), ((blk_cell (blk_below HW3.out HB4.out) 7).trans rfl), ((blk_cell (blk_below HW3.out HB4.out) 8).trans rfl), ((blk_cell (blk_below HW3.out HB4.out) 9).trans rfl)⟩ (fun hHeld => ?_)
        clear hK K
        refine norm_ (a' := ?_) ?_ ?_
        rotate_left
        · show Act.put _ (some 41) _ = _
          simp only [Act.put, List.setIfInBounds_toArray, List.set_cons_zero, List.set_cons_succ, i64_w, i32_w]
          rfl
        refine one_ (i := 7) (N := some 42) #[true, true, true, true, true, true, true, true, false, false, false] rfl rfl (by kernel_rfl) (by decide) (fun K hK => ?_)
        refine value_ (w1 := ?_) (v := ?_) (by rfl) rfl ?_ ?_
        rotate_left 2
        · go_simp
          constructor
          · rfl
          · rfl
        refine hK.out _ _ ⟨((blk_cell (blk_alloc (blk_below HW3.out HB4.out) _) 0).trans rfl), ((blk_cell (blk_alloc (blk_below HW3.out HB4.out) _) 1).trans rfl), ((blk_cell (blk_alloc (blk_below HW3.out HB4.out) _) 2).trans rfl), ((blk_cell (blk_alloc (blk_below HW3.out HB4.out) _) 3).trans rfl), ((blk_cell (blk_alloc (blk_below HW3.out HB4.out) _) 4).trans rfl), ((blk_cell (blk_alloc (blk_below HW3.out HB4.out) _) 5).trans rfl), ((blk_cell (blk_alloc (blk_below HW3.out HB4.out) _) 6).trans rfl), ((blk_cell (blk_alloc (blk_below HW3.out HB4.out) _) 7).trans rfl), ((blk_cell (blk_alloc (blk_below HW3.out HB4.out) _) 8).trans rfl), ((blk_cell (blk_alloc (blk_below HW3.out HB4.out) _) 9).trans rfl)⟩ (fun hHeld => ?_)
        clear hK K
        refine norm_ (a' := ?_) ?_ ?_
        rotate_left
        · show Act.put _ (some 42) _ = _
          simp only [Act.put, List.setIfInBounds_toArray, List.set_cons_zero, List.set_cons_succ, i64_w, i32_w]
          rfl
        refine one_ (i := 8) (N := some 43) #[true, true, true, true, true, true, true, true, true, false, false] rfl rfl (by kernel_rfl) (by decide) (fun K hK => ?_)
        refine Kd.S_append_step k51 (w0 := w) w.heap.size ?aW (.tmp 39) (.tmp 42) 23 51 (.agg #[(.int .i64 0), (.int .i64 0), (.int .i64 0), (.int .i64 0), (.int .i64 0), (.slice none 0 0), (.int .i64 0), (.int .u8 0), (.int .i64 0), (.bool false)]) 96 rfl Try.underlying23 info51 rfl (by decide) (by omega) u7 (((l0.take k).map cut45).map to51) (⟨x.f0, x.f1, x.f2, x.f3, x.f4, t5, ⟨x.f6.f0, x.f6.f1, x.f6.f2⟩, x.f7⟩ : S51) [.int .i64 x.f0, .int .i64 x.f1, .int .i64 x.f2, .int .i64 x.f3, .int .i64 x.f4, .slice A5b t5.length c5b, .int .i64 x.f6.f0, .int .u8 x.f6.f1, .int .i64 x.f6.f2, .bool x.f7] (fun _ => True) (fun k => w3.heap.size ≤ k) ?s1 ?s2 ?aP ?aK ?aF ?aO ?aB ?aS ?aL ?_
        case aW => rfl
        case s1 => rfl
        case s2 => rfl
        case aP => exact k51_mkM _ _ _ (⟨x.f0, x.f1, x.f2, x.f3, x.f4, t5, ⟨x.f6.f0, x.f6.f1, x.f6.f2⟩, x.f7⟩ : S51) (Kd.R_lower (Kd.R_mono (Kd.R_bound HR5b.out) (fun _ hk => hk.2.1)) HB3.out.size)
        case aK => exact fun k hk => ⟨trivial, fun e => by have := Kd.S_lt HO7.out k e.symm; omega⟩
        case aF => exact fun _ _ => trivial
        case aO => exact Kd.S_mono (Kd.S_below (Kd.S_bound HO7.out) HB4.out) (fun k hk => ⟨trivial, fun e => by have := hk.2.2.1; omega⟩)
        case aB => exact below_then HB3.out HB3.out.size HB4.out
        case aS => exact (below_then HB3.out HB3.out.size HB4.out).size
        case aL => (rw [List.length_map, List.length_map, List.length_take]; omega)
        intro v43 w5 ho hb hgr hat
        have HO7b := Aside0.mk ho
        have HB5 := Aside0.mk hb
        have HO6b := Aside0.mk (Kd.S_over' (v := u7) (Kd.S_below HO6.out HB4.out) (fun k hk => by obtain ⟨cells, hc⟩ := Kd.S_typed HO7.out k hk; exact ⟨cells, blk_below hc HB4.out⟩) (by decide) hgr)
        have HW5 := Aside0.mk (blk_grown (blk_below HW3.out HB4.out) hgr (fun e => by have := Kd.S_lt H7.out _ e.symm; omega))
        clear ho hb hgr hat
        refine hK.out _ _ ⟨((blk_cell HW5.out 0).trans rfl), ((blk_cell HW5.out 1).trans rfl), ((blk_cell HW5.out 2).trans rfl), ((blk_cell HW5.out 3).trans rfl), ((blk_cell HW5.out 4).trans rfl), ((blk_cell HW5.out 5).trans rfl), ((blk_cell HW5.out 6).trans rfl), ((blk_cell HW5.out 7).trans rfl), ((blk_cell HW5.out 8).trans rfl), ((blk_cell HW5.out 9).trans rfl)⟩ (fun hHeld => ?_)
        clear hK K
        refine norm_ (a' := ?_) ?_ ?_
        rotate_left
        · show Act.put _ (some 43) _ = _
          simp only [Act.put, List.setIfInBounds_toArray, List.set_cons_zero, List.set_cons_succ, i64_w, i32_w]
          rfl
        refine pure_ (i := 9) (N := some 6) (v := ?_) (a' := ?_) #[true, true, true, true, true, true, true, true, true, true, false] rfl rfl (by kernel_rfl) (fun _ _ _ h => h) (Or.inl ⟨by rfl, ?_⟩) ?_ ?_
        rotate_left
        · intro w'
          go_simp
          with_reducible rfl
        rotate_left
        · simp only [Act.put, List.setIfInBounds_toArray, List.set_cons_zero, List.set_cons_succ, i64_w, i32_w]
          rfl
        refine pure_ (i := 10) (N := some 7) (v := ?_) (a' := ?_) #[true, true, true, true, true, true, true, true, true, true, true] rfl rfl (by kernel_rfl) (fun _ _ _ h => h) (Or.inl ⟨by rfl, ?_⟩) ?_ ?_
        rotate_left
        · intro w'
          go_simp
          with_reducible rfl
        rotate_left
        · simp only [Act.put, List.setIfInBounds_toArray, List.set_cons_zero, List.set_cons_succ, i64_w, i32_w]
          rfl
        refine done_ (by kernel_rfl) ?_
        go_wp2_with fail
        go_roundw
        case rel =>
          have e1 : (l0.take (k + 1)).map cut45 = (l0.take k).map cut45 ++ [(⟨x.f0, x.f1, x.f2, x.f3, x.f4, t5, ⟨x.f6.f0, x.f6.f1, x.f6.f2⟩, x.f7⟩ : S45)] := by
            rw [take_rd l0 k hlt, List.map_append, HX.out]
            simp only [List.map_cons, List.map_nil, cut45, HT5.out]
          refine ⟨k + 1, by go_num, by omega, by omega, ?_, ?_, HB5.out⟩
          · rw [e1]; exact HO6b.out
          · rw [e1, List.map_append]; exact HO7b.out
        case measure => simp [intOf]; omega
    · have hfin : k = l0.length ∨ k = m := by omega
      have e1 : l0.take k = l0.take m := by
        rcases hfin with h | h
        · rw [h, List.take_of_length_le (Nat.le_refl _), List.take_of_length_le (by omega)]
        · rw [h]
      rw [e1] at H6 H7
      have hn : (((k : Int) < (l0.length : Int)) → ¬ (k : Int) < (m : Int)) := by omega
      by_cases hl : (k : Int) < (l0.length : Int)
      · have hm2 : ¬ (k : Int) < (m : Int) := hn hl
        have hm2b : decide ((k : Int) < (m : Int)) = false := decide_eq_false hm2
        have hlb : decide ((k : Int) < (l0.length : Int)) = true := decide_eq_true hl
        go_wp2_with fail
        go_ret2
        exact ⟨_, _, rfl, by (try simp only [← List.map_take, ← List.map_map]); exact H6.out, by (try simp only [← List.map_take, ← List.map_map]); exact H7.out, HB.out⟩
      · have hlb : decide ((k : Int) < (l0.length : Int)) = false := decide_eq_false hl
        go_wp2_with fail
        go_ret2
        exact ⟨_, _, rfl, by (try simp only [← List.map_take, ← List.map_map]); exact H6.out, by (try simp only [← List.map_take, ← List.map_map]); exact H7.out, HB.out⟩
theorem messuagelaw27_both.calls (k : Nat) (A0 : Option Addr) (c0 : Nat) (l0 : List (S45)) (a1 : Int) (r1 : List (S45)) (r2 : List (S51)) (w : World) (hr0 : Kd.C k45 w A0 l0.length l0) (hc0 : l0.length ≤ c0) (h : messuagelaw27_both.f k l0 a1 = some (r1, r2)) :
    Calls Try.prog 7 #[.slice A0 l0.length c0, .int .i64 a1] w fun e w' => ∃ v0_ v1_ : Value, e = .returned (.tuple #[v0_, v1_]) ∧ Kd.S k45 45 w' w.heap.size (fun _ => True) v0_ r1 ∧ Kd.S k51 51 w' w.heap.size (fun _ => True) v1_ r2 ∧ Below w.heap.size w w' := by
  unfold messuagelaw27_both.f at h
  split at h
  · rename_i hm
    obtain ⟨rfl, rfl⟩ := Prod.mk.inj (Option.some.inj h)
    obtain ⟨m, rfl⟩ := Int.eq_ofNat_of_zero_le hm.1
    exact both_any A0 c0 l0 m w hr0 hc0 (by omega)
  · cases h
end Go.Proofs.Ytahagjdnjggdaaa.T
