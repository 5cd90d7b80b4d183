/- topo.table: what it comes to. Grids turned, and held against each other. -/
import Derived.Test.YtenkdmloolbdaaaGreatDoorV28
section
namespace Go.Proofs.YtenkdmloolbdaaaGreatDoor.TZ
open Go.RowKit Go.Proofs.YtenkdmloolbdaaaGreatDoorW.PrintWords Go.Proofs.YtenkdmloolbdaaaGreatDoorW.PrintLast Go.Proofs.YtenkdmloolbdaaaGreatDoorW.PrintMore Go.Proofs.YtenkdmloolbdaaaGreatDoor.PH
set_option linter.unusedVariables false
set_option linter.unusedSimpArgs false
def Box (w : World) (b : Nat) (n f : Int) (A : Option Addr) (la ca : Nat) (B : Option Addr) (lb cb : Nat) : Prop :=
  w.heap[b]? = some (.cells #[.int .i64 n, .int .i64 f, .slice A la ca, .slice B lb cb] 37 (0, 0))
section
variable {w w' : World} {b : Nat} {n f : Int} {A B : Option Addr} {la ca lb cb : Nat}
theorem Box.c0 (h : Box w b n f A la ca B lb cb) : w.cell? ⟨b, 0, none⟩ = some (.int .i64 n) := by simp only [World.cell?]; rw [show w.heap[b]? = _ from h]; rfl
theorem Box.c1 (h : Box w b n f A la ca B lb cb) : w.cell? ⟨b, 1, none⟩ = some (.int .i64 f) := by simp only [World.cell?]; rw [show w.heap[b]? = _ from h]; rfl
theorem Box.c2 (h : Box w b n f A la ca B lb cb) : w.cell? ⟨b, 2, none⟩ = some (.slice A la ca) := by simp only [World.cell?]; rw [show w.heap[b]? = _ from h]; rfl
theorem Box.c3 (h : Box w b n f A la ca B lb cb) : w.cell? ⟨b, 3, none⟩ = some (.slice B lb cb) := by simp only [World.cell?]; rw [show w.heap[b]? = _ from h]; rfl
theorem Box.below (h : Box w b n f A la ca B lb cb) (hb : Below w.heap.size w w') : Box w' b n f A la ca B lb cb := (hb.block b (Array.getElem?_eq_some_iff.1 (show w.heap[b]? = _ from h)).1).trans h
theorem Box.belowAt {B0 : Nat} (h : Box w b n f A la ca B lb cb) (hb : Below B0 w w') (hlt : b < B0) : Box w' b n f A la ca B lb cb := (hb.block b hlt).trans h
theorem Box.new (w : World) (n f : Int) (A : Option Addr) (la ca : Nat) (B : Option Addr) (lb cb : Nat) : Box (w.alloc (.cells #[.int .i64 n, .int .i64 f, .slice A la ca, .slice B lb cb] 37)) w.heap.size n f A la ca B lb cb := heap_alloc_new _ _
end
/-- The distances, so far. -/
def pt (n : Nat) (dist : List (List Int)) (p : Nat) : List Int := (List.range (n * n)).map fun q => if q < p then dd dist (q / n) (q % n) else 0
theorem pt_zero (n : Nat) (dist : List (List Int)) : pt n dist 0 = List.replicate (n * n) 0 := by
  unfold pt
  apply List.ext_getElem
  · simp
  · intro i h1 h2; simp
theorem pt_len (n : Nat) (dist : List (List Int)) (p : Nat) : (pt n dist p).length = n * n := by unfold pt; simp
theorem pt_set (n : Nat) (dist : List (List Int)) (i j : Nat) (hi : i < n) (hj : j < n) : (pt n dist (i * n + j)).set (i * n + j) (dd dist i j) = pt n dist (i * n + j + 1) := by
  have hd : (i * n + j) / n = i := by rw [Nat.mul_comm, Nat.mul_add_div (by omega), Nat.div_eq_of_lt hj]; rfl
  have hm : (i * n + j) % n = j := by rw [Nat.mul_comm, Nat.mul_add_mod, Nat.mod_eq_of_lt hj]
  unfold pt
  apply List.ext_getElem
  · simp
  · intro q h1 h2
    simp only [List.length_set, List.length_map, List.length_range] at h1
    rw [List.getElem_set]
    simp only [List.getElem_map, List.getElem_range]
    by_cases hq : i * n + j = q
    · rw [if_pos hq, ← hq, hd, hm, if_pos (by omega)]
    · rw [if_neg hq]
      by_cases h : q < i * n + j
      · rw [if_pos h, if_pos (by omega)]
      · rw [if_neg h, if_neg (by omega)]
def TabP (w : World) (n : Nat) (dist : List (List Int)) (e : Ending) (w' : World) : Prop :=
  Below w.heap.size w w' ∧ (lensB n dist = false → e = .returned (.pointer none)) ∧ (lensB n dist = true → ∃ g h, e = .returned (.pointer (some ⟨g, 0, none⟩)) ∧ Gr w' w.heap.size g h n n (pt n dist (n * n)))
def RelT (w : World) (n : Nat) (f : Int) (A : Option Addr) (la ca : Nat) (B : Option Addr) (lb cb : Nat) (dist : List (List Int)) (g h : Nat) (v30 : Value) (wr : World) : Prop :=
  ∃ i : Nat, v30 = .int .i64 i ∧ i ≤ n ∧ (∀ a, a < i → (dist.getD a []).length = n) ∧ Gr wr (w.heap.size + 1) g h n n (pt n dist (i * n)) ∧ Box wr w.heap.size n f A la ca B lb cb ∧ Below w.heap.size w wr
def RelTI (w : World) (n : Nat) (f : Int) (A : Option Addr) (la ca : Nat) (B : Option Addr) (lb cb : Nat) (dist : List (List Int)) (g h i : Nat) (v42 : Value) (wr : World) : Prop :=
  ∃ j : Nat, v42 = .int .i64 j ∧ j ≤ n ∧ Gr wr (w.heap.size + 1) g h n n (pt n dist (i * n + j)) ∧ Box wr w.heap.size n f A la ca B lb cb ∧ Below w.heap.size w wr
theorem below_less {B B' : Nat} {w w' : World} (h : Below B w w') (hle : B' ≤ B) : Below B' w w' := ⟨h.os, h.tape, h.output, h.size, fun k hk => h.block k (Nat.lt_of_lt_of_le hk hle)⟩
theorem Gr.mono {w : World} {base base' g h n m : Nat} {xs : List Int} (H : Gr w base g h n m xs) (hb : base' ≤ base) : Gr w base' g h n m xs := ⟨Nat.le_trans hb H.lo, Nat.le_trans hb H.loh, H.ne, H.cell, H.row, H.len⟩
set_option maxHeartbeats 4000000 in
set_option maxRecDepth 100000 in
theorem table_own (n : Nat) (h1 : 1 ≤ n) (h8 : n ≤ 8) (f : Int) (A : Option Addr) (la ca : Nat) (B : Option Addr) (cb : Nat) (dist : List (List Int)) (w : World) (hr3 : Kd.C (Kd.slice 3 (Kd.int .i64)) w B dist.length dist) (hcb : dist.length ≤ cb) :
    Calls Tryz.prog 180 #[.agg #[.int .i64 n, .int .i64 f, .slice A la ca, .slice B dist.length cb]] w (TabP w n dist) := by
  have HR3 := Aside0.mk hr3
  have hmax : dist.length ≤ 9223372036854775807 := hr3.2.1
  clear hr3
  go_enter Tryz.func180, Tryz.ntmps180
  go_upto_region 2 with (go_at_call 213; (with_reducible refine (new_g n h1 h8 _).mono ?_); rintro e_ w2 ⟨g, h, rfl, hg, hb⟩; have HG := Aside0.mk hg; have HX := Aside0.mk ((Box.new w n f A la ca B dist.length cb).below hb); have HB := Aside0.mk (below_then (below_alloc (Below.refl w.heap.size w) _) (by simp) hb); clear hg hb)
  have c0 := HX.out.c0
  have c3 := HX.out.c3
  by_cases hln : dist.length = n
  · have HLN := Aside0.mk hln
    rw [hln] at c3
    have hq2 : ((n : Int) != (n : Int)) = false := by simp
    have H0 := Aside0.mk (show RelT w n f A la ca B dist.length cb dist g h (.int .i64 0) w2 from ⟨0, rfl, Nat.zero_le _, fun a ha => absurd ha (by omega), by rw [Nat.zero_mul, pt_zero]; have := HG.out; rw [World.size_alloc] at this; exact this, HX.out, HB.out⟩)
    clear hln HX HB HG
    go_wp2_with fail
    clear c0 c3
    go_loopw [30, 5, 6, 7, 8, 40, 41, 42] (fun v30 _ _ _ _ _ _ _ wr => RelT w n f A la ca B dist.length cb dist g h v30 wr) (fun v30 _ _ _ _ _ _ _ _ => n - (intOf v30).toNat)
    case atStart => exact H0.out
    case round =>
      clear H0
      obtain ⟨i, rfl, hi, hrow, hG, hX, hB⟩ := hrel
      have HG := Aside0.mk hG
      have HX := Aside0.mk hX
      have HB := Aside0.mk hB
      have HRW := Aside0.mk hrow
      clear hG hX hB hrow
      have hi0 : (0 : Int) ≤ (i : Int) := by omega
      by_cases hlt : i < n
      · have hltb : decide (i < n) = true := decide_eq_true hlt
        have hltI : (i : Int) < (n : Int) := by omega
        have c0 := HX.out.c0
        obtain ⟨ad, A0, cc, rfl, p0, hcc, hrd⟩ := at_L1 HR3.out (i : Int) hi0 (by rw [HLN.out]; omega)
        rw [Int.toNat_natCast] at p0
        rw [rdl] at p0 hcc hrd
        have p0 := pw_cell_below HB.out p0
        obtain ⟨row, hrw⟩ : ∃ row, dist.getD i [] = row := ⟨_, rfl⟩
        rw [hrw] at p0 hcc hrd
        have HRWI := Aside0.mk hrw
        clear hrw
        by_cases hlen : row.length = n
        · rw [hlen] at p0 hcc hrd
          have HLEN := Aside0.mk hlen
          have HRD := Aside0.mk hrd
          clear hlen hrd
          go_wp2_with fail
          have H1 := Aside0.mk (show RelTI w n f A la ca (some ad) dist.length cb dist g h i (.int .i64 0) wr from ⟨0, rfl, Nat.zero_le _, HG.out, HX.out, HB.out⟩)
          clear HG HX HB c0 p0
          go_loopw [42, 7, 8] (fun v42 _ _ wr => RelTI w n f A la ca (some ad) dist.length cb dist g h i v42 wr) (fun v42 _ _ _ => n - (intOf v42).toNat)
          case atStart => exact H1.out
          case round =>
            clear H1
            obtain ⟨j, rfl, hj, hG, hX, hB⟩ := hrel
            have HG := Aside0.mk hG
            have HX := Aside0.mk hX
            have HB := Aside0.mk hB
            clear hG hX hB
            have hj0 : (0 : Int) ≤ (j : Int) := by omega
            by_cases hjn : j < n
            · have hjb : decide (j < n) = true := decide_eq_true hjn
              have hjI : (j : Int) < (n : Int) := by omega
              obtain ⟨ad2, rfl, q0⟩ := Kd.at_int HRD.out (j : Int) hj0 hjI
              have q0 := pw_cell_below HB.out q0
              rw [Int.toNat_natCast] at q0
              have hrr : rd row (j : Int) = dd dist i j := by rw [← HRWI.out, ← rdl, rd_dd]
              rw [hrr] at q0
              clear hrr
              go_wp2_with (go_at_call 214; (with_reducible refine (put_g (w.heap.size + 1) g h n n i j (i * n + j) (dd dist i j) _ _ HG.out hlt hjn h8 h8 rfl).mono ?_); rintro e_ w3 ⟨rfl, hw⟩; have HG2 := Aside0.mk (hw ▸ HG.out.put (i * n + j) (dd dist i j)); have HB2 := Aside0.mk (HB.out.trans (hw ▸ below_less (HG.out.putBelow (i * n + j) (.int .i64 (dd dist i j))) (Nat.le_succ _))); have HX2 := Aside0.mk (hw ▸ HX.out.belowAt (HG.out.putBelow (i * n + j) (.int .i64 (dd dist i j))) (Nat.lt_succ_self _)); clear hw)
              go_roundw
              case rel => exact ⟨j + 1, by go_num, by omega, by rw [← Nat.add_assoc, ← pt_set n dist i j hlt hjn]; exact HG2.out, HX2.out, HB2.out⟩
              case measure => simp [intOf]; omega
            · obtain rfl : j = n := by omega
              have hjb : decide (j < j) = false := decide_eq_false hjn
              go_wp2_with fail
              go_roundw
              case rel => exact ⟨i + 1, by go_num, by omega, fun a ha => by
                rcases Nat.lt_or_ge a i with h' | h'
                · exact HRW.out a h'
                · obtain rfl : a = i := by omega
                  rw [HRWI.out]; exact HLEN.out, by rw [Nat.succ_mul]; exact HG.out, HX.out, HB.out⟩
              case measure => simp [intOf]; omega
        · have hq3 : ((row.length : Int) != (n : Int)) = true := by simp; omega
          have HF := Aside0.mk (show lensB n dist = false by
            unfold lensB
            rw [Bool.and_eq_false_iff]
            right
            rw [List.all_eq_false]
            exact ⟨i, List.mem_range.2 hlt, by rw [HRWI.out]; simpa using hlen⟩)
          clear hlen hrd
          go_wp2_with fail
          go_ret
          exact ⟨HB.out, fun _ => rfl, fun h => by rw [HF.out] at h; cases h⟩
      · obtain rfl : i = n := by omega
        have hltb : decide (i < i) = false := decide_eq_false hlt
        have HTT := Aside0.mk (show lensB i dist = true by
          unfold lensB
          rw [HLN.out, decide_eq_true rfl, Bool.true_and, List.all_eq_true]
          intro a ha
          exact decide_eq_true (HRW.out a (List.mem_range.1 ha)))
        go_wp2_with fail
        go_ret
        exact ⟨HB.out, (fun h => by rw [HTT.out] at h; cases h), fun _ => ⟨g, h, rfl, HG.out.mono (Nat.le_succ _)⟩⟩
  · have hq1 : ((dist.length : Int) != (n : Int)) = true := by simp; omega
    have HF := Aside0.mk (show lensB n dist = false by unfold lensB; rw [decide_eq_false hln, Bool.false_and])
    clear hln
    go_wp2_with fail
    go_ret
    exact ⟨HB.out, fun _ => rfl, fun h => by rw [HF.out] at h; cases h⟩
end Go.Proofs.YtenkdmloolbdaaaGreatDoor.TZ
end
section
namespace Go.Proofs.YtenkdmloolbdaaaGreatDoor.TZ
open Go.RowKit Go.Proofs.YtenkdmloolbdaaaGreatDoorW.PrintWords Go.Proofs.YtenkdmloolbdaaaGreatDoorW.PrintLast Go.Proofs.YtenkdmloolbdaaaGreatDoorW.PrintMore Go.Proofs.YtenkdmloolbdaaaGreatDoor.PH
set_option linter.unusedVariables false
set_option linter.unusedSimpArgs false
/-- Rows as columns, so far: of places p the ones whose origin lies ahead of i. -/
def qt (n : Nat) (xs : List Int) (i : Nat) : List Int := (List.range (n * n)).map fun p => if p % n * n + p / n < i then xs.getD (p % n * n + p / n) 0 else 0
theorem qt_zero (n : Nat) (xs : List Int) : qt n xs 0 = List.replicate (n * n) 0 := by
  unfold qt
  apply List.ext_getElem
  · simp
  · intro i h1 h2; simp
theorem qt_len (n : Nat) (xs : List Int) (i : Nat) : (qt n xs i).length = n * n := by unfold qt; simp
theorem place (n i : Nat) (hn : 1 ≤ n) (hi : i < n * n) : i % n * n + i / n < n * n ∧ (i % n * n + i / n) % n * n + (i % n * n + i / n) / n = i := by
  have h1 : i % n < n := Nat.mod_lt _ hn
  have h2 : i / n < n := Nat.div_lt_of_lt_mul hi
  have h3 : (i % n * n + i / n) / n = i % n := by rw [Nat.mul_comm, Nat.mul_add_div (by omega), Nat.div_eq_of_lt h2]; rfl
  have h4 : (i % n * n + i / n) % n = i / n := by rw [Nat.mul_comm, Nat.mul_add_mod, Nat.mod_eq_of_lt h2]
  refine ⟨?_, ?_⟩
  · have : i % n * n + n ≤ n * n := by rw [← Nat.succ_mul]; exact Nat.mul_le_mul_right n h1
    omega
  · rw [h3, h4, Nat.mul_comm]; exact Nat.div_add_mod i n
theorem qt_set (n : Nat) (xs : List Int) (i : Nat) (hn : 1 ≤ n) (hi : i < n * n) (x : Int) (hx : xs.getD i 0 = x) : (qt n xs i).set (i % n * n + i / n) x = qt n xs (i + 1) := by
  obtain ⟨hp, hpp⟩ := place n i hn hi
  unfold qt
  apply List.ext_getElem
  · simp
  · intro q h1 h2
    simp only [List.length_set, List.length_map, List.length_range] at h1
    rw [List.getElem_set]
    simp only [List.getElem_map, List.getElem_range]
    by_cases hq : i % n * n + i / n = q
    · rw [if_pos hq, ← hq, hpp, if_pos (by omega), hx]
    · rw [if_neg hq]
      have hne : q % n * n + q / n ≠ i := by
        intro e
        apply hq
        have := (place n q hn h1).2
        rw [e] at this
        exact this
      by_cases h : q % n * n + q / n < i
      · rw [if_pos h, if_pos (by omega)]
      · rw [if_neg h, if_neg (by omega)]
theorem Gr.other {w : World} {base g h n m h2 i : Nat} {xs : List Int} {v : Value} (H : Gr w base g h n m xs) (h1 : g ≠ h2) (h3 : h ≠ h2) : Gr (w.setCell ⟨h2, i, none⟩ v) base g h n m xs :=
  ⟨H.lo, H.loh, H.ne, by rw [Below.heap_setCell w ⟨h2, i, none⟩ _ g h1]; exact H.cell, by rw [Below.heap_setCell w ⟨h2, i, none⟩ _ h h3]; exact H.row, H.len⟩
def TurnP (w : World) (n : Nat) (xs : List Int) (e : Ending) (w' : World) : Prop :=
  ∃ g h, e = .returned (.pointer (some ⟨g, 0, none⟩)) ∧ Gr w' w.heap.size g h n n (qt n xs (n * n)) ∧ Below w.heap.size w w'
def RelTu (w : World) (base g h g2 h2 n : Nat) (xs : List Int) (v29 : Value) (wr : World) : Prop :=
  ∃ i : Nat, v29 = .int .i64 i ∧ i ≤ n * n ∧ Gr wr base g h n n xs ∧ Gr wr w.heap.size g2 h2 n n (qt n xs i) ∧ Below w.heap.size w wr
theorem Gr.lt {w : World} {base g h n m : Nat} {xs : List Int} (H : Gr w base g h n m xs) : g < w.heap.size ∧ h < w.heap.size := ⟨(Array.getElem?_eq_some_iff.1 H.cell).1, (Array.getElem?_eq_some_iff.1 H.row).1⟩
set_option maxHeartbeats 4000000 in
set_option maxRecDepth 100000 in
theorem turned_own (base g h n : Nat) (h1 : 1 ≤ n) (h8 : n ≤ 8) (xs : List Int) (w : World) (H : Gr w base g h n n xs) :
    Calls Tryz.prog 182 #[.pointer (some ⟨g, 0, none⟩)] w (TurnP w n xs) := by
  obtain ⟨p, hp⟩ : ∃ p, n * n = p := ⟨_, rfl⟩
  have hp64 : p ≤ 64 := by rw [← hp]; exact Nat.mul_le_mul h8 h8
  have hxl : xs.length = p := by rw [← hp]; exact H.len
  have hmk := print_make (P := Tryz.prog) 34 3 .i64 8 Tryz.underlying34 (by kernel_rfl) (by decide) p (by omega)
  have c0 := H.c0
  have c1 := H.c1
  have c2 := H.c2
  rw [hxl] at c2
  have HG := Aside0.mk H
  have HP := Aside0.mk hp
  have HXL := Aside0.mk hxl
  have HLT := Aside0.mk H.lt
  clear H hp hxl
  go_enter Tryz.func182, Tryz.ntmps182
  go_upto_region 3 with (fail)
  refine start_ (n := 17) (S := fun w' => w'.cell? ⟨g, 0, none⟩ = some (.int .i64 n) ∧ w'.cell? ⟨g, 1, none⟩ = some (.int .i64 n) ∧ w'.cell? ⟨g, 2, none⟩ = some (.slice (some ⟨h, 0, none⟩) p p)) (ds := []) #[false, false, false, false, false, false, false, false, false, false, false, false, false, false, false, false, false] (by kernel_rfl) rfl rfl ⟨c0, c1, c2⟩ (fun hHeld => ?_)
  have n1 := Aside0.mk (HG.out.below (below_drew (Below.refl w.heap.size w)))
  have HB := Aside0.mk (below_drew (Below.refl w.heap.size w))
  have HLD := Aside0.mk (show w.drew.heap.size = w.heap.size from rfl)
  clear HG c0 c1 c2
  generalize w.drew = wd at *
  have HG := n1
  clear n1
  refine pure_ (i := 0) (N := some 8) (v := ?_) (a' := ?_) #[true, false, false, false, false, false, false, false, false, false, false, false, false, false, false, false, false] rfl rfl (by kernel_rfl) (fun _ _ _ h => h) (Or.inl ⟨by rfl, ?_⟩) ?_ ?_
  rotate_left
  · intro w'
    go_simp
    with_reducible rfl
  rotate_left
  · simp only [Act.put, List.setIfInBounds_toArray, List.set_cons_zero, List.set_cons_succ, i64_w, i32_w]
    rfl
  refine pure_ (i := 1) (N := some 9) (v := ?_) (a' := ?_) #[true, true, false, false, false, false, false, false, false, false, false, false, false, false, false, false, false] rfl rfl (by kernel_rfl) (fun _ _ _ h => h) (Or.inl ⟨by rfl, ?_⟩) ?_ ?_
  rotate_left
  · intro w'
    go_simp
    with_reducible rfl
  rotate_left
  · simp only [Act.put, List.setIfInBounds_toArray, List.set_cons_zero, List.set_cons_succ, i64_w, i32_w]
    rfl
  refine pure_ (i := 2) (N := some 10) (v := ?_) (a' := ?_) #[true, true, true, false, false, false, false, false, false, false, false, false, false, false, false, false, false] rfl rfl (by kernel_rfl) (fun _ _ _ h => h) (Or.inl ⟨by rfl, ?_⟩) ?_ ?_
  rotate_left
  · intro w'
    go_simp
    with_reducible rfl
  rotate_left
  · simp only [Act.put, List.setIfInBounds_toArray, List.set_cons_zero, List.set_cons_succ, i64_w, i32_w]
    rfl
  refine pure_ (i := 4) (N := some 12) (v := ?_) (a' := ?_) #[true, true, true, false, true, false, false, false, false, false, false, false, false, false, false, false, false] rfl rfl (by kernel_rfl) (fun _ _ _ h => h) (Or.inl ⟨by rfl, ?_⟩) ?_ ?_
  rotate_left
  · intro w'
    go_simp
    with_reducible rfl
  rotate_left
  · simp only [Act.put, List.setIfInBounds_toArray, List.set_cons_zero, List.set_cons_succ, i64_w, i32_w]
    rfl
  refine pure_ (i := 5) (N := some 13) (v := ?_) (a' := ?_) #[true, true, true, false, true, true, false, false, false, false, false, false, false, false, false, false, false] rfl rfl (by kernel_rfl) (fun _ _ _ h => h) (Or.inl ⟨by rfl, ?_⟩) ?_ ?_
  rotate_left
  · intro w'
    go_simp
    with_reducible rfl
  rotate_left
  · simp only [Act.put, List.setIfInBounds_toArray, List.set_cons_zero, List.set_cons_succ, i64_w, i32_w]
    rfl
  refine pure_ (i := 6) (N := some 14) (v := ?_) (a' := ?_) #[true, true, true, false, true, true, true, false, false, false, false, false, false, false, false, false, false] rfl rfl (by kernel_rfl) (fun _ _ _ h => h) (Or.inl ⟨by rfl, ?_⟩) ?_ ?_
  rotate_left
  · intro w'
    go_simp
    with_reducible rfl
  rotate_left
  · simp only [Act.put, List.setIfInBounds_toArray, List.set_cons_zero, List.set_cons_succ, i64_w, i32_w]
    rfl
  refine pure_ (i := 8) (N := some 16) (v := ?_) (a' := ?_) #[true, true, true, false, true, true, true, false, true, false, false, false, false, false, false, false, false] rfl rfl (by kernel_rfl) (fun _ _ _ h => h) (Or.inl ⟨by rfl, ?_⟩) ?_ ?_
  rotate_left
  · intro w'
    go_simp
    with_reducible rfl
  rotate_left
  · simp only [Act.put, List.setIfInBounds_toArray, List.set_cons_zero, List.set_cons_succ, i64_w, i32_w]
    rfl
  refine pure_ (i := 9) (N := some 17) (v := ?_) (a' := ?_) #[true, true, true, false, true, true, true, false, true, true, false, false, false, false, false, false, false] rfl rfl (by kernel_rfl) (fun _ _ _ h => h) (Or.inl ⟨by rfl, ?_⟩) ?_ ?_
  rotate_left
  · intro w'
    go_simp
    with_reducible rfl
  rotate_left
  · simp only [Act.put, List.setIfInBounds_toArray, List.set_cons_zero, List.set_cons_succ, i64_w, i32_w]
    rfl
  refine pure_ (i := 10) (N := some 18) (v := ?_) (a' := ?_) #[true, true, true, false, true, true, true, false, true, true, true, false, false, false, false, false, false] rfl rfl (by kernel_rfl) (fun _ _ _ h => h) (Or.inl ⟨by rfl, ?_⟩) ?_ ?_
  rotate_left
  · intro w'
    go_simp
    with_reducible rfl
  rotate_left
  · simp only [Act.put, List.setIfInBounds_toArray, List.set_cons_zero, List.set_cons_succ, i64_w, i32_w]
    rfl
  refine take_ (i := 3) (N := some 11) (v := ?_) (a' := ?_) #[true, true, true, true, true, true, true, false, true, true, true, false, false, false, false, false, false] rfl rfl (by kernel_rfl) (fun _ _ _ h => h) (Or.inl ⟨by rfl, ?_⟩) hHeld ?_ ?_
  rotate_left
  · rintro w' ⟨s0, s1, s2⟩
    go_simp
    with_reducible rfl
  rotate_left
  · simp only [Act.put, List.setIfInBounds_toArray, List.set_cons_zero, List.set_cons_succ, i64_w, i32_w]
    rfl
  refine take_ (i := 7) (N := some 15) (v := ?_) (a' := ?_) #[true, true, true, true, true, true, true, true, true, true, true, false, false, false, false, false, false] rfl rfl (by kernel_rfl) (fun _ _ _ h => h) (Or.inl ⟨by rfl, ?_⟩) hHeld ?_ ?_
  rotate_left
  · rintro w' ⟨s0, s1, s2⟩
    go_simp
    with_reducible rfl
  rotate_left
  · simp only [Act.put, List.setIfInBounds_toArray, List.set_cons_zero, List.set_cons_succ, i64_w, i32_w]
    rfl
  refine take_ (i := 11) (N := some 19) (v := ?_) (a' := ?_) #[true, true, true, true, true, true, true, true, true, true, true, true, false, false, false, false, false] rfl rfl (by kernel_rfl) (fun _ _ _ h => h) (Or.inl ⟨by rfl, ?_⟩) hHeld ?_ ?_
  rotate_left
  · rintro w' ⟨s0, s1, s2⟩
    go_simp
    with_reducible rfl
  rotate_left
  · simp only [Act.put, List.setIfInBounds_toArray, List.set_cons_zero, List.set_cons_succ, i64_w, i32_w]
    rfl
  refine pure_ (i := 12) (N := some 20) (v := ?_) (a' := ?_) #[true, true, true, true, true, true, true, true, true, true, true, true, true, false, false, false, false] rfl rfl (by kernel_rfl) (fun _ _ _ h => h) (Or.inl ⟨by rfl, ?_⟩) ?_ ?_
  rotate_left
  · intro w'
    go_simp
    with_reducible rfl
  rotate_left
  · simp only [Act.put, List.setIfInBounds_toArray, List.set_cons_zero, List.set_cons_succ, i64_w, i32_w]
    rfl
  refine one_ (i := 13) (N := some 21) #[true, true, true, true, true, true, true, true, true, true, true, true, true, true, false, false, false] rfl rfl (by kernel_rfl) (by decide) (fun K hK => ?_)
  refine value_ (w1 := ?_) (v := ?_) (by rfl) rfl ?_ ?_
  rotate_left 2
  · go_simp
    constructor
    · rfl
    · rfl
  refine hK.out _ _ ⟨(HG.out.below (below_alloc (Below.refl _ _) _)).c0, (HG.out.below (below_alloc (Below.refl _ _) _)).c1, (HXL.out ▸ (HG.out.below (below_alloc (Below.refl _ _) _)).c2)⟩ (fun hHeld => ?_)
  clear hK K
  refine norm_ (a' := ?_) ?_ ?_
  rotate_left
  · show Act.put _ (some 21) _ = _
    simp only [Act.put, List.setIfInBounds_toArray, List.set_cons_zero, List.set_cons_succ, i64_w, i32_w]
    rfl
  refine pure_ (i := 14) (N := some 22) (v := ?_) (a' := ?_) #[true, true, true, true, true, true, true, true, true, true, true, true, true, true, true, false, false] rfl rfl (by kernel_rfl) (fun _ _ _ h => h) (Or.inl ⟨by rfl, ?_⟩) ?_ ?_
  rotate_left
  · intro w'
    go_simp
    with_reducible rfl
  rotate_left
  · simp only [Act.put, List.setIfInBounds_toArray, List.set_cons_zero, List.set_cons_succ, i64_w, i32_w]
    rfl
  refine one_ (i := 15) (N := some 23) #[true, true, true, true, true, true, true, true, true, true, true, true, true, true, true, true, false] rfl rfl (by kernel_rfl) (by decide) (fun K hK => ?_)
  refine value_ (w1 := ?_) (v := ?_) (by rfl) rfl ?_ ?_
  rotate_left 2
  · go_simp
    constructor
    · rfl
    · rfl
  refine hK.out _ _ ⟨(HG.out.below (below_alloc (below_alloc (Below.refl _ _) _) _)).c0, (HG.out.below (below_alloc (below_alloc (Below.refl _ _) _) _)).c1, (HXL.out ▸ (HG.out.below (below_alloc (below_alloc (Below.refl _ _) _) _)).c2)⟩ (fun hHeld => ?_)
  clear hK K
  refine norm_ (a' := ?_) ?_ ?_
  rotate_left
  · show Act.put _ (some 23) _ = _
    simp only [Act.put, List.setIfInBounds_toArray, List.set_cons_zero, List.set_cons_succ, i64_w, i32_w]
    rfl
  refine pure_ (i := 16) (N := some 3) (v := ?_) (a' := ?_) #[true, true, true, true, true, true, true, true, true, true, true, true, true, true, true, true, true] rfl rfl (by kernel_rfl) (fun _ _ _ h => h) (Or.inl ⟨by rfl, ?_⟩) ?_ ?_
  rotate_left
  · intro w'
    go_simp
    with_reducible rfl
  rotate_left
  · simp only [Act.put, List.setIfInBounds_toArray, List.set_cons_zero, List.set_cons_succ, i64_w, i32_w]
    rfl
  refine done_ (by kernel_rfl) ?_
  obtain ⟨W, hW⟩ : ∃ W, ((wd.alloc (.cells (madeCells #[.int .i64 0] p) 3)).alloc (.cells #[.int .i64 n, .int .i64 n, .slice (some ⟨wd.heap.size, 0, none⟩) p p] 300)) = W := ⟨_, rfl⟩
  rw [hW]
  have HBW := Aside0.mk (show Below w.heap.size w W from hW ▸ below_alloc (below_alloc HB.out _) _)
  have HGW := Aside0.mk (show Gr W base g h n n xs from hW ▸ (HG.out.below (below_alloc (below_alloc (Below.refl _ _) _) _)))
  have HNW := Aside0.mk (show Gr W w.heap.size (wd.heap.size + 1) wd.heap.size n n (qt n xs 0) from by
    rw [qt_zero, HP.out]
    refine ⟨by have := HB.out.size; omega, HB.out.size, by omega, ?_, ?_, by rw [List.length_replicate, HP.out]⟩
    · rw [← hW]
      have := heap_alloc_new (wd.alloc (.cells (madeCells #[.int .i64 0] p) 3)) (.cells #[.int .i64 n, .int .i64 n, .slice (some ⟨wd.heap.size, 0, none⟩) p p] 300)
      rw [World.size_alloc] at this
      rw [List.length_replicate]; exact this
    · rw [← hW, heap_alloc_old _ _ (by simp), heap_alloc_new, made_iv])
  clear HG HB hW
  have c2 := HGW.out.c2
  rw [HXL.out] at c2
  go_wp2_with fail
  clear c2
  have HWS := Aside0.mk (show g < wd.heap.size ∧ h < wd.heap.size from by rw [HLD.out]; exact HLT.out)
  have H0 := Aside0.mk (show RelTu w base g h (wd.heap.size + 1) wd.heap.size n xs (.int .i64 0) W from ⟨0, rfl, Nat.zero_le _, HGW.out, HNW.out, HBW.out⟩)
  clear HGW HNW HBW
  generalize wd.heap.size + 1 = g2 at *
  obtain ⟨h2, hh2⟩ : ∃ h2, wd.heap.size = h2 := ⟨_, rfl⟩
  rw [hh2] at H0 HWS ⊢
  clear hh2 HLD hmk
  go_loopw [29, 4, 5] (fun v29 _ _ wr => RelTu w base g h g2 h2 n xs v29 wr) (fun v29 _ _ _ => p - (intOf v29).toNat)
  case atStart => exact H0.out
  case round =>
    clear H0
    obtain ⟨i, rfl, hi, hG, hN, hB⟩ := hrel
    rw [HP.out] at hi
    have HG := Aside0.mk hG
    have HN := Aside0.mk hN
    have HB := Aside0.mk hB
    clear hG hN hB
    have hi0 : (0 : Int) ≤ (i : Int) := by omega
    by_cases hlt : i < p
    · have hltb : decide (i < p) = true := decide_eq_true hlt
      have hltI : (i : Int) < (p : Int) := by omega
      obtain ⟨x, hx⟩ : ∃ x, xs[i]? = some x := ⟨_, List.getElem?_eq_getElem (by rw [HXL.out]; exact hlt)⟩
      have q0 := HG.out.at_ i x hx
      have HXG := Aside0.mk (show xs.getD i 0 = x by rw [List.getD_eq_getElem?_getD, hx]; rfl)
      clear hx
      obtain ⟨a, ha⟩ : ∃ a, i % n = a := ⟨_, rfl⟩
      obtain ⟨b, hb⟩ : ∃ b, i / n = b := ⟨_, rfl⟩
      obtain ⟨q, hq⟩ : ∃ q, a * n = q := ⟨_, rfl⟩
      obtain ⟨ps, hps⟩ : ∃ ps, q + b = ps := ⟨_, rfl⟩
      have hpl : ps < p := by
        have := (place n i h1 (by rw [HP.out]; exact hlt)).1
        rw [HP.out, ha, hb, hq, hps] at this; exact this
      have HST := Aside0.mk (show (qt n xs i).set ps x = qt n xs (i + 1) by
        rw [← hps, ← hq, ← ha, ← hb]; exact qt_set n xs i h1 (by rw [HP.out]; exact hlt) x HXG.out)
      have hmod : Int.tmod (i : Int) (n : Int) = (a : Int) := by rw [Int.tmod_eq_emod_of_nonneg (by omega), ← ha]; rfl
      have hdiv : Int.tdiv (i : Int) (n : Int) = (b : Int) := by rw [Int.tdiv_eq_ediv_of_nonneg (by omega), ← hb]; rfl
      have hqI : (a : Int) * (n : Int) = (q : Int) := by rw [← hq, Int.natCast_mul]
      have hn0 : ¬ n = 0 := by omega
      have hn0' : ((n : Int) == 0) = false := by simp; omega
      have hq64 : q ≤ 64 := by omega
      have hb64 : b ≤ 64 := by omega
      have ha64 : a ≤ 64 := by
        have := Nat.mod_lt i (show n > 0 by omega)
        omega
      obtain ⟨y, hy⟩ : ∃ y, (qt n xs i)[ps]? = some y := ⟨_, List.getElem?_eq_getElem (by rw [qt_len, HP.out]; exact hpl)⟩
      have hsl := HN.out.c2
      rw [qt_len, HP.out] at hsl
      have c0 := HG.out.c0
      have c1 := HG.out.c1
      have hcl := HN.out.at_ ps y hy
      have hfz := HN.out.fz ps
      have hps0 : (0 : Int) ≤ (ps : Int) := by omega
      have hpsI : (ps : Int) < (p : Int) := by omega
      have hpsn : ps < p := hpl
      have hqb : (q : Int) + (b : Int) = (ps : Int) := by omega
      have HAD := Aside0.mk hps
      have HY := Aside0.mk hy
      clear hy ha hb hq hps
      go_upto_region 7 with (fail)
      refine start_ (n := 25) (S := fun w' => w'.cell? ⟨g, 0, none⟩ = some (.int .i64 n) ∧ w'.cell? ⟨g, 1, none⟩ = some (.int .i64 n) ∧ w'.cell? ⟨g2, 2, none⟩ = some (.slice (some ⟨h2, 0, none⟩) p p)) (ds := [24]) #[false, false, false, false, false, false, false, false, false, false, false, false, false, false, false, false, false, false, false, false, false, false, false, false, false] (by kernel_rfl) rfl rfl ⟨c0, c1, hsl⟩ (fun hHeld => ?_)
      have HGd := Aside0.mk (HG.out.below (below_drew (Below.refl wr.heap.size wr)))
      have HNd := Aside0.mk (HN.out.below (below_drew (Below.refl wr.heap.size wr)))
      have HBd := Aside0.mk (below_drew HB.out)
      clear HG HN HB c0 c1 hsl hcl hfz q0
      generalize wr.drew = wd2 at *
      have hcl := HNd.out.at_ ps y HY.out
      have hfz := HNd.out.fz ps
      have HN2 := Aside0.mk (HST.out ▸ HNd.out.put ps x)
      have HB2 := Aside0.mk (HBd.out.trans (HNd.out.putBelow ps (.int .i64 x)))
      have HG2 := Aside0.mk (show Gr (wd2.setCell ⟨h2, ps, none⟩ (.int .i64 x)) base g h n n xs from HGd.out.other (by have := HWS.out; omega) (by have := HWS.out; omega))
      obtain ⟨hwq, hws, hwa, hwb⟩ : wrap64 (q : Int) = (q : Int) ∧ wrap64 (ps : Int) = (ps : Int) ∧ wrap64 (a : Int) = (a : Int) ∧ wrap64 (b : Int) = (b : Int) := ⟨wrap_s _ (by omega) (by omega), wrap_s _ (by omega) (by omega), wrap_s _ (by omega) (by omega), wrap_s _ (by omega) (by omega)⟩
      refine pure_ (i := 0) (N := some 34) (v := ?_) (a' := ?_) #[true, false, false, false, false, false, false, false, false, false, false, false, false, false, false, false, false, false, false, false, false, false, false, false, false] rfl rfl (by kernel_rfl) (fun _ _ _ h => h) (Or.inl ⟨by rfl, ?_⟩) ?_ ?_
      rotate_left
      · intro w'
        go_simp
        with_reducible rfl
      rotate_left
      · simp only [Act.put, List.setIfInBounds_toArray, List.set_cons_zero, List.set_cons_succ, i64_w, i32_w]
        rfl
      refine pure_ (i := 1) (N := some 35) (v := ?_) (a' := ?_) #[true, true, false, false, false, false, false, false, false, false, false, false, false, false, false, false, false, false, false, false, false, false, false, false, false] rfl rfl (by kernel_rfl) (fun _ _ _ h => h) (Or.inl ⟨by rfl, ?_⟩) ?_ ?_
      rotate_left
      · intro w'
        go_simp
        with_reducible rfl
      rotate_left
      · simp only [Act.put, List.setIfInBounds_toArray, List.set_cons_zero, List.set_cons_succ, i64_w, i32_w]
        rfl
      refine pure_ (i := 2) (N := some 36) (v := ?_) (a' := ?_) #[true, true, true, false, false, false, false, false, false, false, false, false, false, false, false, false, false, false, false, false, false, false, false, false, false] rfl rfl (by kernel_rfl) (fun _ _ _ h => h) (Or.inl ⟨by rfl, ?_⟩) ?_ ?_
      rotate_left
      · intro w'
        go_simp
        with_reducible rfl
      rotate_left
      · simp only [Act.put, List.setIfInBounds_toArray, List.set_cons_zero, List.set_cons_succ, i64_w, i32_w]
        rfl
      refine pure_ (i := 4) (N := some 38) (v := ?_) (a' := ?_) #[true, true, true, false, true, false, false, false, false, false, false, false, false, false, false, false, false, false, false, false, false, false, false, false, false] rfl rfl (by kernel_rfl) (fun _ _ _ h => h) (Or.inl ⟨by rfl, ?_⟩) ?_ ?_
      rotate_left
      · intro w'
        go_simp
        with_reducible rfl
      rotate_left
      · simp only [Act.put, List.setIfInBounds_toArray, List.set_cons_zero, List.set_cons_succ, i64_w, i32_w]
        rfl
      refine pure_ (i := 5) (N := some 39) (v := ?_) (a' := ?_) #[true, true, true, false, true, true, false, false, false, false, false, false, false, false, false, false, false, false, false, false, false, false, false, false, false] rfl rfl (by kernel_rfl) (fun _ _ _ h => h) (Or.inl ⟨by rfl, ?_⟩) ?_ ?_
      rotate_left
      · intro w'
        go_simp
        with_reducible rfl
      rotate_left
      · simp only [Act.put, List.setIfInBounds_toArray, List.set_cons_zero, List.set_cons_succ, i64_w, i32_w]
        rfl
      refine pure_ (i := 6) (N := some 40) (v := ?_) (a' := ?_) #[true, true, true, false, true, true, true, false, false, false, false, false, false, false, false, false, false, false, false, false, false, false, false, false, false] rfl rfl (by kernel_rfl) (fun _ _ _ h => h) (Or.inl ⟨by rfl, ?_⟩) ?_ ?_
      rotate_left
      · intro w'
        go_simp
        with_reducible rfl
      rotate_left
      · simp only [Act.put, List.setIfInBounds_toArray, List.set_cons_zero, List.set_cons_succ, i64_w, i32_w]
        rfl
      refine pure_ (i := 7) (N := some 41) (v := ?_) (a' := ?_) #[true, true, true, false, true, true, true, true, false, false, false, false, false, false, false, false, false, false, false, false, false, false, false, false, false] rfl rfl (by kernel_rfl) (fun _ _ _ h => h) (Or.inl ⟨by rfl, ?_⟩) ?_ ?_
      rotate_left
      · intro w'
        go_simp
        with_reducible rfl
      rotate_left
      · simp only [Act.put, List.setIfInBounds_toArray, List.set_cons_zero, List.set_cons_succ, i64_w, i32_w]
        rfl
      refine pure_ (i := 10) (N := some 44) (v := ?_) (a' := ?_) #[true, true, true, false, true, true, true, true, false, false, true, false, false, false, false, false, false, false, false, false, false, false, false, false, false] rfl rfl (by kernel_rfl) (fun _ _ _ h => h) (Or.inl ⟨by rfl, ?_⟩) ?_ ?_
      rotate_left
      · intro w'
        go_simp
        with_reducible rfl
      rotate_left
      · simp only [Act.put, List.setIfInBounds_toArray, List.set_cons_zero, List.set_cons_succ, i64_w, i32_w]
        rfl
      refine pure_ (i := 11) (N := some 45) (v := ?_) (a' := ?_) #[true, true, true, false, true, true, true, true, false, false, true, true, false, false, false, false, false, false, false, false, false, false, false, false, false] rfl rfl (by kernel_rfl) (fun _ _ _ h => h) (Or.inl ⟨by rfl, ?_⟩) ?_ ?_
      rotate_left
      · intro w'
        go_simp
        with_reducible rfl
      rotate_left
      · simp only [Act.put, List.setIfInBounds_toArray, List.set_cons_zero, List.set_cons_succ, i64_w, i32_w]
        rfl
      refine pure_ (i := 12) (N := some 46) (v := ?_) (a' := ?_) #[true, true, true, false, true, true, true, true, false, false, true, true, true, false, false, false, false, false, false, false, false, false, false, false, false] rfl rfl (by kernel_rfl) (fun _ _ _ h => h) (Or.inl ⟨by rfl, ?_⟩) ?_ ?_
      rotate_left
      · intro w'
        go_simp
        with_reducible rfl
      rotate_left
      · simp only [Act.put, List.setIfInBounds_toArray, List.set_cons_zero, List.set_cons_succ, i64_w, i32_w]
        rfl
      refine pure_ (i := 15) (N := some 49) (v := ?_) (a' := ?_) #[true, true, true, false, true, true, true, true, false, false, true, true, true, false, false, true, false, false, false, false, false, false, false, false, false] rfl rfl (by kernel_rfl) (fun _ _ _ h => h) (Or.inl ⟨by rfl, ?_⟩) ?_ ?_
      rotate_left
      · intro w'
        go_simp
        with_reducible rfl
      rotate_left
      · simp only [Act.put, List.setIfInBounds_toArray, List.set_cons_zero, List.set_cons_succ, i64_w, i32_w]
        rfl
      refine pure_ (i := 16) (N := some 50) (v := ?_) (a' := ?_) #[true, true, true, false, true, true, true, true, false, false, true, true, true, false, false, true, true, false, false, false, false, false, false, false, false] rfl rfl (by kernel_rfl) (fun _ _ _ h => h) (Or.inl ⟨by rfl, ?_⟩) ?_ ?_
      rotate_left
      · intro w'
        go_simp
        with_reducible rfl
      rotate_left
      · simp only [Act.put, List.setIfInBounds_toArray, List.set_cons_zero, List.set_cons_succ, i64_w, i32_w]
        rfl
      refine pure_ (i := 17) (N := some 51) (v := ?_) (a' := ?_) #[true, true, true, false, true, true, true, true, false, false, true, true, true, false, false, true, true, true, false, false, false, false, false, false, false] rfl rfl (by kernel_rfl) (fun _ _ _ h => h) (Or.inl ⟨by rfl, ?_⟩) ?_ ?_
      rotate_left
      · intro w'
        go_simp
        with_reducible rfl
      rotate_left
      · simp only [Act.put, List.setIfInBounds_toArray, List.set_cons_zero, List.set_cons_succ, i64_w, i32_w]
        rfl
      refine pure_ (i := 18) (N := some 52) (v := ?_) (a' := ?_) #[true, true, true, false, true, true, true, true, false, false, true, true, true, false, false, true, true, true, true, false, false, false, false, false, false] rfl rfl (by kernel_rfl) (fun _ _ _ h => h) (Or.inl ⟨by rfl, ?_⟩) ?_ ?_
      rotate_left
      · intro w'
        go_simp
        with_reducible rfl
      rotate_left
      · simp only [Act.put, List.setIfInBounds_toArray, List.set_cons_zero, List.set_cons_succ, i64_w, i32_w]
        rfl
      refine pure_ (i := 22) (N := some 56) (v := ?_) (a' := ?_) #[true, true, true, false, true, true, true, true, false, false, true, true, true, false, false, true, true, true, true, false, false, false, true, false, false] rfl rfl (by kernel_rfl) (fun _ _ _ h => h) (Or.inl ⟨by rfl, ?_⟩) ?_ ?_
      rotate_left
      · intro w'
        go_simp
        with_reducible rfl
      rotate_left
      · simp only [Act.put, List.setIfInBounds_toArray, List.set_cons_zero, List.set_cons_succ, i64_w, i32_w]
        rfl
      refine take_ (i := 3) (N := some 37) (v := ?_) (a' := ?_) #[true, true, true, true, true, true, true, true, false, false, true, true, true, false, false, true, true, true, true, false, false, false, true, false, false] rfl rfl (by kernel_rfl) (fun _ _ _ h => h) (Or.inl ⟨by rfl, ?_⟩) hHeld ?_ ?_
      rotate_left
      · rintro w' ⟨s0, s1, s2⟩
        go_simp
        with_reducible rfl
      rotate_left
      · simp only [Act.put, List.setIfInBounds_toArray, List.set_cons_zero, List.set_cons_succ, i64_w, i32_w]
        rfl
      refine take_ (i := 8) (N := some 42) (v := ?_) (a' := ?_) #[true, true, true, true, true, true, true, true, true, false, true, true, true, false, false, true, true, true, true, false, false, false, true, false, false] rfl rfl (by kernel_rfl) (fun _ _ _ h => h) (Or.inl ⟨by rfl, ?_⟩) hHeld ?_ ?_
      rotate_left
      · rintro w' ⟨s0, s1, s2⟩
        go_simp
        with_reducible rfl
      rotate_left
      · simp only [Act.put, List.setIfInBounds_toArray, List.set_cons_zero, List.set_cons_succ, i64_w, i32_w]
        rfl
      refine pure_ (i := 9) (N := some 43) (v := ?_) (a' := ?_) #[true, true, true, true, true, true, true, true, true, true, true, true, true, false, false, true, true, true, true, false, false, false, true, false, false] rfl rfl (by kernel_rfl) (fun _ _ _ h => h) (Or.inl ⟨by rfl, ?_⟩) ?_ ?_
      rotate_left
      · intro w'
        go_simp
        with_reducible rfl
      rotate_left
      · simp only [Act.put, List.setIfInBounds_toArray, List.set_cons_zero, List.set_cons_succ, i64_w, i32_w]
        rfl
      refine take_ (i := 13) (N := some 47) (v := ?_) (a' := ?_) #[true, true, true, true, true, true, true, true, true, true, true, true, true, true, false, true, true, true, true, false, false, false, true, false, false] rfl rfl (by kernel_rfl) (fun _ _ _ h => h) (Or.inl ⟨by rfl, ?_⟩) hHeld ?_ ?_
      rotate_left
      · rintro w' ⟨s0, s1, s2⟩
        go_simp
        with_reducible rfl
      rotate_left
      · simp only [Act.put, List.setIfInBounds_toArray, List.set_cons_zero, List.set_cons_succ, i64_w, i32_w]
        rfl
      refine pure_ (i := 14) (N := some 48) (v := ?_) (a' := ?_) #[true, true, true, true, true, true, true, true, true, true, true, true, true, true, true, true, true, true, true, false, false, false, true, false, false] rfl rfl (by kernel_rfl) (fun _ _ _ h => h) (Or.inl ⟨by rfl, ?_⟩) ?_ ?_
      rotate_left
      · intro w'
        go_simp
        with_reducible rfl
      rotate_left
      · simp only [Act.put, List.setIfInBounds_toArray, List.set_cons_zero, List.set_cons_succ, i64_w, i32_w]
        rfl
      refine take_ (i := 19) (N := some 53) (v := ?_) (a' := ?_) #[true, true, true, true, true, true, true, true, true, true, true, true, true, true, true, true, true, true, true, true, false, false, true, false, false] rfl rfl (by kernel_rfl) (fun _ _ _ h => h) (Or.inl ⟨by rfl, ?_⟩) hHeld ?_ ?_
      rotate_left
      · rintro w' ⟨s0, s1, s2⟩
        go_simp
        with_reducible rfl
      rotate_left
      · simp only [Act.put, List.setIfInBounds_toArray, List.set_cons_zero, List.set_cons_succ, i64_w, i32_w]
        rfl
      refine pure_ (i := 20) (N := some 54) (v := ?_) (a' := ?_) #[true, true, true, true, true, true, true, true, true, true, true, true, true, true, true, true, true, true, true, true, true, false, true, false, false] rfl rfl (by kernel_rfl) (fun _ _ _ h => h) (Or.inl ⟨by rfl, ?_⟩) ?_ ?_
      rotate_left
      · intro w'
        go_simp
        with_reducible rfl
      rotate_left
      · simp only [Act.put, List.setIfInBounds_toArray, List.set_cons_zero, List.set_cons_succ, i64_w, i32_w]
        rfl
      refine pure_ (i := 21) (N := some 55) (v := ?_) (a' := ?_) #[true, true, true, true, true, true, true, true, true, true, true, true, true, true, true, true, true, true, true, true, true, true, true, false, false] rfl rfl (by kernel_rfl) (fun _ _ _ h => h) (Or.inl ⟨by rfl, ?_⟩) ?_ ?_
      rotate_left
      · intro w'
        go_simp
        with_reducible rfl
      rotate_left
      · simp only [Act.put, List.setIfInBounds_toArray, List.set_cons_zero, List.set_cons_succ, i64_w, i32_w]
        rfl
      refine pure_ (i := 23) (N := some 57) (v := ?_) (a' := ?_) #[true, true, true, true, true, true, true, true, true, true, true, true, true, true, true, true, true, true, true, true, true, true, true, true, false] rfl rfl (by kernel_rfl) (fun _ _ _ h => h) (Or.inl ⟨by rfl, ?_⟩) ?_ ?_
      rotate_left
      · intro w'
        go_simp
        with_reducible rfl
      rotate_left
      · simp only [Act.put, List.setIfInBounds_toArray, List.set_cons_zero, List.set_cons_succ, i64_w, i32_w]
        rfl
      refine last_ (i := 24) (N := none) #[true, true, true, true, true, true, true, true, true, true, true, true, true, true, true, true, true, true, true, true, true, true, true, true, true] rfl rfl (by kernel_rfl) (by decide) (fun K hK => ?_)
      refine skip_ (w1 := ?_) (by rfl) rfl ?_ ?_
      rotate_left
      · go_simp
        rfl
      refine hK.out _ _ ?_
      clear hK K
      refine done_ (by kernel_rfl) ?_
      clear hwq hws hwa hwb hqI hqb hmod hdiv
      go_wp2_with fail
      go_roundw
      case rel => exact ⟨i + 1, by go_num, by rw [HP.out]; omega, HG2.out, HN2.out, HB2.out⟩
      case measure => simp [intOf]; omega
    · obtain rfl : i = p := by omega
      have hltb : decide (i < i) = false := decide_eq_false hlt
      go_wp2_with fail
      go_ret
      exact ⟨g2, h2, rfl, by rw [HP.out]; exact HN.out, HB.out⟩
end Go.Proofs.YtenkdmloolbdaaaGreatDoor.TZ
end
