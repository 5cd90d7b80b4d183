/- topo.table: what it comes to. -/
import Derived.Test.YtffmhpfdfcpniaaB
namespace Go.Proofs.Ytffmhpfdfcpniaa.T
open Go.RowKit Go.Proofs.YtffmhpfdfcpniaaW.PrintWords Go.Proofs.YtffmhpfdfcpniaaW.PrintLast Go.Proofs.YtffmhpfdfcpniaaW.PrintMore Go.Proofs.Ytffmhpfdfcpniaa.PH
set_option linter.unusedVariables false
set_option linter.unusedSimpArgs false
/-- A machine as a value, and what it reads as. -/
def tv (n f : Int) (A : Option Addr) (la ca : Nat) (B : Option Addr) (lb cb : Nat) : Value := .agg #[.int .i64 n, .int .i64 f, .slice A la ca, .slice B lb cb]
def Box (w : World) (b : Nat) (n f : Int) (A : Option Addr) (la ca : Nat) (B : Option Addr) (lb cb : Nat) : Prop :=
  w.heap[b]? = some (.cells #[.int .i64 n, .int .i64 f, .slice A la ca, .slice B lb cb] 33 (0, 0))
section
variable {w w' : World} {b : Nat} {n f : Int} {A B : Option Addr} {la ca lb cb : Nat}
theorem Box.c0 (h : Box w b n f A la ca B lb cb) : w.cell? ⟨b, 0, none⟩ = some (.int .i64 n) := by simp only [World.cell?]; rw [show w.heap[b]? = _ from h]; rfl
theorem Box.c1 (h : Box w b n f A la ca B lb cb) : w.cell? ⟨b, 1, none⟩ = some (.int .i64 f) := by simp only [World.cell?]; rw [show w.heap[b]? = _ from h]; rfl
theorem Box.c2 (h : Box w b n f A la ca B lb cb) : w.cell? ⟨b, 2, none⟩ = some (.slice A la ca) := by simp only [World.cell?]; rw [show w.heap[b]? = _ from h]; rfl
theorem Box.c3 (h : Box w b n f A la ca B lb cb) : w.cell? ⟨b, 3, none⟩ = some (.slice B lb cb) := by simp only [World.cell?]; rw [show w.heap[b]? = _ from h]; rfl
theorem Box.below (h : Box w b n f A la ca B lb cb) (hb : Below w.heap.size w w') : Box w' b n f A la ca B lb cb := (hb.block b (Array.getElem?_eq_some_iff.1 (show w.heap[b]? = _ from h)).1).trans h
theorem Box.belowAt {B0 : Nat} (h : Box w b n f A la ca B lb cb) (hb : Below B0 w w') (hlt : b < B0) : Box w' b n f A la ca B lb cb := (hb.block b hlt).trans h
theorem Box.new (w : World) (n f : Int) (A : Option Addr) (la ca : Nat) (B : Option Addr) (lb cb : Nat) : Box (w.alloc (.cells #[.int .i64 n, .int .i64 f, .slice A la ca, .slice B lb cb] 33)) w.heap.size n f A la ca B lb cb := heap_alloc_new _ _
end
/-- The distances, so far. -/
def pt (n : Nat) (dist : List (List Int)) (p : Nat) : List Int := (List.range (n * n)).map fun q => if q < p then dd dist (q / n) (q % n) else 0
theorem pt_zero (n : Nat) (dist : List (List Int)) : pt n dist 0 = List.replicate (n * n) 0 := by
  unfold pt
  apply List.ext_getElem
  · simp
  · intro i h1 h2; simp
theorem pt_len (n : Nat) (dist : List (List Int)) (p : Nat) : (pt n dist p).length = n * n := by unfold pt; simp
theorem pt_set (n : Nat) (dist : List (List Int)) (i j : Nat) (hi : i < n) (hj : j < n) : (pt n dist (i * n + j)).set (i * n + j) (dd dist i j) = pt n dist (i * n + j + 1) := by
  have hd : (i * n + j) / n = i := by rw [Nat.mul_comm, Nat.mul_add_div (by omega), Nat.div_eq_of_lt hj]; rfl
  have hm : (i * n + j) % n = j := by rw [Nat.mul_comm, Nat.mul_add_mod, Nat.mod_eq_of_lt hj]
  unfold pt
  apply List.ext_getElem
  · simp
  · intro q h1 h2
    simp only [List.length_set, List.length_map, List.length_range] at h1
    rw [List.getElem_set]
    simp only [List.getElem_map, List.getElem_range]
    by_cases hq : i * n + j = q
    · rw [if_pos hq, ← hq, hd, hm, if_pos (by omega)]
    · rw [if_neg hq]
      by_cases h : q < i * n + j
      · rw [if_pos h, if_pos (by omega)]
      · rw [if_neg h, if_neg (by omega)]
def TabP (w : World) (n : Nat) (dist : List (List Int)) (e : Ending) (w' : World) : Prop :=
  Below w.heap.size w w' ∧ (lensB n dist = false → e = .returned (.pointer none)) ∧ (lensB n dist = true → ∃ g h, e = .returned (.pointer (some ⟨g, 0, none⟩)) ∧ Gr w' w.heap.size g h n n (pt n dist (n * n)))
def RelT (w : World) (n : Nat) (f : Int) (A : Option Addr) (la ca : Nat) (B : Option Addr) (lb cb : Nat) (dist : List (List Int)) (g h : Nat) (v30 : Value) (wr : World) : Prop :=
  ∃ i : Nat, v30 = .int .i64 i ∧ i ≤ n ∧ (∀ a, a < i → (dist.getD a []).length = n) ∧ Gr wr (w.heap.size + 1) g h n n (pt n dist (i * n)) ∧ Box wr w.heap.size n f A la ca B lb cb ∧ Below w.heap.size w wr
def RelTI (w : World) (n : Nat) (f : Int) (A : Option Addr) (la ca : Nat) (B : Option Addr) (lb cb : Nat) (dist : List (List Int)) (g h i : Nat) (v42 : Value) (wr : World) : Prop :=
  ∃ j : Nat, v42 = .int .i64 j ∧ j ≤ n ∧ Gr wr (w.heap.size + 1) g h n n (pt n dist (i * n + j)) ∧ Box wr w.heap.size n f A la ca B lb cb ∧ Below w.heap.size w wr
theorem below_less {B B' : Nat} {w w' : World} (h : Below B w w') (hle : B' ≤ B) : Below B' w w' := ⟨h.os, h.tape, h.output, h.size, fun k hk => h.block k (Nat.lt_of_lt_of_le hk hle)⟩
theorem Gr.mono {w : World} {base base' g h n m : Nat} {xs : List Int} (H : Gr w base g h n m xs) (hb : base' ≤ base) : Gr w base' g h n m xs := ⟨Nat.le_trans hb H.lo, Nat.le_trans hb H.loh, H.ne, H.cell, H.row, H.len⟩
set_option maxHeartbeats 4000000 in
set_option maxRecDepth 100000 in
theorem table_own (n : Nat) (h1 : 1 ≤ n) (h8 : n ≤ 8) (f : Int) (A : Option Addr) (la ca : Nat) (B : Option Addr) (cb : Nat) (dist : List (List Int)) (w : World) (hr3 : Kd.C (Kd.slice 3 (Kd.int .i64)) w B dist.length dist) (hcb : dist.length ≤ cb) :
    Calls Try.prog 54 #[.agg #[.int .i64 n, .int .i64 f, .slice A la ca, .slice B dist.length cb]] w (TabP w n dist) := by
  have HR3 := Aside0.mk hr3
  have hmax : dist.length ≤ 9223372036854775807 := hr3.2.1
  clear hr3
  go_enter Try.func54, Try.ntmps54
  go_upto_region 2 with (go_at_call 69; (with_reducible refine (new_g n h1 h8 _).mono ?_); rintro e_ w2 ⟨g, h, rfl, hg, hb⟩; have HG := Aside0.mk hg; have HX := Aside0.mk ((Box.new w n f A la ca B dist.length cb).below hb); have HB := Aside0.mk (below_then (below_alloc (Below.refl w.heap.size w) _) (by simp) hb); clear hg hb)
  have c0 := HX.out.c0
  have c3 := HX.out.c3
  by_cases hln : dist.length = n
  · have HLN := Aside0.mk hln
    rw [hln] at c3
    have hq2 : ((n : Int) != (n : Int)) = false := by simp
    have H0 := Aside0.mk (show RelT w n f A la ca B dist.length cb dist g h (.int .i64 0) w2 from ⟨0, rfl, Nat.zero_le _, fun a ha => absurd ha (by omega), by rw [Nat.zero_mul, pt_zero]; have := HG.out; rw [World.size_alloc] at this; exact this, HX.out, HB.out⟩)
    clear hln HX HB HG
    go_wp2_with fail
    clear c0 c3
    go_loopw [30, 5, 6, 7, 8, 40, 41, 42] (fun v30 _ _ _ _ _ _ _ wr => RelT w n f A la ca B dist.length cb dist g h v30 wr) (fun v30 _ _ _ _ _ _ _ _ => n - (intOf v30).toNat)
    case atStart => exact H0.out
    case round =>
      clear H0
      obtain ⟨i, rfl, hi, hrow, hG, hX, hB⟩ := hrel
      have HG := Aside0.mk hG
      have HX := Aside0.mk hX
      have HB := Aside0.mk hB
      have HRW := Aside0.mk hrow
      clear hG hX hB hrow
      have hi0 : (0 : Int) ≤ (i : Int) := by omega
      by_cases hlt : i < n
      · have hltb : decide (i < n) = true := decide_eq_true hlt
        have hltI : (i : Int) < (n : Int) := by omega
        have c0 := HX.out.c0
        obtain ⟨ad, A0, cc, rfl, p0, hcc, hrd⟩ := at_L1 HR3.out (i : Int) hi0 (by rw [HLN.out]; omega)
        rw [Int.toNat_natCast] at p0
        rw [rdl] at p0 hcc hrd
        have p0 := pw_cell_below HB.out p0
        obtain ⟨row, hrw⟩ : ∃ row, dist.getD i [] = row := ⟨_, rfl⟩
        rw [hrw] at p0 hcc hrd
        have HRWI := Aside0.mk hrw
        clear hrw
        by_cases hlen : row.length = n
        · rw [hlen] at p0 hcc hrd
          have HLEN := Aside0.mk hlen
          have HRD := Aside0.mk hrd
          clear hlen hrd
          go_wp2_with fail
          have H1 := Aside0.mk (show RelTI w n f A la ca (some ad) dist.length cb dist g h i (.int .i64 0) wr from ⟨0, rfl, Nat.zero_le _, HG.out, HX.out, HB.out⟩)
          clear HG HX HB c0 p0
          go_loopw [42, 7, 8] (fun v42 _ _ wr => RelTI w n f A la ca (some ad) dist.length cb dist g h i v42 wr) (fun v42 _ _ _ => n - (intOf v42).toNat)
          case atStart => exact H1.out
          case round =>
            clear H1
            obtain ⟨j, rfl, hj, hG, hX, hB⟩ := hrel
            have HG := Aside0.mk hG
            have HX := Aside0.mk hX
            have HB := Aside0.mk hB
            clear hG hX hB
            have hj0 : (0 : Int) ≤ (j : Int) := by omega
            by_cases hjn : j < n
            · have hjb : decide (j < n) = true := decide_eq_true hjn
              have hjI : (j : Int) < (n : Int) := by omega
              obtain ⟨ad2, rfl, q0⟩ := Kd.at_int HRD.out (j : Int) hj0 hjI
              have q0 := pw_cell_below HB.out q0
              rw [Int.toNat_natCast] at q0
              have hrr : rd row (j : Int) = dd dist i j := by rw [← HRWI.out, ← rdl, rd_dd]
              rw [hrr] at q0
              clear hrr
              go_wp2_with (go_at_call 70; (with_reducible refine (put_g (w.heap.size + 1) g h n n i j (i * n + j) (dd dist i j) _ _ HG.out hlt hjn h8 h8 rfl).mono ?_); rintro e_ w3 ⟨rfl, hw⟩; have HG2 := Aside0.mk (hw ▸ HG.out.put (i * n + j) (dd dist i j)); have HB2 := Aside0.mk (HB.out.trans (hw ▸ below_less (HG.out.putBelow (i * n + j) (.int .i64 (dd dist i j))) (Nat.le_succ _))); have HX2 := Aside0.mk (hw ▸ HX.out.belowAt (HG.out.putBelow (i * n + j) (.int .i64 (dd dist i j))) (Nat.lt_succ_self _)); clear hw)
              go_roundw
              case rel => exact ⟨j + 1, by go_num, by omega, by rw [← Nat.add_assoc, ← pt_set n dist i j hlt hjn]; exact HG2.out, HX2.out, HB2.out⟩
              case measure => simp [intOf]; omega
            · obtain rfl : j = n := by omega
              have hjb : decide (j < j) = false := decide_eq_false hjn
              go_wp2_with fail
              go_roundw
              case rel => exact ⟨i + 1, by go_num, by omega, fun a ha => by
                rcases Nat.lt_or_ge a i with h' | h'
                · exact HRW.out a h'
                · obtain rfl : a = i := by omega
                  rw [HRWI.out]; exact HLEN.out, by rw [Nat.succ_mul]; exact HG.out, HX.out, HB.out⟩
              case measure => simp [intOf]; omega
        · have hq3 : ((row.length : Int) != (n : Int)) = true := by simp; omega
          have HF := Aside0.mk (show lensB n dist = false by
            unfold lensB
            rw [Bool.and_eq_false_iff]
            right
            rw [List.all_eq_false]
            exact ⟨i, List.mem_range.2 hlt, by rw [HRWI.out]; simpa using hlen⟩)
          clear hlen hrd
          go_wp2_with fail
          go_ret
          exact ⟨HB.out, fun _ => rfl, fun h => by rw [HF.out] at h; cases h⟩
      · obtain rfl : i = n := by omega
        have hltb : decide (i < i) = false := decide_eq_false hlt
        have HTT := Aside0.mk (show lensB i dist = true by
          unfold lensB
          rw [HLN.out, decide_eq_true rfl, Bool.true_and, List.all_eq_true]
          intro a ha
          exact decide_eq_true (HRW.out a (List.mem_range.1 ha)))
        go_wp2_with fail
        go_ret
        exact ⟨HB.out, (fun h => by rw [HTT.out] at h; cases h), fun _ => ⟨g, h, rfl, HG.out.mono (Nat.le_succ _)⟩⟩
  · have hq1 : ((dist.length : Int) != (n : Int)) = true := by simp; omega
    have HF := Aside0.mk (show lensB n dist = false by unfold lensB; rw [decide_eq_false hln, Bool.false_and])
    clear hln
    go_wp2_with fail
    go_ret
    exact ⟨HB.out, fun _ => rfl, fun h => by rw [HF.out] at h; cases h⟩
end Go.Proofs.Ytffmhpfdfcpniaa.T
