/- The laws' own machine: zones. -/
import Derived.Test.YtffmhpfdfcpniaaO
namespace Go.Proofs.Ytffmhpfdfcpniaa.T
open Go.RowKit Go.Sort Go.Proofs.YtffmhpfdfcpniaaW.PrintWords Go.Proofs.YtffmhpfdfcpniaaW.PrintLast Go.Proofs.YtffmhpfdfcpniaaW.PrintMore Go.Proofs.Ytffmhpfdfcpniaa.PH
set_option linter.unusedVariables false
set_option linter.unusedSimpArgs false
def zd : List (List Int) := [[10,20],[20,10]]
theorem z_list : lstN 2 4 [0] zd 1 = [1,0] := by decide +kernel
theorem z_er : erN 2 4 [0] zd 1 = 0 := by decide +kernel
theorem z_near : nearV (nearR [true, false] (inL 3 (lstN 2 4 [0] zd 1))) = .tuple #[.int .i64 0, .bool true] := by
  rw [show nearR [true, false] (inL 3 (lstN 2 4 [0] zd 1)) = some 0 by decide +kernel]; rfl
def zo0 : Obj := .cells #[.int .i64 0] 3
def zo1 : Obj := .cells #[.int .i64 10, .int .i64 20] 3
def zo2 : Obj := .cells #[.int .i64 20, .int .i64 10] 3
def zo3 (b : Nat) : Obj := .cells #[.slice (some ⟨b + 1, 0, none⟩) 2 2, .slice (some ⟨b + 1 + 1, 0, none⟩) 2 2] 22
def zo4 (b : Nat) : Obj := .cells #[.int .i64 2, .int .i64 4, .slice (some ⟨b, 0, none⟩) 1 1, .slice (some ⟨b + 1 + 1 + 1, 0, none⟩) 2 2] 33
def zw (w : World) : World := ((((w.alloc zo0).alloc zo1).alloc zo2).alloc (zo3 w.heap.size)).alloc (zo4 w.heap.size)
theorem zw_size (w : World) : (zw w).heap.size = w.heap.size + 5 := by unfold zw; simp only [World.size_alloc]
theorem zw0 (w : World) : (zw w).heap[w.heap.size]? = some zo0 := by
  unfold zw
  rw [heap_alloc_old _ _ (by simp only [World.size_alloc]; omega), heap_alloc_old _ _ (by simp only [World.size_alloc]; omega), heap_alloc_old _ _ (by simp only [World.size_alloc]; omega), heap_alloc_old _ _ (by simp only [World.size_alloc]; omega)]
  exact heap_alloc_new _ _
theorem zw1 (w : World) : (zw w).heap[w.heap.size + 1]? = some zo1 := by
  unfold zw
  rw [heap_alloc_old _ _ (by simp only [World.size_alloc]; omega), heap_alloc_old _ _ (by simp only [World.size_alloc]; omega), heap_alloc_old _ _ (by simp only [World.size_alloc]; omega)]
  exact alloc_two _ _ _
theorem zw2 (w : World) : (zw w).heap[w.heap.size + 1 + 1]? = some zo2 := by
  unfold zw
  rw [heap_alloc_old _ _ (by simp only [World.size_alloc]; omega), heap_alloc_old _ _ (by simp only [World.size_alloc]; omega)]
  have := alloc_two (w.alloc zo0) zo1 zo2
  rw [World.size_alloc] at this
  exact this
theorem zw3 (w : World) : (zw w).heap[w.heap.size + 1 + 1 + 1]? = some (zo3 w.heap.size) := by
  unfold zw
  rw [heap_alloc_old _ _ (by simp only [World.size_alloc]; omega)]
  have := alloc_two ((w.alloc zo0).alloc zo1) zo2 (zo3 w.heap.size)
  simp only [World.size_alloc] at this
  exact this
theorem zw4 (w : World) : (zw w).heap[w.heap.size + 1 + 1 + 1 + 1]? = some (zo4 w.heap.size) := by
  unfold zw
  have := alloc_two (((w.alloc zo0).alloc zo1).alloc zo2) (zo3 w.heap.size) (zo4 w.heap.size)
  simp only [World.size_alloc] at this
  exact this
theorem row_C (W : World) (b : Nat) (t : TypeId) (xs : List Int) (h : W.heap[b]? = some (.cells (iv xs) t (0, 0))) (hl : xs.length ≤ 1000) : Kd.C (Kd.int .i64) W (some ⟨b, 0, none⟩) xs.length xs := by
  refine Kd.C_of_reads (d := (0 : Int)) (h1 := fun _ => rfl) ⟨rfl, by omega, fun _ => ⟨_, rfl, fun j hj => ?_⟩⟩
  rw [Addr.add_lit, Nat.zero_add]
  simp only [World.cell?, h]
  show (iv xs)[j]? = _
  unfold iv
  rw [List.getElem?_toArray, List.getElem?_map, List.getElem?_eq_getElem hj, List.getD_eq_getElem?_getD, List.getElem?_eq_getElem hj]; rfl
theorem row_B (W : World) (b : Nat) (t : TypeId) (xs : List Bool) (h : W.heap[b]? = some (.cells (xs.map Value.bool).toArray t (0, 0))) (hl : xs.length ≤ 1000) : Kd.C Kd.bool W (some ⟨b, 0, none⟩) xs.length xs := by
  refine Kd.C_of_reads (d := false) (h1 := fun _ => rfl) ⟨rfl, by omega, fun _ => ⟨_, rfl, fun j hj => ?_⟩⟩
  rw [Addr.add_lit, Nat.zero_add]
  simp only [World.cell?, h]
  show (xs.map Value.bool).toArray[j]? = _
  rw [List.getElem?_toArray, List.getElem?_map, List.getElem?_eq_getElem hj, List.getD_eq_getElem?_getD, List.getElem?_eq_getElem hj]; rfl
theorem z_cpus (w : World) : Kd.C (Kd.int .i64) (zw w) (some ⟨w.heap.size, 0, none⟩) 1 [0] := row_C _ _ 3 [0] (zw0 w) (by decide)
theorem z_dist (w : World) : Kd.C (Kd.slice 3 (Kd.int .i64)) (zw w) (some ⟨w.heap.size + 1 + 1 + 1, 0, none⟩) 2 zd := by
  have r1 := row_C (zw w) _ 3 [10, 20] (zw1 w) (by decide)
  have r2 := row_C (zw w) _ 3 [20, 10] (zw2 w) (by decide)
  have c0 : (zw w).cell? ⟨w.heap.size + 1 + 1 + 1, 0, none⟩ = some (.slice (some ⟨w.heap.size + 1, 0, none⟩) 2 2) := by simp only [World.cell?, zw3]; rfl
  have c1 : (zw w).cell? ⟨w.heap.size + 1 + 1 + 1, 1, none⟩ = some (.slice (some ⟨w.heap.size + 1 + 1, 0, none⟩) 2 2) := by simp only [World.cell?, zw3]; rfl
  refine ⟨rfl, by decide, fun _ => ⟨_, rfl, fun j p hp => ?_⟩⟩
  match j, hp with
  | 0, hp =>
    obtain rfl : [10, 20] = p := Option.some.inj hp
    refine ⟨[.slice (some ⟨w.heap.size + 1, 0, none⟩) 2 2], rfl, ⟨_, _, rfl, Nat.le_refl _, r1⟩, fun i u hu => ?_⟩
    match i, hu with
    | 0, hu => obtain rfl := Option.some.inj hu; exact c0
  | 1, hp =>
    obtain rfl : [20, 10] = p := Option.some.inj hp
    refine ⟨[.slice (some ⟨w.heap.size + 1 + 1, 0, none⟩) 2 2], rfl, ⟨_, _, rfl, Nat.le_refl _, r2⟩, fun i u hu => ?_⟩
    match i, hu with
    | 0, hu => obtain rfl := Option.some.inj hu; exact c1
theorem z_below (w : World) : RowKit.Below w.heap.size w (zw w) := below_alloc (below_alloc (below_alloc (below_alloc (below_alloc (RowKit.Below.refl _ _) _) _) _) _) _
theorem RowAt.at_ {w : World} {base g cap : Nat} {cur : Array Value} {l : List Int} (h : RowAt w base g cap cur l) (j : Nat) (x : Int) (hx : l[j]? = some x) : w.cell? ⟨g, j, none⟩ = some (.int .i64 x) := by
  have hj : j < l.length := (List.getElem?_eq_some_iff.1 hx).1
  simp only [World.cell?, h.cell]
  show cur[j]? = _
  have h1 : (cur.toList.take l.length)[j]? = (l.map (Value.int .i64))[j]? := by rw [h.tk]
  rw [List.getElem?_take_of_lt hj, List.getElem?_map, hx] at h1
  rw [← Array.getElem?_toList, h1]; rfl
set_option maxHeartbeats 2000000 in
set_option maxRecDepth 100000 in
theorem zones_own (w : World) : Calls Try.prog 15 #[] w fun e w' => e = .returned (.bool true) ∧ RowKit.Below w.heap.size w w' := by
  have ZO := Aside0.mk (show Calls Try.prog 11 #[.agg #[.int .i64 2, .int .i64 4, .slice (some ⟨w.heap.size, 0, none⟩) 1 1, .slice (some ⟨w.heap.size + 1 + 1 + 1, 0, none⟩) 2 2], .int .i64 1] (zw w) (fun e w' => ∃ v, e = .returned (.tuple #[v, .int .i64 0]) ∧ w'.ownsRow (zw w).heap.size 3 1 v ([1, 0] : List Int).length (nums .i64 [1, 0]) ∧ RowKit.Below (zw w).heap.size (zw w) w') by
    have := order_own 2 4 (some ⟨w.heap.size, 0, none⟩) 1 [0] (some ⟨w.heap.size + 1 + 1 + 1, 0, none⟩) 2 zd 1 (zw w) (z_cpus w) (Nat.le_refl _) (z_dist w) (Nat.le_refl _)
    rw [z_list, z_er] at this
    exact this)
  have ZN := Aside0.mk (show ∀ (W : World), RowKit.Below (zw w).heap.size (zw w) W → ∀ (M : Option Addr), Kd.C Kd.bool W M 2 [true, false] → Calls Try.prog 14 #[.agg #[.int .i64 2, .int .i64 4, .slice (some ⟨w.heap.size, 0, none⟩) 1 1, .slice (some ⟨w.heap.size + 1 + 1 + 1, 0, none⟩) 2 2], .int .i64 1, .int .u8 3, .slice M 2 2] W (fun e w' => e = .returned (.tuple #[.int .i64 0, .bool true]) ∧ RowKit.Below W.heap.size W w') by
    intro W hb M hm
    have := nearest_own 2 4 (some ⟨w.heap.size, 0, none⟩) 1 [0] (some ⟨w.heap.size + 1 + 1 + 1, 0, none⟩) 2 zd 1 3 M 2 [true, false] W (Kd.C_below (z_cpus w) hb) (Nat.le_refl _) (Kd.C_below (z_dist w) hb) (Nat.le_refl _) hm
    rw [z_near] at this
    exact this)
  have hbx : Box (zw w) (w.heap.size + 1 + 1 + 1 + 1) 2 4 (some ⟨w.heap.size, 0, none⟩) 1 1 (some ⟨w.heap.size + 1 + 1 + 1, 0, none⟩) 2 2 := zw4 w
  have HBX := Aside0.mk hbx
  have HZ := Aside0.mk (z_below w)
  go_enter Try.func15, Try.ntmps15
  go_upto_region 2 with fail
  have c0 := hbx.c0
  have c1 := hbx.c1
  have c2 := hbx.c2
  have c3 := hbx.c3
  clear hbx
  change Code.wp _ _ _ _ (zw w)
  obtain ⟨W, hW⟩ : ∃ W, zw w = W := ⟨_, rfl⟩
  rw [hW] at ZO ZN HBX HZ c0 c1 c2 c3 ⊢
  clear hW
  go_upto_region 3 with (first | (go_at_call 11; (with_reducible refine ZO.out.mono ?_); rintro e_ w2 ⟨v, rfl, hown, hb⟩; have HOW := Aside0.mk hown; have HB := Aside0.mk hb; clear hown hb))
  rcases own_open HOW.out with ⟨_, h⟩ | ⟨g, cap, cur, rfl, hra⟩
  · cases h
  have q0 := hra.at_ 0 1 rfl
  have q1 := hra.at_ 1 0 rfl
  have HRA := Aside0.mk hra
  have d0 := (HBX.out.below HB.out).c0
  have d1 := (HBX.out.below HB.out).c1
  have d2 := (HBX.out.below HB.out).c2
  have d3 := (HBX.out.below HB.out).c3
  have HB2 := Aside0.mk (show RowKit.Below w.heap.size w w2 from below_then HZ.out HZ.out.size HB.out)
  clear hra c0 c1 c2 c3
  have hl2 : ([1, 0] : List Int).length = 2 := rfl
  rw [hl2]
  go_wp2_with (first | (go_at_call 14; (with_reducible refine (ZN.out _ (below_alloc HB.out _) _ (row_B _ _ 4 [true, false] (heap_alloc_new _ _) (by decide))).mono ?_); rintro e_ w3 ⟨rfl, hb⟩; have HB3 := Aside0.mk (below_then (below_alloc HB2.out _) (by have := HB2.out.size; simp; omega) hb); have r0 := pw_cell_below (below_then (below_alloc (RowKit.Below.refl w2.heap.size w2) _) (by simp) hb) q0; have r1 := pw_cell_below (below_then (below_alloc (RowKit.Below.refl w2.heap.size w2) _) (by simp) hb) q1; clear hb q0 q1))
  go_ret
  exact ⟨rfl, HB3.out⟩
end Go.Proofs.Ytffmhpfdfcpniaa.T
