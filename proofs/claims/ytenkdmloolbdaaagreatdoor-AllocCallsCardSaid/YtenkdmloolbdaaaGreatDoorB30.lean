/- Sets of nodes; the closure of zone.Within. zone.Order and zone.Within, of whatever machine. zone.Nearest, of whatever machine. Policies: what a check, a permitted set and a start answer; the program's and the document's functions come to them. -/
import Derived.Test.YtenkdmloolbdaaaGreatDoorB29
import Derived.Test.YtenkdmloolbdaaaGreatDoorB26
section
namespace Go.Proofs.YtenkdmloolbdaaaGreatDoor.TZ
open Go.RowKit Go.Sort Go.Proofs.YtenkdmloolbdaaaGreatDoorW.PrintWords Go.Proofs.YtenkdmloolbdaaaGreatDoorW.PrintLast Go.Proofs.YtenkdmloolbdaaaGreatDoorW.PrintMore Go.Proofs.YtenkdmloolbdaaaGreatDoor.PH
set_option linter.unusedVariables false
set_option linter.unusedSimpArgs false
/-- Is a node in a set? -/
def hasB (s x : Int) : Bool := if 0 ≤ x ∧ x < 8 then ((Go.bits .and .u8 (shr .u8 s x) 1) == 1) else false
theorem right_own (x : Int) (b : Bool) (hb : decide (0 ≤ x ∧ x < 8) = b) (W : World) : Calls Tryz.prog 109 #[.int .i64 x] W fun e w' => e = .returned (.bool b) ∧ w' = W := by
  by_cases h0 : 0 ≤ x
  · have d0 : decide (0 ≤ x) = true := decide_eq_true h0
    have d1 : decide (x < 8) = b := by rw [← hb, decide_eq_decide]; omega
    clear hb
    go_enter Tryz.func109, Tryz.ntmps109
    go_wp2_with fail
    go_ret
    exact ⟨rfl, rfl⟩
  · have d0 : decide (0 ≤ x) = false := decide_eq_false h0
    obtain rfl : b = false := by rw [← hb]; exact decide_eq_false (by omega)
    go_enter Tryz.func109, Tryz.ntmps109
    go_wp2_with fail
    go_ret
    exact ⟨rfl, rfl⟩
theorem has_own (s x : Int) (W : World) : Calls Tryz.prog 50 #[.int .u8 s, .int .i64 x] W fun e w' => e = .returned (.bool (hasB s x)) ∧ w' = W := by
  by_cases h : 0 ≤ x ∧ x < 8
  · have hr := right_own x true (decide_eq_true h)
    have hh : hasB s x = ((Go.bits .and .u8 (shr .u8 s x) 1) == 1) := if_pos h
    rw [hh]
    have d0 : decide (0 ≤ x) = true := decide_eq_true h.1
    have d00 := eq_true h.1
    obtain ⟨j, hj⟩ : ∃ j : Int, (shr .u8 s x) = j := ⟨_, rfl⟩
    rw [hj]
    have hj1 : (s / 2 ^ min x.toNat 8) = j := hj
    have hj2 : x ≤ 8 → (s / 2 ^ x.toNat) = j := shr_small hj
    clear hh hj
    go_enter Tryz.func50, Tryz.ntmps50
    go_wp2_with (first | (go_at_call 109; (with_reducible refine (hr _).mono ?_); rintro e_ w2 ⟨rfl, rfl⟩))
    go_ret
    exact ⟨by rw [hj2 (by omega)]; rfl, rfl⟩
  · have hr := right_own x false (decide_eq_false h)
    have hh : hasB s x = false := if_neg h
    rw [hh]
    clear hh
    go_enter Tryz.func50, Tryz.ntmps50
    go_wp2_with (first | (go_at_call 109; (with_reducible refine (hr _).mono ?_); rintro e_ w2 ⟨rfl, rfl⟩))
    go_ret
    exact ⟨rfl, rfl⟩
theorem in_gives (s x : Int) (p : Nat) (W : World) (hp : W.cell? ⟨p, 0, none⟩ = some (.int .u8 s)) : FnGives Tryz.prog 201 #[.pointer (some ⟨p, 0, none⟩)] #[.int .i64 x] (.bool (!hasB s x)) W := by
  show Calls Tryz.prog 201 #[.int .i64 x, .pointer (some ⟨p, 0, none⟩)] W _
  have hh := has_own s x
  obtain ⟨b, hb⟩ : ∃ b, hasB s x = b := ⟨_, rfl⟩
  rw [hb] at hh ⊢
  clear hb
  go_enter Tryz.func201, Tryz.ntmps201
  go_wp2_with (first | (go_at_call 50; (with_reducible refine (hh _).mono ?_); rintro e_ w2 ⟨rfl, rfl⟩))
  go_ret
  exact ⟨rfl, 0, rfl⟩
theorem indexf_nil (W : World) (fv : Value) : Calls Tryz.prog 179 #[.slice none 0 0, fv] W fun e w' => e = .returned (.int .i64 (-1)) ∧ w' = W := by
  have hcon := AnyE.slices_IndexFunc_empty { Tryz.layContains with } none 0 fv W
  exact hcon
theorem delete_nil (W : World) (g : Nat) (lb : Array Value) : Calls Tryz.prog 200 #[.slice none 0 0, .func (.func g) #[] lb] W fun e w' => e = .returned (.slice none 0 0) ∧ w' = W := by
  have hi := fun w => indexf_nil w (.func (.func g) #[] lb)
  go_enter Tryz.func200, Tryz.ntmps200
  go_wp2_with (first | (go_at_call 179; (with_reducible refine (hi _).mono ?_); rintro e_ w2 ⟨rfl, rfl⟩))
  go_ret
  exact ⟨rfl, rfl⟩
/-- Those of a set. -/
def inL (s : Int) (l : List Int) : List Int := l.filter (hasB s)
theorem delete_own (s : Int) (p g cap : Nat) (cur : Array Value) (l : List Int) (base : Nat) (W : World) (hgb : base ≤ g) (hg : W.heap[g]? = some (.cells cur 3 (0, 0))) (hlc : l.length ≤ cap) (hcm : cap ≤ maxLen) (hcs : cur.size = cap * 1) (ht : cur.toList.take l.length = l.map (Value.int .i64)) (hl : l.length ≤ 1000)
    (hp : W.cell? ⟨p, 0, none⟩ = some (.int .u8 s)) (hpg : p ≠ g) (hpl : p < W.heap.size) :
    Calls Tryz.prog 200 #[.slice (some ⟨g, 0, none⟩) l.length cap, .func (.func 201) #[] #[.pointer (some ⟨p, 0, none⟩)]] W fun e w' => ∃ v, e = .returned v ∧ w'.ownsRow base 3 1 v (inL s l).length (nums .i64 (inL s l)) ∧ W.grownBy w' (some g) := by
  have eg : ∀ args w, (callFunc 201 args).run Tryz.prog w = .ok (.enter 201 args) w := enters_of Tryz.func201 (by kernel_rfl) rfl
  have hH : Holds (Value.int .i64) W g 0 l.toArray := Go.holds_of_blockI hg ht
  have hcon := AnyE.slices_DeleteFunc Tryz.layDelete (Value.int .i64) (fun _ => rfl) (fun x => !hasB s x) 201 #[.pointer (some ⟨p, 0, none⟩)] eg 0 Tryz.zeroValue3 g 0 cap l.toArray W
    (fun W' x hb => in_gives s x p W' ((hb.cell (p := ⟨p, 0, none⟩) hpl).trans hp))
    (fun n os dk x hdk => in_gives s x p _ (by
      unfold sortWorld
      rw [cell?_grow _ _ _ (by rw [size_putRow]; exact hpl), cell?_putRow_other _ _ g 0 _ _ (Or.inl hpg)]
      exact hp)) hH (by simpa using (by omega : l.length ≤ 9223372036854775807)) (by simpa using hlc)
  change Calls Tryz.prog 200 _ _ _ at hcon
  have hf : (l.filter fun x => !!hasB s x) = inL s l := by
    unfold inL
    congr 1
    funext x
    rw [Bool.not_not]
  simp only [List.size_toArray] at hcon
  rw [hf] at hcon
  have hll : (inL s l).length ≤ l.length := List.length_filter_le _ _
  obtain ⟨ts, hts⟩ : ∃ ts, inL s l ++ List.replicate (l.length - (inL s l).length) 0 = ts := ⟨_, rfl⟩
  rw [hts] at hcon
  have htl : ts.length = l.length := by rw [← hts, List.length_append, List.length_replicate]; omega
  refine hcon.mono ?_
  rintro e w' ⟨rfl, q, rfl⟩
  have hgr := Go.grownBy_sortedI (w := W) (g := g) (n := q) (os := #[]) ts.toArray
  have how := Go.ownsRow_sortedI (w := W) (base := base) (cap := cap) (n := q) (os := #[]) (ss := l) (ts := ts) htl hgb hg hlc hcm hcs
  rw [grow_empty] at hgr how
  refine ⟨_, rfl, ?_, hgr⟩
  obtain ⟨_, hor⟩ := how
  refine ⟨by unfold nums; simp, .inr ?_⟩
  rcases hor with ⟨h0, _⟩ | ⟨g', cap', cur', hv, h1, h2, h3, h4, h5, h6⟩
  · cases h0
  · cases hv
    refine ⟨g, cap, cur', rfl, h1, h2, by omega, h4, h5, ?_⟩
    rw [Nat.mul_one] at h6 ⊢
    have : cur'.toList.take (inL s l).length = (cur'.toList.take l.length).take (inL s l).length := by rw [List.take_take, Nat.min_eq_left hll]
    rw [this, h6, ← List.map_take, ← hts, List.take_left']
    · rfl
    · rfl
end Go.Proofs.YtenkdmloolbdaaaGreatDoor.TZ
end
section
namespace Go.Proofs.YtenkdmloolbdaaaGreatDoor.TZ
open Go.RowKit Go.Sort Go.Proofs.YtenkdmloolbdaaaGreatDoorW.PrintWords Go.Proofs.YtenkdmloolbdaaaGreatDoorW.PrintLast Go.Proofs.YtenkdmloolbdaaaGreatDoorW.PrintMore Go.Proofs.YtenkdmloolbdaaaGreatDoor.PH
set_option linter.unusedVariables false
set_option linter.unusedSimpArgs false
/-- The order that is told. -/
def lstN (n f : Int) (cpus : List Int) (dist : List (List Int)) (node : Int) : List Int := if erN n f cpus dist node = 0 then ordL dist node.toNat n.toNat else []
/-- What erN 0 says. -/
theorem er_zero {n f : Int} {cpus : List Int} {dist : List (List Int)} {node : Int} (h : erN n f cpus dist node = 0) : ∃ k a : Nat, n = (k : Int) ∧ node = (a : Int) ∧ a < k ∧ 1 ≤ k ∧ k ≤ 8 ∧ chk n f cpus dist = 0 ∧ Far dist a k := by
  unfold erN at h
  by_cases hc : chk n f cpus dist = 0
  · rw [if_pos hc] at h
    by_cases hn : node < 0 ∨ n ≤ node
    · rw [if_pos hn] at h; omega
    · obtain ⟨k, hk, h1, h8, _, _, hfit⟩ := chk_zero hc
      have ha : node.toNat < k := by omega
      exact ⟨k, node.toNat, hk, by omega, ha, h1, h8, hc, fit_far hfit _ ha⟩
  · rw [if_neg hc] at h; exact absurd h hc
theorem lstN_len (n f : Int) (cpus : List Int) (dist : List (List Int)) (node : Int) : (lstN n f cpus dist node).length ≤ 8 := by
  unfold lstN
  by_cases h : erN n f cpus dist node = 0
  · rw [if_pos h]
    obtain ⟨k, a, rfl, rfl, hak, h1, h8, _, hf⟩ := er_zero h
    rw [Int.toNat_natCast, Int.toNat_natCast, ordL_len _ _ _ hf]; exact h8
  · rw [if_neg h]; exact Nat.zero_le _
theorem order_own (n f : Int) (A : Option Addr) (ca : Nat) (cpus : List Int) (B : Option Addr) (cb : Nat) (dist : List (List Int)) (node : Int) (w : World) (hr2 : Kd.C (Kd.int .i64) w A cpus.length cpus) (hca : cpus.length ≤ ca) (hr3 : Kd.C (Kd.slice 3 (Kd.int .i64)) w B dist.length dist) (hcb : dist.length ≤ cb) :
    Calls Tryz.prog 199 #[.agg #[.int .i64 n, .int .i64 f, .slice A cpus.length ca, .slice B dist.length cb], .int .i64 node] w fun e w' => ∃ v, e = .returned (.tuple #[v, .int .i64 (erN n f cpus dist node)]) ∧ w'.ownsRow w.heap.size 3 1 v (lstN n f cpus dist node).length (nums .i64 (lstN n f cpus dist node)) ∧ RowKit.Below w.heap.size w w' := by
  by_cases h : erN n f cpus dist node = 0
  · have hl : lstN n f cpus dist node = ordL dist node.toNat n.toNat := if_pos h
    rw [hl, h]
    obtain ⟨k, a, rfl, rfl, hak, h1, h8, hck, hf⟩ := er_zero h
    rw [Int.toNat_natCast, Int.toNat_natCast]
    exact order_good k a f A ca cpus B cb dist w hr2 hca hr3 hcb hck hak
  · have hl : lstN n f cpus dist node = [] := if_neg h
    rw [hl]
    refine (order_bad n f A ca cpus B cb dist node w hr2 hca hr3 hcb h).mono ?_
    rintro e w' ⟨rfl, hb⟩
    exact ⟨_, rfl, own_nil _ _ _ _, hb⟩
structure RowAt (w : World) (base g cap : Nat) (cur : Array Value) (l : List Int) : Prop where
  lo : base ≤ g
  cell : w.heap[g]? = some (.cells cur 3 (0, 0))
  lc : l.length ≤ cap
  cm : cap ≤ maxLen
  cs : cur.size = cap * 1
  tk : cur.toList.take l.length = l.map (Value.int .i64)
theorem own_open {w : World} {base : Nat} {v : Value} {l : List Int} (h : w.ownsRow base 3 1 v l.length (nums .i64 l)) : (v = .slice none 0 0 ∧ l = []) ∨ ∃ g cap cur, v = .slice (some ⟨g, 0, none⟩) l.length cap ∧ RowAt w base g cap cur l := by
  obtain ⟨_, ⟨hv, h0⟩ | ⟨g, cap, cur, hv, h1, h2, h3, h4, h5, h6⟩⟩ := h
  · exact .inl ⟨hv, List.length_eq_zero_iff.1 h0⟩
  · exact .inr ⟨g, cap, cur, hv, ⟨h1, h2, h3, h4, h5, by rw [Nat.mul_one] at h6; exact h6⟩⟩
set_option maxHeartbeats 2000000 in
set_option maxRecDepth 100000 in
theorem within_own (n f : Int) (A : Option Addr) (ca : Nat) (cpus : List Int) (B : Option Addr) (cb : Nat) (dist : List (List Int)) (node s : Int) (w : World) (hr2 : Kd.C (Kd.int .i64) w A cpus.length cpus) (hca : cpus.length ≤ ca) (hr3 : Kd.C (Kd.slice 3 (Kd.int .i64)) w B dist.length dist) (hcb : dist.length ≤ cb) :
    Calls Tryz.prog 162 #[.agg #[.int .i64 n, .int .i64 f, .slice A cpus.length ca, .slice B dist.length cb], .int .i64 node, .int .u8 s] w fun e w' => ∃ v, e = .returned (.tuple #[v, .int .i64 (erN n f cpus dist node)]) ∧ w'.ownsRow w.heap.size 3 1 v (inL s (lstN n f cpus dist node)).length (nums .i64 (inL s (lstN n f cpus dist node))) ∧ RowKit.Below w.heap.size w w' := by
  have HO := Aside0.mk (fun (W : World) h2 h3 => order_own n f A ca cpus B cb dist node W h2 hca h3 hcb)
  have HR2 := Aside0.mk hr2
  have HR3 := Aside0.mk hr3
  have hl8 := lstN_len n f cpus dist node
  clear hr2 hr3
  obtain ⟨l, hl⟩ : ∃ l, lstN n f cpus dist node = l := ⟨_, rfl⟩
  obtain ⟨er, her⟩ : ∃ er, erN n f cpus dist node = er := ⟨_, rfl⟩
  rw [hl] at HO hl8 ⊢
  rw [her] at HO ⊢
  clear hl her
  obtain ⟨w0, hw0⟩ : ∃ w0, (w.alloc (.cells #[.int .i64 n, .int .i64 f, .slice A cpus.length ca, .slice B dist.length cb] 37)).alloc (.cells #[.int .u8 s] 38) = w0 := ⟨_, rfl⟩
  have HB0 := Aside0.mk (show RowKit.Below w.heap.size w w0 from hw0 ▸ below_alloc (below_alloc (RowKit.Below.refl _ _) _) _)
  have HS0 := Aside0.mk (show w0.heap.size = w.heap.size + 2 by rw [← hw0, World.size_alloc, World.size_alloc])
  have HP0 := Aside0.mk (show w0.cell? ⟨w.heap.size + 1, 0, none⟩ = some (.int .u8 s) by
    rw [← hw0]
    have := heap_alloc_new (w.alloc (.cells #[.int .i64 n, .int .i64 f, .slice A cpus.length ca, .slice B dist.length cb] 37)) (.cells #[.int .u8 s] 38)
    rw [World.size_alloc] at this
    simp only [World.cell?, this]; rfl)
  have HW0 := Aside0.mk hw0
  clear hw0
  go_enter Tryz.func162, Tryz.ntmps162
  go_upto_region 2 with (first | (go_at_call 199; rw [HW0.out]; (with_reducible refine (HO.out _ (Kd.C_below HR2.out HB0.out) (Kd.C_below HR3.out HB0.out)).mono ?_); rintro e_ w2 ⟨v, rfl, hown, hb⟩; have HOW := Aside0.mk hown; have HB := Aside0.mk hb; clear hown hb))
  have HP2 := Aside0.mk (show w2.cell? ⟨w.heap.size + 1, 0, none⟩ = some (.int .u8 s) from (HB.out.cell (p := ⟨w.heap.size + 1, 0, none⟩) (by have := HS0.out; show w.heap.size + 1 < _; omega)).trans HP0.out)
  have HB2 := Aside0.mk (show RowKit.Below w.heap.size w w2 from below_then HB0.out (by have := HS0.out; omega) HB.out)
  rcases own_open HOW.out with ⟨rfl, rfl⟩ | ⟨g, cap, cur, rfl, hra⟩
  · clear HOW
    go_wp2_with (first | (go_at_call 200; (with_reducible refine (delete_nil _ _ _).mono ?_); rintro e_ w3 ⟨rfl, rfl⟩))
    go_ret2
    exact ⟨_, rfl, own_nil _ _ _ _, HB2.out⟩
  · have hz := HS0.out
    have hlo := hra.lo
    have hz2 := HB.out.size
    have HDEL := Aside0.mk (delete_own s (w.heap.size + 1) g cap cur l w.heap.size w2 (by omega) hra.cell hra.lc hra.cm hra.cs hra.tk (by omega) HP2.out (by omega) (by omega))
    have HGB := Aside0.mk (show w.heap.size ≤ g ∧ w.heap.size ≤ w2.heap.size by omega)
    clear hz hlo hz2 hra HOW
    go_wp2_with (first | (go_at_call 200; (with_reducible refine HDEL.out.mono ?_); rintro e_ w3 ⟨v, rfl, hown, hg⟩; have HOW3 := Aside0.mk hown; have HG3 := Aside0.mk hg; clear hown hg))
    go_ret2
    exact ⟨_, rfl, HOW3.out, HB2.out.trans (below_of_grown HG3.out HGB.out.1 HGB.out.2)⟩
end Go.Proofs.YtenkdmloolbdaaaGreatDoor.TZ
end
section
namespace Go.Proofs.YtenkdmloolbdaaaGreatDoor.TZ
open Go.RowKit Go.Sort Go.Proofs.YtenkdmloolbdaaaGreatDoorW.PrintWords Go.Proofs.YtenkdmloolbdaaaGreatDoorW.PrintLast Go.Proofs.YtenkdmloolbdaaaGreatDoorW.PrintMore Go.Proofs.YtenkdmloolbdaaaGreatDoor.PH
set_option linter.unusedVariables false
set_option linter.unusedSimpArgs false
/-- May a node? -/
def okB (may : List Bool) (x : Int) : Bool := decide (x < (may.length : Int)) && rdOf false may x
/-- The first one of a list that may. -/
def nearR (may : List Bool) (l : List Int) : Option Int := l.find? (okB may)
theorem near_hit (may : List Bool) (l : List Int) (i : Nat) (hi : i < l.length) (hno : ∀ j, j < i → okB may (rd l (j : Int)) = false) (hy : okB may (rd l (i : Int)) = true) : nearR may l = some (rd l (i : Int)) := by
  unfold nearR
  rw [List.find?_eq_some_iff_getElem]
  have e : ∀ j (hj : j < l.length), rd l (j : Int) = l[j] := fun j hj => rd_at l j hj
  refine ⟨hy, i, hi, (e i hi).symm, fun j hj => ?_⟩
  rw [← e j (by omega), hno j hj]; rfl
theorem near_miss (may : List Bool) (l : List Int) (hno : ∀ j, j < l.length → okB may (rd l (j : Int)) = false) : nearR may l = none := by
  unfold nearR
  rw [List.find?_eq_none]
  intro x hx
  obtain ⟨j, hj, rfl⟩ := List.mem_iff_getElem.1 hx
  have := hno j hj
  rw [rd_at l j hj] at this
  rw [this]; simp
/-- The answer as two. -/
def nearV (o : Option Int) : Value := .tuple #[.int .i64 (o.getD 0), .bool o.isSome]
def RelN (l : List Int) (may : List Bool) (w2 : World) (v25 : Value) (wr : World) : Prop :=
  ∃ i : Nat, v25 = .int .i64 i ∧ i ≤ l.length ∧ wr = w2 ∧ (∀ j, j < i → okB may (rd l (j : Int)) = false)
theorem ordL_nonneg (dist : List (List Int)) (a n : Nat) : ∀ x ∈ ordL dist a n, 0 ≤ x := by
  intro x hx
  unfold ordL at hx
  obtain ⟨b, _, rfl⟩ := List.mem_map.1 hx
  omega
theorem lstN_nonneg (n f : Int) (cpus : List Int) (dist : List (List Int)) (node : Int) : ∀ x ∈ lstN n f cpus dist node, 0 ≤ x := by
  intro x hx
  unfold lstN at hx
  by_cases h : erN n f cpus dist node = 0
  · rw [if_pos h] at hx; exact ordL_nonneg _ _ _ x hx
  · rw [if_neg h] at hx; cases hx
set_option maxHeartbeats 4000000 in
set_option maxRecDepth 100000 in
theorem nearest_own (n f : Int) (A : Option Addr) (ca : Nat) (cpus : List Int) (B : Option Addr) (cb : Nat) (dist : List (List Int)) (node s : Int) (M : Option Addr) (cm : Nat) (may : List Bool) (w : World) (hr2 : Kd.C (Kd.int .i64) w A cpus.length cpus) (hca : cpus.length ≤ ca) (hr3 : Kd.C (Kd.slice 3 (Kd.int .i64)) w B dist.length dist) (hcb : dist.length ≤ cb) (hrm : Kd.C Kd.bool w M may.length may) :
    Calls Tryz.prog 111 #[.agg #[.int .i64 n, .int .i64 f, .slice A cpus.length ca, .slice B dist.length cb], .int .i64 node, .int .u8 s, .slice M may.length cm] w fun e w' => e = .returned (nearV (nearR may (inL s (lstN n f cpus dist node)))) ∧ RowKit.Below w.heap.size w w' := by
  have HO := Aside0.mk (fun (W : World) h2 h3 => within_own n f A ca cpus B cb dist node s W h2 hca h3 hcb)
  have HR2 := Aside0.mk hr2
  have HR3 := Aside0.mk hr3
  have HRM := Aside0.mk hrm
  have hnn : ∀ x ∈ inL s (lstN n f cpus dist node), 0 ≤ x := fun x hx => lstN_nonneg n f cpus dist node x (List.mem_filter.1 hx).1
  have hl8 : (inL s (lstN n f cpus dist node)).length ≤ 8 := Nat.le_trans (List.length_filter_le _ _) (lstN_len n f cpus dist node)
  have hbadl : erN n f cpus dist node ≠ 0 → inL s (lstN n f cpus dist node) = [] := fun h => by rw [show lstN n f cpus dist node = [] from if_neg h]; rfl
  have hml := hrm.2.1
  clear hr2 hr3 hrm
  obtain ⟨l, hl⟩ : ∃ l, inL s (lstN n f cpus dist node) = l := ⟨_, rfl⟩
  obtain ⟨er, her⟩ : ∃ er, erN n f cpus dist node = er := ⟨_, rfl⟩
  rw [hl] at HO hl8 hnn hbadl ⊢
  rw [her] at HO hbadl
  clear hl her
  have HNN := Aside0.mk hnn
  clear hnn
  by_cases he0 : er = 0
  · subst he0
    clear hbadl
    go_enter Tryz.func111, Tryz.ntmps111
    go_upto_region 4 with (first | (go_at_call 162; (with_reducible refine (HO.out _ (Kd.C_alloc HR2.out _) (Kd.C_alloc HR3.out _)).mono ?_); rintro e_ w2 ⟨v, rfl, hown, hb⟩; have HOW := Aside0.mk hown; have HB := Aside0.mk (below_less0 _ _ _ hb); clear hown hb))
    obtain ⟨L, cl, rfl, hri⟩ := own_reads HOW.out
    have HRI := Aside0.mk hri
    have HRM2 := Aside0.mk (Kd.C_below HRM.out HB.out)
    clear hri HOW HRM HR2 HR3 HO
    have H0 := Aside0.mk (show RelN l may w2 (.int .i64 0) w2 from ⟨0, rfl, Nat.zero_le _, rfl, fun j hj => absurd hj (by omega)⟩)
    go_wp2_with fail
    go_loopw [25, 13] (fun v25 _ wr => RelN l may w2 v25 wr) (fun v25 _ _ => l.length - (intOf v25).toNat)
    case atStart => exact H0.out
    case round =>
      clear H0
      obtain ⟨i, rfl, hi, rfl, hno⟩ := hrel
      have HNO := Aside0.mk hno
      clear hno
      by_cases hil : i < l.length
      · have hib : decide (i < l.length) = true := decide_eq_true hil
        have i0 : (0 : Int) ≤ (i : Int) := by omega
        have iI : (i : Int) < (l.length : Int) := by omega
        obtain ⟨ad, rfl, q0⟩ := HRI.out.at_ (i : Int) i0 iI
        rw [Int.toNat_natCast] at q0
        obtain ⟨x, hx⟩ : ∃ x, rd l (i : Int) = x := ⟨_, rfl⟩
        have hx0 : 0 ≤ x := by rw [← hx, rd_at l i hil]; exact HNN.out _ (List.getElem_mem hil)
        rw [hx] at q0
        have HX := Aside0.mk hx
        clear hx
        have STEP := Aside0.mk (show okB may x = false → ∀ j, j < i + 1 → okB may (rd l (j : Int)) = false from fun hh j hj => by
          rcases Nat.lt_or_ge j i with h' | h'
          · exact HNO.out j h'
          · obtain rfl : j = i := by omega
            rw [HX.out]; exact hh)
        by_cases hxm : x < (may.length : Int)
        · have hxb : decide (x < (may.length : Int)) = true := decide_eq_true hxm
          obtain ⟨ad2, rfl, q1⟩ := Kd.at_bool HRM2.out x hx0 hxm
          obtain ⟨b, hb⟩ : ∃ b, rdOf false may x = b := ⟨_, rfl⟩
          rw [hb] at q1
          have hok : okB may x = b := by unfold okB; rw [hxb, hb]; rfl
          have HOK := Aside0.mk hok
          clear hb hok
          cases b with
          | true =>
            have HN := Aside0.mk (show nearR may l = some x by
              have := near_hit may l i hil HNO.out (by rw [HX.out]; exact HOK.out)
              rw [HX.out] at this; exact this)
            go_wp2_with fail
            go_ret2
            exact ⟨by rw [HN.out]; rfl, HB.out⟩
          | false =>
            go_wp2_with fail
            go_roundw
            case rel => exact ⟨i + 1, by go_num, by omega, rfl, STEP.out HOK.out⟩
            case measure => simp [intOf]; omega
        · have hxb : decide (x < (may.length : Int)) = false := decide_eq_false hxm
          have HOK := Aside0.mk (show okB may x = false by unfold okB; rw [hxb]; rfl)
          go_wp2_with fail
          go_roundw
          case rel => exact ⟨i + 1, by go_num, by omega, rfl, STEP.out HOK.out⟩
          case measure => simp [intOf]; omega
      · have hib : decide (i < l.length) = false := decide_eq_false hil
        have HN := Aside0.mk (near_miss may l (fun j hj => HNO.out j (by omega)))
        go_wp2_with fail
        go_ret2
        exact ⟨by rw [HN.out]; rfl, HB.out⟩
  · have hne : (er != 0) = true := by simpa using he0
    have HLN := Aside0.mk (hbadl he0)
    clear he0 hbadl
    go_enter Tryz.func111, Tryz.ntmps111
    go_wp2_with (first | (go_at_call 162; (with_reducible refine (HO.out _ (Kd.C_alloc HR2.out _) (Kd.C_alloc HR3.out _)).mono ?_); rintro e_ w2 ⟨v, rfl, hown, hb⟩; have HB := Aside0.mk (below_less0 _ _ _ hb); clear hown hb))
    go_ret2
    exact ⟨by rw [HLN.out]; rfl, HB.out⟩
end Go.Proofs.YtenkdmloolbdaaaGreatDoor.TZ
end
section
namespace Go.Proofs.YtenkdmloolbdaaaGreatDoor.TZ
open Go.RowKit Go.Proofs.YtenkdmloolbdaaaGreatDoorW.PrintWords Go.Proofs.YtenkdmloolbdaaaGreatDoorW.PrintLast Go.Proofs.YtenkdmloolbdaaaGreatDoorW.PrintMore Go.Proofs.YtenkdmloolbdaaaGreatDoor.PH
set_option linter.unusedVariables false
set_option linter.unusedSimpArgs false
/-- A set's nodes, rising. -/
def setL (s : Int) : List Int := inL s [0, 1, 2, 3, 4, 5, 6, 7]
/-- The set of the first so many nodes. -/
def allS (n : Int) : Int := ((shl .u8 1 n) - 1) % 256
theorem list_all : ∀ s : Nat, s < 256 → nodeset_List.f 20 (s : Int) = some (setL (s : Int)) := by decide +kernel
theorem list_all19 : ∀ s : Nat, s < 256 → nodeset_List.f 19 (s : Int) = some (setL (s : Int)) := by decide +kernel
theorem setL_pos : ∀ s : Nat, s < 256 → 0 < s → 0 < (setL s).length := by decide +kernel
theorem setL_below : ∀ s : Nat, s < 256 → ∀ n : Nat, n < 9 → Go.bits .andNot .u8 (s : Int) (allS n) = 0 → ∀ x ∈ setL s, x < (n : Int) := by decide +kernel
theorem setL_len (s : Int) : (setL s).length ≤ 8 := List.length_filter_le _ _
theorem setL_nonneg (s : Int) : ∀ x ∈ setL s, 0 ≤ x := by
  intro x hx
  have := (List.mem_filter.1 hx).1
  simp at this
  omega
/-- The first one behind c, going round. -/
def nextL (l : List Int) (c : Int) : Int × Bool := match l.find? (fun x => decide (x > c)) with
  | some x => (x, true)
  | none => if l.length = 0 then (0, false) else (rd l 0, true)
theorem next_l0 (c : Int) (l : List Int) (hl : l.length ≤ 1000) : ∀ (m i k : Nat), l.length - i = m → i ≤ l.length → m + 1 ≤ k →
    nodeset_Next.l0 k c l l (l.length : Int) (i : Int) = some (match (l.drop i).find? (fun x => decide (x > c)) with | some x => (x, true) | none => if l.length = 0 then (0, false) else (rd l 0, true)) := by
  intro m
  induction m with
  | zero =>
    intro i k h1 h2 h3
    obtain ⟨k, rfl⟩ : ∃ k', k = k' + 1 := ⟨k - 1, by omega⟩
    obtain rfl : i = l.length := by omega
    unfold nodeset_Next.l0
    rw [if_neg (by omega), List.drop_length]
    by_cases h0 : l.length = 0
    · simp [h0]
    · rw [if_neg (by omega), if_pos (by omega)]
      simp [h0]
  | succ m ih =>
    intro i k h1 h2 h3
    obtain ⟨k, rfl⟩ : ∃ k', k = k' + 1 := ⟨k - 1, by omega⟩
    have hi : i < l.length := by omega
    unfold nodeset_Next.l0
    rw [if_pos (by omega), if_pos (by omega), if_pos (by omega), List.drop_eq_getElem_cons hi, List.find?_cons]
    have hr : rd l (i : Int) = l[i] := by unfold rd; rw [Int.toNat_natCast, List.getD_eq_getElem?_getD, List.getElem?_eq_getElem hi]; rfl
    rw [hr]
    by_cases hg : l[i] > c
    · rw [if_pos hg, decide_eq_true hg]
    · rw [if_neg hg, decide_eq_false hg, show wrap64 ((i : Int) + 1) = ((i + 1 : Nat) : Int) from by rw [wrap_s _ (by omega) (by omega)]; omega]
      exact ih (i + 1) k (by omega) (by omega) (by omega)
theorem next_f (s : Nat) (hs : s < 256) (c : Int) : nodeset_Next.f 20 (s : Int) c = some (nextL (setL s) c) := by
  unfold nodeset_Next.f
  rw [list_all s hs, Option.bind_some]
  have := setL_len s
  exact next_l0 c (setL s) (by omega) _ 0 20 rfl (Nat.zero_le _) (by omega)
theorem next_f19 (s : Nat) (hs : s < 256) (c : Int) : nodeset_Next.f 19 (s : Int) c = some (nextL (setL s) c) := by
  unfold nodeset_Next.f
  rw [list_all19 s hs, Option.bind_some]
  have := setL_len s
  exact next_l0 c (setL s) (by omega) _ 0 19 rfl (Nat.zero_le _) (by omega)
theorem nextL_mem (l : List Int) (c : Int) (h : 0 < l.length) : (nextL l c).1 ∈ l := by
  unfold nextL
  cases hf : l.find? (fun x => decide (x > c)) with
  | some x => exact List.mem_of_find?_eq_some hf
  | none =>
    simp only
    rw [if_neg (by omega)]
    unfold rd
    rw [List.getD_eq_getElem?_getD]
    obtain ⟨a, t, rfl⟩ := List.exists_cons_of_length_pos h
    simp
/-- What a policy's check answers, on 1 to 8 nodes. -/
def polR (m s nd n : Int) : Int := if m = 0 then 0 else if m = 1 ∨ m = 2 then (if s = 0 then 1 else if Go.bits .andNot .u8 s (allS n) = 0 then 0 else 10) else if m = 3 then (if nd < 0 ∨ nd ≥ n then 10 else 0) else 1
def permR (m s n : Int) : Int := if m = 1 then s else allS n
def startR (m s nd own c : Int) : Int × Int := if m = 2 then ((nextL (setL s) c).1, (nextL (setL s) c).1) else if m = 3 then (nd, c) else (own, c)
theorem all_f (n : Nat) (hn : n ≤ 8) : nodeset_All.f (n : Int) = some (allS n, 0) := by
  unfold nodeset_All.f
  rw [if_neg (by omega), if_neg (by omega), if_pos (by omega)]; rfl
theorem pcheck_f (m s nd : Int) (n : Nat) (h1 : 1 ≤ n) (h8 : n ≤ 8) : policy_Check.f 20 m s nd (n : Int) = some (polR m s nd n) := by
  have hsets : policy_sets.f s (n : Int) = some (if s = 0 then 1 else if Go.bits .andNot .u8 s (allS n) = 0 then 0 else 10) := by
    unfold policy_sets.f
    rw [all_f n h8, Option.bind_some]
    simp only [if_true]
    split
    · rfl
    · split <;> rfl
  unfold policy_Check.f polR
  rw [if_neg (by omega), decide_eq_false (by omega)]
  simp only [policy_Check.j0, policy_Check.j1, hsets, Option.bind_some]
  by_cases m0 : m = 0
  · simp [m0]
  · by_cases m1 : m = 1
    · simp [m1]
    · by_cases m2 : m = 2
      · simp [m2]
      · by_cases m3 : m = 3
        · subst m3
          by_cases d0 : nd < 0
          · simp [d0]
          · by_cases dn : (n : Int) ≤ nd <;> simp [d0, dn]
        · have e1 : (m == 1) = false := by simpa using m1
          have e2 : (m == 2) = false := by simpa using m2
          simp [m0, m1, m2, m3]
theorem pperm_f (m s nd : Int) (n : Nat) (h1 : 1 ≤ n) (h8 : n ≤ 8) : policy_Permitted.f 20 m s nd (n : Int) = some (if polR m s nd n = 0 then permR m s n else 0, polR m s nd n) := by
  unfold policy_Permitted.f permR
  rw [pcheck_f m s nd n h1 h8, Option.bind_some, all_f n h8]
  by_cases h0 : polR m s nd n = 0
  · rw [if_pos h0, if_pos h0]
    by_cases hm : m = 1
    · simp [hm, ← h0]
    · simp [hm, h0]
  · rw [if_neg h0, if_neg h0]
theorem pstart_f (m : Int) (s : Nat) (hs : s < 256) (nd : Int) (n : Nat) (h1 : 1 ≤ n) (h8 : n ≤ 8) (own c : Int) (ho : 0 ≤ own) (hn : own < n) (h0 : polR m s nd n = 0) : policy_Start.f 20 m s nd (n : Int) own c = some ((startR m s nd own c).1, (startR m s nd own c).2, 0) := by
  unfold policy_Start.f startR
  rw [pcheck_f m s nd n h1 h8, Option.bind_some, if_pos h0, if_neg (by omega), decide_eq_false (by omega)]
  simp only [policy_Start.j0, next_f19 s hs c, Option.bind_some]
  have e : decide (own ≥ (n : Int)) = false := decide_eq_false (by omega)
  by_cases m2 : m = 2
  · simp [m2]
  · by_cases m3 : m = 3 <;> simp [m2, m3]
/-- A start is one of the machine's nodes. -/
theorem start_in (m : Int) (s : Nat) (hs : s < 256) (nd : Int) (n : Nat) (h1 : 1 ≤ n) (h8 : n ≤ 8) (own c : Int) (ho : 0 ≤ own) (hn : own < n) (h0 : polR m s nd n = 0) : 0 ≤ (startR m s nd own c).1 ∧ (startR m s nd own c).1 < n := by
  unfold startR
  unfold polR at h0
  by_cases m2 : m = 2
  · subst m2
    rw [if_neg (by omega), if_pos (by omega)] at h0
    rw [if_pos rfl]
    have hs0 : ¬ ((s : Int) = 0) := by intro e; rw [if_pos e] at h0; omega
    rw [if_neg hs0] at h0
    have hb : Go.bits .andNot .u8 (s : Int) (allS n) = 0 := by
      by_cases hb : Go.bits .andNot .u8 (s : Int) (allS n) = 0
      · exact hb
      · rw [if_neg hb] at h0; omega
    have hmem := nextL_mem (setL s) c (setL_pos s hs (by omega))
    exact ⟨setL_nonneg _ _ hmem, setL_below s hs n (by omega) hb _ hmem⟩
  · rw [if_neg m2]
    by_cases m3 : m = 3
    · subst m3
      rw [if_neg (by omega), if_neg (by omega), if_pos rfl] at h0
      rw [if_pos rfl]
      by_cases hx : nd < 0 ∨ nd ≥ n
      · rw [if_pos hx] at h0; omega
      · simp only; omega
    · rw [if_neg m3]; exact ⟨ho, hn⟩
end Go.Proofs.YtenkdmloolbdaaaGreatDoor.TZ
end
