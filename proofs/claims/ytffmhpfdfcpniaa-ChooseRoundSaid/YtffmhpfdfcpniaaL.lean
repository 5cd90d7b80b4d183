/- Sets of nodes; the closure of zone.Within. -/
import Derived.Test.YtffmhpfdfcpniaaK
namespace Go.Proofs.Ytffmhpfdfcpniaa.T
open Go.RowKit Go.Sort Go.Proofs.YtffmhpfdfcpniaaW.PrintWords Go.Proofs.YtffmhpfdfcpniaaW.PrintLast Go.Proofs.YtffmhpfdfcpniaaW.PrintMore Go.Proofs.Ytffmhpfdfcpniaa.PH
set_option linter.unusedVariables false
set_option linter.unusedSimpArgs false
/-- Is a node in a set? -/
def hasB (s x : Int) : Bool := if 0 ≤ x ∧ x < 8 then ((Go.bits .and .u8 (shr .u8 s x) 1) == 1) else false
theorem right_own (x : Int) (b : Bool) (hb : decide (0 ≤ x ∧ x < 8) = b) (W : World) : Calls Try.prog 50 #[.int .i64 x] W fun e w' => e = .returned (.bool b) ∧ w' = W := by
  by_cases h0 : 0 ≤ x
  · have d0 : decide (0 ≤ x) = true := decide_eq_true h0
    have d1 : decide (x < 8) = b := by rw [← hb, decide_eq_decide]; omega
    clear hb
    go_enter Try.func50, Try.ntmps50
    go_wp2_with fail
    go_ret
    exact ⟨rfl, rfl⟩
  · have d0 : decide (0 ≤ x) = false := decide_eq_false h0
    obtain rfl : b = false := by rw [← hb]; exact decide_eq_false (by omega)
    go_enter Try.func50, Try.ntmps50
    go_wp2_with fail
    go_ret
    exact ⟨rfl, rfl⟩
theorem has_own (s x : Int) (W : World) : Calls Try.prog 37 #[.int .u8 s, .int .i64 x] W fun e w' => e = .returned (.bool (hasB s x)) ∧ w' = W := by
  by_cases h : 0 ≤ x ∧ x < 8
  · have hr := right_own x true (decide_eq_true h)
    have hh : hasB s x = ((Go.bits .and .u8 (shr .u8 s x) 1) == 1) := if_pos h
    rw [hh]
    have d0 : decide (0 ≤ x) = true := decide_eq_true h.1
    have d00 := eq_true h.1
    obtain ⟨j, hj⟩ : ∃ j : Int, (shr .u8 s x) = j := ⟨_, rfl⟩
    rw [hj]
    have hj1 : (s / 2 ^ min x.toNat 8) = j := hj
    have hj2 : x ≤ 8 → (s / 2 ^ x.toNat) = j := shr_small hj
    clear hh hj
    go_enter Try.func37, Try.ntmps37
    go_wp2_with (first | (go_at_call 50; (with_reducible refine (hr _).mono ?_); rintro e_ w2 ⟨rfl, rfl⟩))
    go_ret
    exact ⟨by rw [hj2 (by omega)]; rfl, rfl⟩
  · have hr := right_own x false (decide_eq_false h)
    have hh : hasB s x = false := if_neg h
    rw [hh]
    clear hh
    go_enter Try.func37, Try.ntmps37
    go_wp2_with (first | (go_at_call 50; (with_reducible refine (hr _).mono ?_); rintro e_ w2 ⟨rfl, rfl⟩))
    go_ret
    exact ⟨rfl, rfl⟩
theorem in_gives (s x : Int) (p : Nat) (W : World) (hp : W.cell? ⟨p, 0, none⟩ = some (.int .u8 s)) : FnGives Try.prog 36 #[.pointer (some ⟨p, 0, none⟩)] #[.int .i64 x] (.bool (!hasB s x)) W := by
  show Calls Try.prog 36 #[.int .i64 x, .pointer (some ⟨p, 0, none⟩)] W _
  have hh := has_own s x
  obtain ⟨b, hb⟩ : ∃ b, hasB s x = b := ⟨_, rfl⟩
  rw [hb] at hh ⊢
  clear hb
  go_enter Try.func36, Try.ntmps36
  go_wp2_with (first | (go_at_call 37; (with_reducible refine (hh _).mono ?_); rintro e_ w2 ⟨rfl, rfl⟩))
  go_ret
  exact ⟨rfl, 0, rfl⟩
theorem indexf_nil (W : World) (fv : Value) : Calls Try.prog 49 #[.slice none 0 0, fv] W fun e w' => e = .returned (.int .i64 (-1)) ∧ w' = W := by
  have hcon := AnyE.slices_IndexFunc_empty { Try.layContains with } none 0 fv W
  exact hcon
theorem delete_nil (W : World) (g : Nat) (lb : Array Value) : Calls Try.prog 35 #[.slice none 0 0, .func (.func g) #[] lb] W fun e w' => e = .returned (.slice none 0 0) ∧ w' = W := by
  have hi := fun w => indexf_nil w (.func (.func g) #[] lb)
  go_enter Try.func35, Try.ntmps35
  go_wp2_with (first | (go_at_call 49; (with_reducible refine (hi _).mono ?_); rintro e_ w2 ⟨rfl, rfl⟩))
  go_ret
  exact ⟨rfl, rfl⟩
/-- Those of a set. -/
def inL (s : Int) (l : List Int) : List Int := l.filter (hasB s)
theorem delete_own (s : Int) (p g cap : Nat) (cur : Array Value) (l : List Int) (base : Nat) (W : World) (hgb : base ≤ g) (hg : W.heap[g]? = some (.cells cur 3 (0, 0))) (hlc : l.length ≤ cap) (hcm : cap ≤ maxLen) (hcs : cur.size = cap * 1) (ht : cur.toList.take l.length = l.map (Value.int .i64)) (hl : l.length ≤ 1000)
    (hp : W.cell? ⟨p, 0, none⟩ = some (.int .u8 s)) (hpg : p ≠ g) (hpl : p < W.heap.size) :
    Calls Try.prog 35 #[.slice (some ⟨g, 0, none⟩) l.length cap, .func (.func 36) #[] #[.pointer (some ⟨p, 0, none⟩)]] W fun e w' => ∃ v, e = .returned v ∧ w'.ownsRow base 3 1 v (inL s l).length (nums .i64 (inL s l)) ∧ W.grownBy w' (some g) := by
  have eg : ∀ args w, (callFunc 36 args).run Try.prog w = .ok (.enter 36 args) w := enters_of Try.func36 (by kernel_rfl) rfl
  have hH : Holds (Value.int .i64) W g 0 l.toArray := Go.holds_of_blockI hg ht
  have hcon := AnyE.slices_DeleteFunc Try.layDelete (Value.int .i64) (fun _ => rfl) (fun x => !hasB s x) 36 #[.pointer (some ⟨p, 0, none⟩)] eg 0 Try.zeroValue3 g 0 cap l.toArray W
    (fun W' x hb => in_gives s x p W' ((hb.cell (p := ⟨p, 0, none⟩) hpl).trans hp))
    (fun n os dk x hdk => in_gives s x p _ (by
      unfold sortWorld
      rw [cell?_grow _ _ _ (by rw [size_putRow]; exact hpl), cell?_putRow_other _ _ g 0 _ _ (Or.inl hpg)]
      exact hp)) hH (by simpa using (by omega : l.length ≤ 9223372036854775807)) (by simpa using hlc)
  change Calls Try.prog 35 _ _ _ at hcon
  have hf : (l.filter fun x => !!hasB s x) = inL s l := by
    unfold inL
    congr 1
    funext x
    rw [Bool.not_not]
  simp only [List.size_toArray] at hcon
  rw [hf] at hcon
  have hll : (inL s l).length ≤ l.length := List.length_filter_le _ _
  obtain ⟨ts, hts⟩ : ∃ ts, inL s l ++ List.replicate (l.length - (inL s l).length) 0 = ts := ⟨_, rfl⟩
  rw [hts] at hcon
  have htl : ts.length = l.length := by rw [← hts, List.length_append, List.length_replicate]; omega
  refine hcon.mono ?_
  rintro e w' ⟨rfl, q, rfl⟩
  have hgr := Go.grownBy_sortedI (w := W) (g := g) (n := q) (os := #[]) ts.toArray
  have how := Go.ownsRow_sortedI (w := W) (base := base) (cap := cap) (n := q) (os := #[]) (ss := l) (ts := ts) htl hgb hg hlc hcm hcs
  rw [grow_empty] at hgr how
  refine ⟨_, rfl, ?_, hgr⟩
  obtain ⟨_, hor⟩ := how
  refine ⟨by unfold nums; simp, .inr ?_⟩
  rcases hor with ⟨h0, _⟩ | ⟨g', cap', cur', hv, h1, h2, h3, h4, h5, h6⟩
  · cases h0
  · cases hv
    refine ⟨g, cap, cur', rfl, h1, h2, by omega, h4, h5, ?_⟩
    rw [Nat.mul_one] at h6 ⊢
    have : cur'.toList.take (inL s l).length = (cur'.toList.take l.length).take (inL s l).length := by rw [List.take_take, Nat.min_eq_left hll]
    rw [this, h6, ← List.map_take, ← hts, List.take_left']
    · rfl
    · rfl
end Go.Proofs.Ytffmhpfdfcpniaa.T
