/- zone.Order and zone.Within, of whatever machine. -/
import Derived.Test.YtffmhpfdfcpniaaL
namespace Go.Proofs.Ytffmhpfdfcpniaa.T
open Go.RowKit Go.Sort Go.Proofs.YtffmhpfdfcpniaaW.PrintWords Go.Proofs.YtffmhpfdfcpniaaW.PrintLast Go.Proofs.YtffmhpfdfcpniaaW.PrintMore Go.Proofs.Ytffmhpfdfcpniaa.PH
set_option linter.unusedVariables false
set_option linter.unusedSimpArgs false
/-- The order that is told. -/
def lstN (n f : Int) (cpus : List Int) (dist : List (List Int)) (node : Int) : List Int := if erN n f cpus dist node = 0 then ordL dist node.toNat n.toNat else []
/-- What erN 0 says. -/
theorem er_zero {n f : Int} {cpus : List Int} {dist : List (List Int)} {node : Int} (h : erN n f cpus dist node = 0) : ∃ k a : Nat, n = (k : Int) ∧ node = (a : Int) ∧ a < k ∧ 1 ≤ k ∧ k ≤ 8 ∧ chk n f cpus dist = 0 ∧ Far dist a k := by
  unfold erN at h
  by_cases hc : chk n f cpus dist = 0
  · rw [if_pos hc] at h
    by_cases hn : node < 0 ∨ n ≤ node
    · rw [if_pos hn] at h; omega
    · obtain ⟨k, hk, h1, h8, _, _, hfit⟩ := chk_zero hc
      have ha : node.toNat < k := by omega
      exact ⟨k, node.toNat, hk, by omega, ha, h1, h8, hc, fit_far hfit _ ha⟩
  · rw [if_neg hc] at h; exact absurd h hc
theorem lstN_len (n f : Int) (cpus : List Int) (dist : List (List Int)) (node : Int) : (lstN n f cpus dist node).length ≤ 8 := by
  unfold lstN
  by_cases h : erN n f cpus dist node = 0
  · rw [if_pos h]
    obtain ⟨k, a, rfl, rfl, hak, h1, h8, _, hf⟩ := er_zero h
    rw [Int.toNat_natCast, Int.toNat_natCast, ordL_len _ _ _ hf]; exact h8
  · rw [if_neg h]; exact Nat.zero_le _
theorem order_own (n f : Int) (A : Option Addr) (ca : Nat) (cpus : List Int) (B : Option Addr) (cb : Nat) (dist : List (List Int)) (node : Int) (w : World) (hr2 : Kd.C (Kd.int .i64) w A cpus.length cpus) (hca : cpus.length ≤ ca) (hr3 : Kd.C (Kd.slice 3 (Kd.int .i64)) w B dist.length dist) (hcb : dist.length ≤ cb) :
    Calls Try.prog 11 #[.agg #[.int .i64 n, .int .i64 f, .slice A cpus.length ca, .slice B dist.length cb], .int .i64 node] w fun e w' => ∃ v, e = .returned (.tuple #[v, .int .i64 (erN n f cpus dist node)]) ∧ w'.ownsRow w.heap.size 3 1 v (lstN n f cpus dist node).length (nums .i64 (lstN n f cpus dist node)) ∧ RowKit.Below w.heap.size w w' := by
  by_cases h : erN n f cpus dist node = 0
  · have hl : lstN n f cpus dist node = ordL dist node.toNat n.toNat := if_pos h
    rw [hl, h]
    obtain ⟨k, a, rfl, rfl, hak, h1, h8, hck, hf⟩ := er_zero h
    rw [Int.toNat_natCast, Int.toNat_natCast]
    exact order_good k a f A ca cpus B cb dist w hr2 hca hr3 hcb hck hak
  · have hl : lstN n f cpus dist node = [] := if_neg h
    rw [hl]
    refine (order_bad n f A ca cpus B cb dist node w hr2 hca hr3 hcb h).mono ?_
    rintro e w' ⟨rfl, hb⟩
    exact ⟨_, rfl, own_nil _ _ _ _, hb⟩
structure RowAt (w : World) (base g cap : Nat) (cur : Array Value) (l : List Int) : Prop where
  lo : base ≤ g
  cell : w.heap[g]? = some (.cells cur 3 (0, 0))
  lc : l.length ≤ cap
  cm : cap ≤ maxLen
  cs : cur.size = cap * 1
  tk : cur.toList.take l.length = l.map (Value.int .i64)
theorem own_open {w : World} {base : Nat} {v : Value} {l : List Int} (h : w.ownsRow base 3 1 v l.length (nums .i64 l)) : (v = .slice none 0 0 ∧ l = []) ∨ ∃ g cap cur, v = .slice (some ⟨g, 0, none⟩) l.length cap ∧ RowAt w base g cap cur l := by
  obtain ⟨_, ⟨hv, h0⟩ | ⟨g, cap, cur, hv, h1, h2, h3, h4, h5, h6⟩⟩ := h
  · exact .inl ⟨hv, List.length_eq_zero_iff.1 h0⟩
  · exact .inr ⟨g, cap, cur, hv, ⟨h1, h2, h3, h4, h5, by rw [Nat.mul_one] at h6; exact h6⟩⟩
set_option maxHeartbeats 2000000 in
set_option maxRecDepth 100000 in
theorem within_own (n f : Int) (A : Option Addr) (ca : Nat) (cpus : List Int) (B : Option Addr) (cb : Nat) (dist : List (List Int)) (node s : Int) (w : World) (hr2 : Kd.C (Kd.int .i64) w A cpus.length cpus) (hca : cpus.length ≤ ca) (hr3 : Kd.C (Kd.slice 3 (Kd.int .i64)) w B dist.length dist) (hcb : dist.length ≤ cb) :
    Calls Try.prog 13 #[.agg #[.int .i64 n, .int .i64 f, .slice A cpus.length ca, .slice B dist.length cb], .int .i64 node, .int .u8 s] w fun e w' => ∃ v, e = .returned (.tuple #[v, .int .i64 (erN n f cpus dist node)]) ∧ w'.ownsRow w.heap.size 3 1 v (inL s (lstN n f cpus dist node)).length (nums .i64 (inL s (lstN n f cpus dist node))) ∧ RowKit.Below w.heap.size w w' := by
  have HO := Aside0.mk (fun (W : World) h2 h3 => order_own n f A ca cpus B cb dist node W h2 hca h3 hcb)
  have HR2 := Aside0.mk hr2
  have HR3 := Aside0.mk hr3
  have hl8 := lstN_len n f cpus dist node
  clear hr2 hr3
  obtain ⟨l, hl⟩ : ∃ l, lstN n f cpus dist node = l := ⟨_, rfl⟩
  obtain ⟨er, her⟩ : ∃ er, erN n f cpus dist node = er := ⟨_, rfl⟩
  rw [hl] at HO hl8 ⊢
  rw [her] at HO ⊢
  clear hl her
  obtain ⟨w0, hw0⟩ : ∃ w0, (w.alloc (.cells #[.int .i64 n, .int .i64 f, .slice A cpus.length ca, .slice B dist.length cb] 33)).alloc (.cells #[.int .u8 s] 36) = w0 := ⟨_, rfl⟩
  have HB0 := Aside0.mk (show RowKit.Below w.heap.size w w0 from hw0 ▸ below_alloc (below_alloc (RowKit.Below.refl _ _) _) _)
  have HS0 := Aside0.mk (show w0.heap.size = w.heap.size + 2 by rw [← hw0, World.size_alloc, World.size_alloc])
  have HP0 := Aside0.mk (show w0.cell? ⟨w.heap.size + 1, 0, none⟩ = some (.int .u8 s) by
    rw [← hw0]
    have := heap_alloc_new (w.alloc (.cells #[.int .i64 n, .int .i64 f, .slice A cpus.length ca, .slice B dist.length cb] 33)) (.cells #[.int .u8 s] 36)
    rw [World.size_alloc] at this
    simp only [World.cell?, this]; rfl)
  have HW0 := Aside0.mk hw0
  clear hw0
  go_enter Try.func13, Try.ntmps13
  go_upto_region 2 with (first | (go_at_call 11; rw [HW0.out]; (with_reducible refine (HO.out _ (Kd.C_below HR2.out HB0.out) (Kd.C_below HR3.out HB0.out)).mono ?_); rintro e_ w2 ⟨v, rfl, hown, hb⟩; have HOW := Aside0.mk hown; have HB := Aside0.mk hb; clear hown hb))
  have HP2 := Aside0.mk (show w2.cell? ⟨w.heap.size + 1, 0, none⟩ = some (.int .u8 s) from (HB.out.cell (p := ⟨w.heap.size + 1, 0, none⟩) (by have := HS0.out; show w.heap.size + 1 < _; omega)).trans HP0.out)
  have HB2 := Aside0.mk (show RowKit.Below w.heap.size w w2 from below_then HB0.out (by have := HS0.out; omega) HB.out)
  rcases own_open HOW.out with ⟨rfl, rfl⟩ | ⟨g, cap, cur, rfl, hra⟩
  · clear HOW
    go_wp2_with (first | (go_at_call 35; (with_reducible refine (delete_nil _ _ _).mono ?_); rintro e_ w3 ⟨rfl, rfl⟩))
    go_ret2
    exact ⟨_, rfl, own_nil _ _ _ _, HB2.out⟩
  · have hz := HS0.out
    have hlo := hra.lo
    have hz2 := HB.out.size
    have HDEL := Aside0.mk (delete_own s (w.heap.size + 1) g cap cur l w.heap.size w2 (by omega) hra.cell hra.lc hra.cm hra.cs hra.tk (by omega) HP2.out (by omega) (by omega))
    have HGB := Aside0.mk (show w.heap.size ≤ g ∧ w.heap.size ≤ w2.heap.size by omega)
    clear hz hlo hz2 hra HOW
    go_wp2_with (first | (go_at_call 35; (with_reducible refine HDEL.out.mono ?_); rintro e_ w3 ⟨v, rfl, hown, hg⟩; have HOW3 := Aside0.mk hown; have HG3 := Aside0.mk hg; clear hown hg))
    go_ret2
    exact ⟨_, rfl, HOW3.out, HB2.out.trans (below_of_grown HG3.out HGB.out.1 HGB.out.2)⟩
end Go.Proofs.Ytffmhpfdfcpniaa.T
