/- A new heap. Books and queues: New. -/
import Derived.Test.YtenkdmloolbdaaaGreatDoorB11
import Derived.Test.YtenkdmloolbdaaaGreatDoorB06
import Derived.Conc.SmallLaws
section
namespace Go.Proofs.YtenkdmloolbdaaaGreatDoor.T
open Go.RowKit Go.Maps Go.WideShapes Go.Proofs.YtenkdmloolbdaaaGreatDoorW.PrintWords Go.Proofs.YtenkdmloolbdaaaGreatDoorW.PrintLast Go.Proofs.YtenkdmloolbdaaaGreatDoorW.PrintMore
set_option linter.unusedVariables false
set_option linter.unusedSimpArgs false
/-- A new buddy's state. -/
def newBud (each : Nat) : Bud := ⟨0, iniS each, fun _ => none⟩
def RelHN (κ : Kol) (i each : Nat) (mn lo hi : Int) (w : World) (b bx nodes : Nat) (v22 : Value) (wr : World) : Prop :=
  ∃ (j : Nat) (κ1 : Kol), v22 = .int .i64 j ∧ j ≤ nodes ∧ HeapK κ1 i wr b each mn lo hi (List.replicate j (newBud each)) ∧ BlkK κ1 (i + 900000) wr bx #[.int .i64 mn, .int .i64 lo, .int .i64 hi] 77 ∧ (∀ x, x < w.heap.size → κ1 x = κ x) ∧ (∀ v, wr.cell? ⟨b, 4, none⟩ = some v → ∀ g, v.ownBlock = some g → w.heap.size ≤ g) ∧ RowKit.Below w.heap.size w wr
set_option maxHeartbeats 2000000 in
set_option maxRecDepth 100000 in
theorem heap_new (κ : Kol) (i nodes each : Nat) (mn lo hi : Int) (hn1 : 1 ≤ nodes) (hn8 : nodes ≤ 8) (he : each ∈ p2s) (m0 : 0 ≤ mn) (m1 : mn ≤ lo) (m2 : lo ≤ hi) (m3 : hi ≤ each) (w : World) :
    Calls Tryz.prog 82 #[.int .i64 nodes, .int .i64 each, .agg #[.int .i64 mn, .int .i64 lo, .int .i64 hi]] w fun e w' => ∃ κ' b, e = .returned (.tuple #[.pointer (some ⟨b, 0, none⟩), .int .i64 0]) ∧ HeapK κ' i w' b each mn lo hi (List.replicate nodes (newBud each)) ∧ w.heap.size ≤ b ∧ (∀ x, x < w.heap.size → κ' x = κ x) ∧ RowKit.Below w.heap.size w w' := by
  have n1 : (1 : Int) ≤ (nodes : Int) := by omega
  have n2 : (nodes : Int) ≤ 8 := by omega
  have d0 : decide ((nodes : Int) < 1) = false := decide_eq_false (by omega)
  have d1 : decide (8 < (nodes : Int)) = false := decide_eq_false (by omega)
  have info3 : (Tryz.prog.info? 143).map (fun i => (i.zero, i.size, i.bytes)) = some (some (.pointer none), 1, 8) := by kernel_rfl
  have HE := Aside0.mk he
  clear he
  go_enter Tryz.func82, Tryz.ntmps82
  go_wp2_with fail
  have H0 := Aside0.mk (show RelHN κ i each mn lo hi w (w.heap.size + 1) w.heap.size nodes (.int .i64 0) ((w.alloc (.cells #[.int .i64 mn, .int .i64 lo, .int .i64 hi] 77)).alloc (.cells #[.int .i64 each, .int .i64 mn, .int .i64 lo, .int .i64 hi, .slice none 0 0] 147)) from by
    refine ⟨0, fun x => if x < w.heap.size then κ x else if x = w.heap.size then i + 900000 else i, rfl, Nat.zero_le _, ⟨.slice none 0 0, [], ⟨?_, Blk.new1 w _ _ _⟩, KR.nil _ _ _ _ _, rfl, fun j x hx => by simp at hx⟩, ⟨?_, (Blk.new w _ _).alloc _⟩, fun x hx => if_pos hx, fun v hv g hg => ?_, below_alloc (below_alloc (RowKit.Below.refl _ _) _) _⟩
    · show (if w.heap.size + 1 < w.heap.size then _ else _) = _
      rw [if_neg (by omega), if_neg (by omega)]
    · show (if w.heap.size < w.heap.size then _ else _) = _
      rw [if_neg (by omega), if_pos rfl]
    · have := (Blk.new1 w (.cells #[.int .i64 mn, .int .i64 lo, .int .i64 hi] 77) #[.int .i64 each, .int .i64 mn, .int .i64 lo, .int .i64 hi, .slice none 0 0] 147).at 4 (.slice none 0 0) rfl
      rw [this] at hv
      obtain rfl := Option.some.inj hv
      simp [Value.ownBlock] at hg)
  go_loopw [9, 10, 22] (fun _ _ v22 wr => RelHN κ i each mn lo hi w (w.heap.size + 1) w.heap.size nodes v22 wr) (fun _ _ v22 _ => nodes - (intOf v22).toNat)
  case atStart => exact H0.out
  case round =>
    clear H0
    obtain ⟨j, κ1, rfl, hj, hh, hbx, hκ, hvb, hB⟩ := hrel
    by_cases hlt : j < nodes
    · have jI : (j : Int) < (nodes : Int) := by omega
      have j0 : (0 : Int) ≤ (j : Int) := by omega
      obtain ⟨v, ps, k1, k2, k3, k4⟩ := hh
      have HH := Aside0.mk (And.intro k1 (And.intro k2 (And.intro k3 k4)))
      have HV := Aside0.mk (hvb v (k1.blk.at 4 v rfl))
      have HBX := Aside0.mk hbx
      have HK := Aside0.mk hκ
      have HB := Aside0.mk hB
      have HNB := Aside0.mk (bud_new κ1 (i + 2 + 13 * j) each HE.out wr)
      clear k1 k2 k3 k4 hvb hbx hκ hB
      go_upto_region 9 with (go_at_call 137; (with_reducible refine HNB.out.mono ?_); rintro e_ w1 ⟨κ2, p, rfl, q1, q2, q3, q4⟩; have HQ := Aside0.mk (And.intro q1 (And.intro q2 q3)); have HB1 := Aside0.mk q4; clear q1 q2 q3 q4)
      have HU := Aside0.mk (show Upd (fun _ => False) κ1 wr κ2 w1 from ⟨HQ.out.2.2, Chg.of_below HB1.out⟩)
      obtain ⟨k1', k2', k3, k4'⟩ := HH.out
      have k1 := k1'.upd HU.out (fun h => h)
      have k2 := k2'.upd HU.out (fun h => h)
      have k4 : ∀ q x, (List.replicate j (newBud each))[q]? = some x → ∃ p, ps[q]? = some p ∧ BuddyK κ2 (i + 2 + 13 * q) w1 p each x.c x.fr x.tk := fun q x hx => by obtain ⟨p, hp, hb⟩ := k4' q x hx; exact ⟨p, hp, hb.upd HU.out (fun _ _ h => h)⟩
      have K4 := Aside0.mk (And.intro k3 k4)
      have HC1 := Aside0.mk (And.intro k1 k2)
      have s4 := k1.blk.at 4 v rfl
      have f4 := k1.blk.fz 4
      clear k1 k2 k3 k4 k1' k2' k4'
      go_wp2_with (((with_reducible refine gate_builtin (b := .append) (xs := #[.tmp 36, .tmp 38]) rfl ?_); at_builtin; refine Kd.R_append pk (w0 := w1) 0 rfl (.tmp 36) (.tmp 38) 145 143 (.pointer none) 8 rfl Tryz.underlying145 info3 rfl (by decide) (by omega) v ps p [.pointer (some ⟨p, 0, none⟩)] (fun k => κ2.ext w1.heap.size (i + 1) k = i + 1) (fun _ => False) rfl rfl ?aP (fun _ hk => hk.elim) ?aF ?aO ?aB ?aS ?aL ?_; (case aP => exact rfl); (case aB => exact RowKit.Below.refl _ _); (case aF => exact (fun k hk => Kol.ext_new _ hk)); (case aO => exact HC1.out.2.ext); (case aS => exact Nat.zero_le _); (case aL => (have := K4.out.1; rw [List.length_replicate] at this; omega)); intro v7 w7 ho7 hb7 hg7 hat7; obtain ⟨A7, c7, rfl⟩ := Kd.R_slice ho7; have H7 := Aside0.mk (And.intro ho7 (HC1.out.2.upd_grown hg7)); have H8 := Aside0.mk (And.intro hg7 hat7); clear ho7 hb7 hg7 hat7 s4 f4; have t4 := (HC1.out.1.upd H7.out.2 (by omega)).blk.at 4 v rfl; have g4 := (HC1.out.1.upd H7.out.2 (by omega)).blk.fz 4))
      refine ⟨⟨j + 1, κ2.ext w1.heap.size (i + 1), by simp, by omega, ⟨.slice A7 (ps.length + 1) c7, ps ++ [p], ?_, ?_, ?_, ?_⟩, ?_, ?_, ?_, ?_⟩, ?_⟩
      · exact (HC1.out.1.upd H7.out.2 (by omega)).set 4 _
      · have h7 := H7.out.1
        rw [List.length_append, List.length_singleton] at h7
        exact KR.upd (w := w7) (I := (· = i)) (κ := κ2.ext w1.heap.size (i + 1)) h7 ((Upd.refl _ _ _).set ⟨w.heap.size + 1, 4, none⟩ (fun _ => (HC1.out.1.upd H7.out.2 (by omega)).kol) _) (by omega)
      · simp [K4.out.1]
      · intro q x hx
        rw [List.getElem?_replicate] at hx
        split at hx
        · obtain rfl := Option.some.inj hx
          rcases Nat.lt_or_ge q j with h1 | h1
          · obtain ⟨p', hp', hb'⟩ := K4.out.2 q (newBud each) (by rw [List.getElem?_replicate, if_pos h1])
            refine ⟨p', by rw [List.getElem?_append_left (by have := (List.getElem?_eq_some_iff.1 hp').1; exact this)]; exact hp', ?_⟩
            exact ((hb'.upd H7.out.2 (fun c hc => by omega)).upd ((Upd.refl (· = i) _ _).set ⟨w.heap.size + 1, 4, none⟩ (fun _ => (HC1.out.1.upd H7.out.2 (by omega)).kol) _) (fun c hc => by omega))
          · obtain rfl : q = j := by omega
            have hl : ps.length = q := by have := K4.out.1; rwa [List.length_replicate] at this
            refine ⟨p, by rw [← hl]; simp, ?_⟩
            exact ((HQ.out.1.upd H7.out.2 (fun c hc => by omega)).upd ((Upd.refl (· = i) _ _).set ⟨w.heap.size + 1, 4, none⟩ (fun _ => (HC1.out.1.upd H7.out.2 (by omega)).kol) _) (fun c hc => by omega))
        · simp at hx
      · exact ((HBX.out.upd HU.out (fun h => h)).upd H7.out.2 (by omega)).upd ((Upd.refl (· = i) _ _).set ⟨w.heap.size + 1, 4, none⟩ (fun _ => (HC1.out.1.upd H7.out.2 (by omega)).kol) _) (by omega)
      · intro x hx
        rw [Kol.ext_old κ2 (by have := HB.out.size; have := HB1.out.size; omega), HQ.out.2.2 x (by have := HB.out.size; omega)]
        exact HK.out x hx
      · intro v hv g hg
        have hb7 := ((HC1.out.1.upd H7.out.2 (by omega)).set 4 (.slice A7 (ps.length + 1) c7)).blk.at 4 (.slice A7 (ps.length + 1) c7) rfl
        rw [hb7] at hv
        obtain rfl := Option.some.inj hv
        have hat := H8.out.2
        rw [List.length_append, List.length_singleton] at hat
        rcases hat with h1 | ⟨b1, h1, h2⟩
        · exact HV.out g (by rw [← h1]; exact hg)
        · rw [hg] at h1
          obtain rfl := Option.some.inj h1
          have := HB.out.size; have := HB1.out.size; omega
      · refine RowKit.Below.setCell (p := ⟨w.heap.size + 1, 4, none⟩) ((below_then HB.out HB.out.size HB1.out).grown H8.out.1 (by have := HB.out.size; have := HB1.out.size; omega) (fun k e => HV.out k e)) (by show w.heap.size ≤ w.heap.size + 1; omega) _
      · simp only [intOf]; omega
    · obtain rfl : j = nodes := by omega
      have s0 := hbx.blk.at 0 (.int .i64 mn) rfl
      have s1 := hbx.blk.at 1 (.int .i64 lo) rfl
      have s2 := hbx.blk.at 2 (.int .i64 hi) rfl
      have b0 : decide (mn < 0) = false := decide_eq_false (by omega)
      have b1 : decide (lo < mn) = false := decide_eq_false (by omega)
      have b2 : decide (hi < lo) = false := decide_eq_false (by omega)
      have b3 : decide ((each : Int) < hi) = false := decide_eq_false (by omega)
      have HH := Aside0.mk hh
      have HK := Aside0.mk hκ
      have HB := Aside0.mk hB
      clear hh hbx hκ hB hvb
      go_wp2_with fail
      go_ret2
      exact ⟨κ1, w.heap.size + 1, rfl, HH.out, by omega, HK.out, HB.out⟩
end Go.Proofs.YtenkdmloolbdaaaGreatDoor.T
end
section
namespace Go.Proofs.YtenkdmloolbdaaaGreatDoor.T
open Go.RowKit Go.Proofs.YtenkdmloolbdaaaGreatDoorW.PrintWords Go.Proofs.YtenkdmloolbdaaaGreatDoorW.PrintLast Go.Proofs.YtenkdmloolbdaaaGreatDoorW.PrintMore
set_option linter.unusedVariables false
set_option linter.unusedSimpArgs false
set_option maxHeartbeats 1000000 in
set_option maxRecDepth 100000 in
theorem book_new (nodes : Nat) (hn : 1 ≤ nodes) (hn2 : nodes ≤ 8) (w : World) :
    Calls Tryz.prog 141 #[.int .i64 nodes] w fun e w' => e = .returned (.tuple #[.pointer (some ⟨w.heap.size + 1, 0, none⟩), .int .i64 0]) ∧ w' = (w.alloc (.map #[] 0)).alloc (.cells #[.int .i64 nodes, .map (some w.heap.size)] 241) := by
  have hmm := @run_makeMap Tryz.prog
  have n1 : (1 : Int) ≤ (nodes : Int) := by omega
  have n2 : (nodes : Int) ≤ 8 := by omega
  go_enter Tryz.func141, Tryz.ntmps141
  go_wp2_with fail
  go_ret2
  exact ⟨rfl, rfl⟩
set_option maxHeartbeats 1000000 in
set_option maxRecDepth 100000 in
theorem ring_new (w : World) :
    Calls Tryz.prog 87 #[.int .i64 16] w fun e w' => e = .returned (.tuple #[.pointer (some ⟨w.heap.size + 1, 0, none⟩), .int .i64 0]) ∧ w' = (w.alloc (.chan 16 #[] false 0 0 false)).alloc (.cells #[.chan (some w.heap.size)] 227) := by
  have hinfo : (Tryz.prog.info? 3).map (·.bytes) = some 8 := by kernel_rfl
  have hmk : (Instr.makeChan 225 (.int .i64 16)).run Tryz.prog w = .ok (.chan (some w.heap.size)) (w.alloc (.chan 16 #[] false 0 0 false)) := by
    obtain ⟨it, hi, hb⟩ := Option.map_eq_some_iff.1 hinfo
    simpa using Go.Conc.run_makeChan (P := Tryz.prog) (w := w) Tryz.underlying225 hi .i64 16 (by omega) (by rw [hb]; omega)
  clear hinfo
  go_enter Tryz.func87, Tryz.ntmps87
  go_wp2_with fail
  go_ret2
  exact ⟨rfl, rfl⟩
end Go.Proofs.YtenkdmloolbdaaaGreatDoor.T
end
