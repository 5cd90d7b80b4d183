/- The row of ChooseRound. -/
import Derived.Test.YtffmhpfdfcpniaaRows
import Derived.Test.YtffmhpfdfcpniaaAK
import Derived.Test.YtffmhpfdfcpniaaAG
import Derived.WalkKit
import Derived.ProofKit
import Derived.OpenShut
import Derived.ShutString
import Derived.ChangeOld
import Derived.Below
import Derived.SizedLaws
import Derived.Test.YtffmhpfdfcpniaaWSized
namespace Go.Proofs.Ytffmhpfdfcpniaa.chooseRound
open Go.ChangeShapes Go.WideShapes Go.ChangeAt Go.RowKit
open Go.ChangeMaps (open_string shut_string)
set_option linter.unusedVariables false
theorem own : ownKnob Try.prog.godebug = none := by kernel_rfl
theorem laidOut : laidOutB Try.prog = true := by kernel_rfl
set_option maxRecDepth 100000 in
theorem lifted (os : Os) (started : os.Started) (H : Type) (enc : TypeId × Value → H) :
    ReturnsInHanded {} Try.checked os 8 .any (Rows.chooseRoundSpec.pre6 enc Try.prog Try.f8 Rows.chooseRoundRow.domain false) (Rows.chooseRoundSpec.post enc Try.prog Try.f8 false true false false) := by
  refine returnsInHanded_of_change_sized (C := Try.checked) own started (by kernel_rfl) Try.func8
    (ChangeSpec.witness6 (enc := enc) (C := Try.checked) false ⟨#[], #[.agg #[.int .i64 0, .int .i64 0, .slice none 0 0, .slice none 0 0], .slice none 0 0], []⟩ 8 (by kernel_rfl) (by kernel_rfl) (by kernel_rfl) (by kernel_rfl)) ?_
  intro W base args ds gs before hval0 hW hcnd hsz0 _
  have hsz : (DataW.weightsEach Try.prog (Try.f8.params.toList ++ Rows.chooseRoundSpec.plain.varTypes Try.prog) (ds ++ gs)).all (· ≤ reachBytes) = true := hsz0
  have hval : ∀ (j : Nat) t v, Try.f8.params[j]? = some t → args[j]? = some v → Value.okWide Try.prog W .any base t v := hval0
  have hW' := hW
  obtain ⟨p, q, hA0, hV, rfl, hfz, hnd⟩ := hW
  have hA : DataW.TrodAll enc Try.prog W 0 (fun _ => true) true Try.f8.params.toList args.toList ds p := hA0
  rw [Try.params8] at hA hval hsz
  obtain ⟨v0, vs0, d0, ds0, p0, q0, hargs0, rfl, rfl, h0, r0⟩ := trodAll_cons hA
  obtain ⟨v1, vs1, d1, ds1, p1, q1, hargs1, rfl, rfl, h1, r1⟩ := trodAll_cons r0
  obtain ⟨rfl, rfl, rfl⟩ := trodAll_nil r1
  obtain rfl : args = #[v0, v1] := by cases args; simp_all
  obtain ⟨rfl, rfl⟩ := trodVars_none hV
  obtain ⟨cs0, rfl, sz0⟩ := okWide_struct Try.underlying25 (hval 0 25 v0 rfl rfl)
  obtain ⟨a1, len1, cap1, rfl⟩ := okWide_slice Try.underlying22 (hval 1 22 v1 rfl rfl)
  have k0 := h0
  have lt0 : ∀ x ∈ p0, x.block < W.heap.size := by obtain ⟨m, hm⟩ := k0; exact DataW.trod_lt m _ _ _ hm
  have k1 := h1
  have lt1 : ∀ x ∈ p1, x.block < W.heap.size := by obtain ⟨m, hm⟩ := k1; exact DataW.trod_lt m _ _ _ hm
  obtain ⟨n0, f0, A0, ca0, l0, B0, cb0, g0, hcs0, hlc0, hgc0, hC0, hD0⟩ : ∃ (n f : Int) (A : Option Addr) (ca : Nat) (cpus : List Int) (B : Option Addr) (cb : Nat) (dist : List (List Int)), cs0 = #[.int .i64 n, .int .i64 f, .slice A cpus.length ca, .slice B dist.length cb] ∧ cpus.length ≤ ca ∧ dist.length ≤ cb ∧ YtffmhpfdfcpniaaW.PrintWords.Kd.C (YtffmhpfdfcpniaaW.PrintWords.Kd.int .i64) W A cpus.length cpus ∧ YtffmhpfdfcpniaaW.PrintWords.Kd.C (YtffmhpfdfcpniaaW.PrintWords.Kd.slice 3 (YtffmhpfdfcpniaaW.PrintWords.Kd.int .i64)) W B dist.length dist := by
    obtain ⟨fuel, hf⟩ := h0
    obtain ⟨n, f, A, ca, l, B, cb, g, hcs, r⟩ := T.topo_opened (enc := enc) (cs := cs0.toList) (by rw [Array.length_toList, sz0]; kernel_rfl) hf
    exact ⟨n, f, A, ca, l, B, cb, g, by rw [← Array.toArray_toList (xs := cs0), hcs], r⟩
  subst hcs0
  obtain ⟨l1, hl1, hM1⟩ : ∃ l : List Int, l.length = len1 ∧ YtffmhpfdfcpniaaW.PrintWords.Kd.C (YtffmhpfdfcpniaaW.PrintWords.Kd.int .i64) W a1 l.length l := by
    obtain ⟨fuel, hf⟩ := h1
    obtain ⟨A, c, l, hcs, _, hC⟩ := T.ints_opened (enc := enc) hf
    simp [Value.cells] at hcs
    obtain ⟨rfl, rfl, rfl⟩ := hcs
    exact ⟨l, rfl, hC⟩
  subst hl1
  clear hA0 hval0 hsz0 hsz
  refine (T.round_own n0 f0 A0 ca0 l0 B0 cb0 g0 a1 cap1 l1 W hC0 hlc0 hD0 hgc0 hM1).mono fun e W' ⟨he, bel⟩ => ?_
  subst he
  exact ⟨_, rfl, _, _, _, [], _, [], hW', trodAll_mk1 (shut_bool Try.underlying4 _), (trodAll_cons_mk (Below.trod laidOut (by kernel_rfl) (of_decide_eq_true (by kernel_rfl)) k0 bel lt0) (trodAll_cons_mk (Below.trod laidOut (by kernel_rfl) (of_decide_eq_true (by kernel_rfl)) k1 bel lt1) trodAll_mk0)), rfl, bel.frame _, fun h => by cases h⟩
theorem over : Rows.chooseRoundRow.holds Try.pinned (OpenSpec.ofChange Rows.chooseRoundSpec) :=
  OpenClaim.holds_of_wide 8 Try.f8 rfl rfl rfl rfl rfl rfl rfl ⟨rfl, rfl, rfl, rfl, rfl⟩ rfl rfl rfl rfl rfl (by kernel_rfl) Try.func8 (by kernel_rfl)
    (of_decide_eq_true (by kernel_rfl)) (by unfold Func.isWrapper; first | (rw [if_pos (by decide +kernel)]; kernel_rfl) | (rw [if_neg (by decide +kernel)]; exact ⟨rfl, rfl⟩))
    (fun os started H enc _ => lifted os started H enc)
theorem proved : Rows.ChooseRoundSaid := over
#print axioms proved
end Go.Proofs.Ytffmhpfdfcpniaa.chooseRound
namespace Go.Proofs.Ytffmhpfdfcpniaa
/-- The row, under a short name, for the claim. -/
theorem chooseRound_holds : Rows.ChooseRoundSaid := chooseRound.proved
end Go.Proofs.Ytffmhpfdfcpniaa
