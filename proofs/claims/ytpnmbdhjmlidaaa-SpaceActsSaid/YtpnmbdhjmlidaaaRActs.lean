/- The row of SpaceActs. -/
import Derived.Test.YtpnmbdhjmlidaaaRows
import Derived.Test.YtpnmbdhjmlidaaaV
import Derived.WalkKit
import Derived.ProofKit
import Derived.OpenShut
import Derived.ShutString
import Derived.ChangeOld
import Derived.Below
import Derived.SizedLaws
import Derived.Deep.Slices
import Derived.Deep.Strs
import Derived.ChangeArms
import Derived.ChangeSlices
import Derived.Test.YtpnmbdhjmlidaaaWSized
namespace Go.Proofs.Ytpnmbdhjmlidaaa.T
open Go.RowKit Go.Proofs.YtpnmbdhjmlidaaaW.PrintWords Go.Proofs.YtpnmbdhjmlidaaaW.PrintLast Go.Proofs.YtpnmbdhjmlidaaaW.PrintMore
open Go.ChangeShapes Go.Deep
set_option linter.unusedVariables false
variable {H : Type} {enc : TypeId × Value → H}
theorem one_int {w : World} {base : Nat} {spare : Nat → Bool} {held : Bool} {n : Nat} {k : IntKind} {t : TypeId} {cs : List Value} {off : Nat} {y : DataW H × List MemPlace} (ht : Try.prog.underlying t = some (.int k)) (hc : Try.prog.cellsOf t = 1)
    (h : DataW.trod enc Try.prog w base spare held n t ((cs.drop off).take (Try.prog.cellsOf t)) = some y) : ∃ z, cs[off]? = some (.int k z) ∧ (Lit.int k z).wf = true := by
  obtain ⟨z, hz, _, hw⟩ := DataW.trod_int ht h
  rw [hc] at hz
  refine ⟨z, ?_, hw⟩
  have : ((cs.drop off).take 1)[0]? = some (.int k z) := by rw [hz]; rfl
  simpa [List.getElem?_take, List.getElem?_drop] using this
theorem act_opened {w : World} {base : Nat} {spare : Nat → Bool} {held : Bool} {fuel : Nat} {cs : List Value} {y : DataW H × List MemPlace} (h : DataW.trod enc Try.prog w base spare held fuel 44 cs = some y) : ∃ x : Int × Int, cs[0]? = some (.int .i64 x.1) ∧ cs[1]? = some (.int .i64 x.2) := by
  obtain ⟨ys, n, _, _, hl, hlen, hf⟩ := DataW.trod_struct Try.underlying44 h
  have c3 : Try.prog.cellsOf 3 = 1 := by kernel_rfl
  have hl2 : ys.length = 2 := hlen
  have h0 : DataW.trod enc Try.prog w base spare held n 3 ((cs.drop 0).take (Try.prog.cellsOf 3)) = some ys[0] := (hf 0 _ rfl).trans (List.getElem?_eq_getElem (show 0 < ys.length by omega))
  have h1 : DataW.trod enc Try.prog w base spare held n 3 ((cs.drop 1).take (Try.prog.cellsOf 3)) = some ys[1] := (hf 1 _ rfl).trans (List.getElem?_eq_getElem (show 1 < ys.length by omega))
  obtain ⟨x0, e0, _⟩ := one_int Try.underlying3 c3 h0
  obtain ⟨x1, e1, _⟩ := one_int Try.underlying3 c3 h1
  exact ⟨(x0, x1), e0, e1⟩
theorem acts_opened {w : World} {base : Nat} {spare : Nat → Bool} {held : Bool} {fuel : Nat} {A : Option Addr} {len cap : Nat} {y : DataW H × List MemPlace} (h : DataW.trod enc Try.prog w base spare held fuel 38 [.slice A len cap] = some y) : ∃ acts : List (Int × Int), acts.length = len ∧ len ≤ cap ∧ len ≤ 9223372036854775807 ∧ Acts w A acts := by
  have c45 : Try.prog.cellsOf 44 = 2 := by kernel_rfl
  rcases open_slice Try.underlying38 h with ⟨hcs, _⟩ | ⟨a, ln, cp, m, n, D, Pl, hcs, _, hl, hm, hmm, _, he⟩
  · injection (List.cons.inj hcs).1 with h1 h2 h3
    subst h1 h2 h3
    exact ⟨[], rfl, Nat.le_refl _, by omega, fun i hi => absurd hi (by simp)⟩
  · injection (List.cons.inj hcs).1 with h1 h2 h3
    subst h1 h2 h3
    have hmx : maxLen = 9223372036854775807 := by decide
    have hlm : len ≤ m := by rw [hmm]; split <;> omega
    have hx : ∀ i, i < len → ∃ x : Int × Int, w.cell? (a.add (i * 2)) = some (.int .i64 x.1) ∧ w.cell? ⟨(a.add (i * 2)).block, (a.add (i * 2)).off + 1, none⟩ = some (.int .i64 x.2) := by
      intro i hi
      obtain ⟨cs', hcs', ht⟩ := he i (by omega)
      rw [c45] at hcs'
      obtain ⟨hroot, hlen, hcell⟩ := World.cells?_some hcs'
      obtain ⟨x, e0, e1⟩ := act_opened ht
      refine ⟨x, ?_, ?_⟩
      · have := hcell 0 (by omega)
        rw [e0] at this
        exact this
      · have := hcell 1 (by omega)
        rw [e1] at this
        exact this
    obtain ⟨F, hF⟩ : ∃ F : Nat → Int × Int, ∀ i, i < len → w.cell? (a.add (i * 2)) = some (.int .i64 (F i).1) ∧ w.cell? ⟨(a.add (i * 2)).block, (a.add (i * 2)).off + 1, none⟩ = some (.int .i64 (F i).2) := choose_lt hx
    refine ⟨(List.range len).map F, by rw [List.length_map, List.length_range], hl, by omega, fun i hi => ⟨a, rfl, ?_⟩⟩
    rw [List.length_map, List.length_range] at hi
    have hg : ((List.range len).map F)[i]'(by rw [List.length_map, List.length_range]; exact hi) = F i := by rw [List.getElem_map, List.getElem_range]
    rw [hg]
    exact hF i hi
end Go.Proofs.Ytpnmbdhjmlidaaa.T
namespace Go.Proofs.Ytpnmbdhjmlidaaa.spaceActs
open Go.ChangeShapes Go.WideShapes Go.ChangeAt Go.RowKit
open Go.ChangeMaps (open_string shut_string)
set_option linter.unusedVariables false
theorem own : ownKnob Try.prog.godebug = none := by kernel_rfl
theorem laidOut : laidOutB Try.prog = true := by kernel_rfl
set_option maxRecDepth 100000 in
theorem lifted (os : Os) (started : os.Started) (H : Type) (enc : TypeId × Value → H) :
    ReturnsInHanded {} Try.checked os 5 .any (Rows.spaceActsSpec.pre6 enc Try.prog Try.f5 Rows.spaceActsRow.domain false) (Rows.spaceActsSpec.post enc Try.prog Try.f5 false true false false) := by
  refine returnsInHanded_of_change_sized (C := Try.checked) own started (by kernel_rfl) Try.func5
    (ChangeSpec.witness6 (enc := enc) (C := Try.checked) false ⟨#[], #[.slice none 0 0], []⟩ 8 (by kernel_rfl) (by kernel_rfl) (by kernel_rfl) (by kernel_rfl)) ?_
  intro W base args ds gs before hval0 hW hcnd hsz0 _
  have hsz : (DataW.weightsEach Try.prog (Try.f5.params.toList ++ Rows.spaceActsSpec.plain.varTypes Try.prog) (ds ++ gs)).all (· ≤ reachBytes) = true := hsz0
  have hval : ∀ (j : Nat) t v, Try.f5.params[j]? = some t → args[j]? = some v → Value.okWide Try.prog W .any base t v := hval0
  have hW' := hW
  obtain ⟨p, q, hA0, hV, rfl, hfz, hnd⟩ := hW
  have hA : DataW.TrodAll enc Try.prog W 0 (fun _ => true) true Try.f5.params.toList args.toList ds p := hA0
  rw [Try.params5] at hA hval hsz
  obtain ⟨v0, vs0, d0, ds0, p0, q0, hargs0, rfl, rfl, h0, r0⟩ := trodAll_cons hA
  obtain ⟨rfl, rfl, rfl⟩ := trodAll_nil r0
  obtain rfl : args = #[v0] := by cases args; simp_all
  obtain ⟨rfl, rfl⟩ := trodVars_none hV
  obtain ⟨a0, len0, cap0, rfl⟩ := okWide_slice Try.underlying38 (hval 0 38 v0 rfl rfl)
  have k0 := h0
  have lt0 : ∀ x ∈ p0, x.block < W.heap.size := by obtain ⟨m, hm⟩ := k0; exact DataW.trod_lt m _ _ _ hm
  obtain ⟨l0, hll, hlc, hmx, hA0c⟩ : ∃ l0 : List (Int × Int), l0.length = len0 ∧ len0 ≤ cap0 ∧ len0 ≤ 9223372036854775807 ∧ T.Acts W a0 l0 := by
    obtain ⟨fuel, hf⟩ := h0
    exact T.acts_opened (enc := enc) hf
  subst hll
  clear hA0 hval0 hsz0 hsz
  refine (T.acts_walk a0 cap0 l0 W hA0c hmx hlc).mono fun e W' ⟨he, bel⟩ => ?_
  subst he
  exact ⟨_, rfl, _, _, _, [], _, [], hW', trodAll_mk1 (shut_bool Try.underlying4 _), (trodAll_cons_mk (Below.trod laidOut (by kernel_rfl) (of_decide_eq_true (by kernel_rfl)) k0 bel lt0) trodAll_mk0), rfl, bel.frame _, fun h => by cases h⟩
theorem over : Rows.spaceActsRow.holds Try.pinned (OpenSpec.ofChange Rows.spaceActsSpec) :=
  OpenClaim.holds_of_wide 5 Try.f5 rfl rfl rfl rfl rfl rfl rfl ⟨rfl, rfl, rfl, rfl, rfl⟩ rfl rfl rfl rfl rfl (by kernel_rfl) Try.func5 (by kernel_rfl)
    (of_decide_eq_true (by kernel_rfl)) (by unfold Func.isWrapper; first | (rw [if_pos (by decide +kernel)]; kernel_rfl) | (rw [if_neg (by decide +kernel)]; exact ⟨rfl, rfl⟩))
    (fun os started H enc _ => lifted os started H enc)
theorem proved : Rows.SpaceActsSaid := over
#print axioms proved
end Go.Proofs.Ytpnmbdhjmlidaaa.spaceActs
namespace Go.Proofs.Ytpnmbdhjmlidaaa
/-- The row, under a short name, for the claim. -/
theorem spaceActs_holds : Rows.SpaceActsSaid := spaceActs.proved
end Go.Proofs.Ytpnmbdhjmlidaaa

