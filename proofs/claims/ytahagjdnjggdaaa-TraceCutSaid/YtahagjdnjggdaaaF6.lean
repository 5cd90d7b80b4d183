/- TraceJoins: the walk and the plain law joined. -/
import Derived.Test.YtahagjdnjggdaaaD
import Derived.Test.YtahagjdnjggdaaaC
namespace Go.Proofs.Ytahagjdnjggdaaa.T
open Go.RowKit Go.Proofs.YtahagjdnjggdaaaW.PrintWords Go.Proofs.YtahagjdnjggdaaaW.PrintLast Go.Proofs.YtahagjdnjggdaaaW.PrintMore
set_option linter.unusedVariables false
/-- What trace.Write tells of cut rows: their bytes, or that there are none. -/
theorem write_either (ws : List S45) (hl : ws.length ≤ 100) : (∀ x ∈ ws.map to51, rightB x = true) ∨ trace_Write.f 600 (ws.map to51) = some ([], 2) := by
  by_cases hok : ∀ x ∈ ws.map to51, rightB x = true
  · exact .inl hok
  · refine .inr (write_bad _ (by rw [List.length_map]; omega) ?_ 600 (by rw [List.length_map]; omega))
    refine Classical.byContradiction fun hn => hok fun x hx => ?_
    cases hv : rightB x with
    | true => rfl
    | false => exact absurd ⟨x, hx, hv⟩ hn
theorem joins_law (A0 A1 : Option Addr) (c0 c1 : Nat) (l0 l1 : List S45) (w : World) (hr0 : Kd.C k45 w A0 l0.length l0) (hc0 : l0.length ≤ c0) (hr1 : Kd.C k45 w A1 l1.length l1) (hc1 : l1.length ≤ c1) (hb0 : ∀ x ∈ l0, byteStep (to51 x)) (hb1 : ∀ x ∈ l1, byteStep (to51 x)) :
    Calls Try.prog 6 #[.slice A0 l0.length c0, .slice A1 l1.length c1] w fun e w' => e = .returned (.bool true) ∧ Below w.heap.size w w' := by
  obtain ⟨vs, hvs⟩ : ∃ ws, cuts 5 l0 = ws := ⟨_, rfl⟩
  obtain ⟨ws, hws⟩ : ∃ ws, cuts 5 l1 = ws := ⟨_, rfl⟩
  have hbo1 : messuagelaw27_both.f 600 l0 5 = some (vs, vs.map to51) := by rw [← hvs]; exact both_cuts 600 5 l0 (by omega)
  have hbo2 : messuagelaw27_both.f 600 l1 5 = some (ws, ws.map to51) := by rw [← hws]; exact both_cuts 600 5 l1 (by omega)
  have hvl : vs.length ≤ 5 := by rw [← hvs]; exact cuts_len _ _
  have hwl : ws.length ≤ 5 := by rw [← hws]; exact cuts_len _ _
  have hvb : ∀ x ∈ vs.map to51, byteStep x := by rw [← hvs]; exact cuts_byte 5 l0 hb0
  have hwb : ∀ x ∈ ws.map to51, byteStep x := by rw [← hws]; exact cuts_byte 5 l1 hb1
  have ht := traces_true 600 (by omega)
  have hl1 : (vs.map to51).length = vs.length := List.length_map ..
  have hl2 : (ws.map to51).length = ws.length := List.length_map ..
  rcases write_either vs (by omega) with hv | hv
  · have hv1 := write_ok _ hv (by omega) 600 (by omega)
    rcases write_either ws (by omega) with hw | hw
    · have hw1 := write_ok _ hw (by omega) 600 (by omega)
      have hall : ∀ x ∈ vs.map to51 ++ ws.map to51, rightB x = true := by
        intro x hx
        rcases List.mem_append.1 hx with h | h
        · exact hv x h
        · exact hw x h
      have hallb : ∀ x ∈ vs.map to51 ++ ws.map to51, byteStep x := by
        intro x hx
        rcases List.mem_append.1 hx with h | h
        · exact hvb x h
        · exact hwb x h
      have hal : (vs.map to51 ++ ws.map to51).length ≤ 10 := by rw [List.length_append]; omega
      refine joins_good 600 A0 A1 c0 c1 l0 l1 _ _ ((vs.map to51 ++ ws.map to51).flatMap enc1) _ _ (vs.map to51 ++ ws.map to51) vs ws (vs ++ ws) (vs ++ ws) w hr0 hc0 hr1 hc1 hbo1 hbo2 hv1 hw1 ht ?_ rfl ?_ ?_ hvl hwl ?_ ?_ ?_
      · rw [List.flatMap_append]
      · have := flat_len _ hv; omega
      · have := flat_len _ hw; omega
      · exact read_back _ hall hallb (by omega) 0
      · rw [from_value _ (by omega) 600 (by omega), List.map_append, map_back, map_back]
      · unfold messuageref27_Same.f; rw [sameL_refl]
    · exact joins_idle2 600 A0 A1 c0 c1 l0 l1 _ _ _ _ vs ws w hr0 hc0 hr1 hc1 hbo1 hbo2 hv1 hw ht
  · rcases write_either ws (by omega) with hw | hw
    · exact joins_idle1 600 A0 A1 c0 c1 l0 l1 _ _ _ _ vs ws w hr0 hc0 hr1 hc1 hbo1 hbo2 hv (write_ok _ hw (by omega) 600 (by omega)) ht
    · exact joins_idle3 600 A0 A1 c0 c1 l0 l1 _ _ _ _ vs ws w hr0 hc0 hr1 hc1 hbo1 hbo2 hv hw ht
end Go.Proofs.Ytahagjdnjggdaaa.T
