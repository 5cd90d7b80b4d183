/- TraceWrites: the walk and the plain law joined. -/
import Derived.Test.YtahagjdnjggdaaaI
namespace Go.Proofs.Ytahagjdnjggdaaa.T
open Go.RowKit Go.Proofs.YtahagjdnjggdaaaW.PrintWords Go.Proofs.YtahagjdnjggdaaaW.PrintLast Go.Proofs.YtahagjdnjggdaaaW.PrintMore
set_option linter.unusedVariables false
def cuts (n : Nat) (l0 : List S45) : List S45 := (l0.take n).map cut45
theorem both_cuts (k n : Nat) (l0 : List S45) (hn : n ≤ 1000) : messuagelaw27_both.f k l0 (n : Int) = some (cuts n l0, (cuts n l0).map to51) := by
  unfold messuagelaw27_both.f
  rw [if_pos (by omega)]
  rfl
theorem cuts_len (n : Nat) (l0 : List S45) : (cuts n l0).length ≤ n := by
  unfold cuts; rw [List.length_map]; exact List.length_take_le _ _
theorem cut_bytes (x : List Int) (h : byteOk x) (n : Nat) : byteOk (x.take n) := fun v hv => h v (List.mem_of_mem_take hv)
theorem cuts_byte (n : Nat) (l0 : List S45) (h : ∀ x ∈ l0, byteStep (to51 x)) : ∀ x ∈ (cuts n l0).map to51, byteStep x := by
  intro x hx
  obtain ⟨y, hy, rfl⟩ := List.mem_map.1 hx
  obtain ⟨z, hz, rfl⟩ := List.mem_map.1 hy
  have hb := h z (List.mem_of_mem_take hz)
  exact ⟨hb.1, hb.2.1, cut_bytes _ hb.2.2 260⟩
theorem map_back (ws : List S45) : (ws.map to51).map from51 = ws := by
  rw [List.map_map]
  exact List.map_id' ws
theorem flat_len : ∀ (m : List S51), (∀ x ∈ m, rightB x = true) → (m.flatMap enc1).length ≤ m.length * 267
  | [], _ => by simp
  | x :: m, h => by
    have := flat_len m (fun y hy => h y (List.mem_cons_of_mem _ hy))
    have h5 := rightB_len (h x (List.mem_cons_self ..))
    rw [List.flatMap_cons, List.length_append, enc1_len, List.length_cons]
    omega
theorem read_back (m : List S51) (hr : ∀ x ∈ m, rightB x = true) (hb : ∀ x ∈ m, byteStep x) (hl : m.length ≤ 1000000) (k : Nat) : trace_Read.f k (m.flatMap enc1) = some (m, 0) := by
  unfold trace_Read.f
  rw [if_pos ⟨byteOk_flat m hb, by have := flat_len m hr; omega⟩, decode_enc m hr hb]
theorem writes_law (A0 : Option Addr) (c0 : Nat) (l0 : List S45) (w : World) (hr0 : Kd.C k45 w A0 l0.length l0) (hc0 : l0.length ≤ c0) (hb0 : ∀ x ∈ l0, byteStep (to51 x)) :
    Calls Try.prog 3 #[.slice A0 l0.length c0] w fun e w' => e = .returned (.bool true) ∧ Below w.heap.size w w' := by
  obtain ⟨ws, hws⟩ : ∃ ws, cuts 12 l0 = ws := ⟨_, rfl⟩
  have hbo : messuagelaw27_both.f 600 l0 12 = some (ws, ws.map to51) := by rw [← hws]; exact both_cuts 600 12 l0 (by omega)
  have hwl : ws.length ≤ 12 := by rw [← hws]; exact cuts_len _ _
  have hby : ∀ x ∈ ws.map to51, byteStep x := by rw [← hws]; exact cuts_byte 12 l0 hb0
  have hil : (ws.map to51).length = ws.length := List.length_map ..
  have hf : messuagelaw27_from.f 600 (ws.map to51) = some ws := by rw [from_value _ (by omega) 600 (by omega), map_back]
  have hs : messuageref27_Same.f 600 ws ws = some true := by unfold messuageref27_Same.f; rw [sameL_refl]
  by_cases hok : ∀ x ∈ ws.map to51, rightB x = true
  · have hok2 : ∀ x ∈ ws, rightB (to51 x) = true := fun x hx => hok _ (List.mem_map.2 ⟨x, hx, rfl⟩)
    refine writes_good 600 A0 c0 l0 ((ws.map to51).flatMap enc1) (ws.map to51) ws ws w hr0 hc0 hbo ?_ ?_ (traces_true _ (by omega)) hf hs ?_
    · exact write_ok _ hok (by omega) 600 (by omega)
    · exact refwrite_ok ws hok2 (by omega) 600 (by omega)
    · exact read_back _ hok hby (by omega) 0
  · have hbad : ∃ x ∈ ws, rightB (to51 x) = false := by
      refine Classical.byContradiction fun hn => hok fun x hx => ?_
      obtain ⟨y, hy, rfl⟩ := List.mem_map.1 hx
      cases hv : rightB (to51 y) with
      | true => rfl
      | false => exact absurd ⟨y, hy, hv⟩ hn
    obtain ⟨y, hy, hv⟩ := hbad
    refine writes_bad 600 A0 c0 l0 [] (ws.map to51) ws ws w hr0 hc0 hbo ?_ ?_ (traces_true _ (by omega)) hf hs
    · exact write_bad _ (by omega) ⟨to51 y, List.mem_map.2 ⟨y, hy, rfl⟩, hv⟩ 600 (by omega)
    · exact refwrite_bad ws (by omega) ⟨y, hy, hv⟩ 600 (by omega)
end Go.Proofs.Ytahagjdnjggdaaa.T
