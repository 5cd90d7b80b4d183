import Derived.Test.YtenkdmloolbdaaaGreatDoorE31
import Derived.Test.YtenkdmloolbdaaaGreatDoorE04
import Derived.Test.YtenkdmloolbdaaaGreatDoorE24
set_option linter.unusedVariables false
set_option linter.unusedSimpArgs false
set_option maxHeartbeats 8000000
set_option maxRecDepth 100000
section
namespace Go.Proofs.YtenkdmloolbdaaaGreatDoor.T
open Go.RowKit Go.Maps Go.WideShapes Go.Proofs.YtenkdmloolbdaaaGreatDoorW.PrintWords Go.Proofs.YtenkdmloolbdaaaGreatDoorW.PrintLast Go.Proofs.YtenkdmloolbdaaaGreatDoorW.PrintMore
theorem pcs_one (pf : Nat → Nat) (a n k : Nat) (hk : n ≤ k) (h1 : 1 ≤ n) (h64 : a % 64 + n ≤ 64) : pcs pf k a n = [(pf (a / 64), a % 64, n)] := by
 obtain ⟨k', rfl⟩ : ∃ k', k = k' + 1 := ⟨k - 1, by omega⟩
 rw [pcs, if_neg (by omega), show min n (64 - a % 64) = n by omega, Nat.sub_self, pcs_zero]
theorem mem_write1 (κ : Kol) (i b each N c : Nat) (l bs : List Nat) (f g : Int → Option Int) (a0 fr cb : Nat) (B : Option Addr) (hNN : N ≤ 100000) (hcb : bs.length ≤ cb) (ha : a0 + bs.length ≤ 262144) (h1 : 1 ≤ bs.length) (h64 : a0 % 64 + bs.length ≤ 64) (hf : f ((a0 / 64 : Nat) : Int) = some ((fr : Nat) : Int)) (hfr : fr < N) (w : World) (h : MemK κ i w b each N l c f g) (hb : RdS (· = i + 1) κ w B bs) :
 Calls Tryz.prog 66 #[.pointer (some ⟨b, 0, none⟩), .int .i64 a0, .slice B bs.length cb] w fun e w' => e = .returned (.int .i64 0) ∧ ∃ κ', MemK κ' i w' b each N (spliceB l (fr * 64 + a0 % 64) bs) c f g ∧ Upd (· = i + 1) κ w κ' w' := by
 have h := mem_write κ i b each N c l bs f g (fun _ => fr) a0 cb B hNN (by omega) hcb ha (fun q _ h2 h3 => by
  obtain rfl : q = a0 / 64 := by omega
  exact ⟨hf, hfr⟩) w h hb
 rw [pcs_one _ _ _ _ (Nat.le_refl _) h1 h64] at h
 simpa [saveS] using h
theorem mem_write0 (κ : Kol) (i b each N c : Nat) (l : List Nat) (f g : Int → Option Int) (a0 cb : Nat) (B : Option Addr) (hNN : N ≤ 100000) (ha : a0 ≤ 262144) (w : World) (h : MemK κ i w b each N l c f g) :
 Calls Tryz.prog 66 #[.pointer (some ⟨b, 0, none⟩), .int .i64 a0, .slice B 0 cb] w fun e w' => e = .returned (.int .i64 0) ∧ ∃ κ', MemK κ' i w' b each N l c f g ∧ Upd (· = i + 1) κ w κ' w' := by
 have h := mem_write κ i b each N c l [] f g (fun _ => 0) a0 cb B hNN (by simp) (by simp) (by simpa using ha) (fun q h0 => by simp at h0) w h (fun κ' w' _ => ⟨rfl, by simp, fun hh => absurd hh (Nat.lt_irrefl 0)⟩)
 simpa [saveS, pcs] using h
theorem mem_read1 (κ : Kol) (i b each N c n0 : Nat) (l : List Nat) (f g : Int → Option Int) (a0 fr : Nat) (hNN : N ≤ 100000) (ha : a0 + n0 ≤ 262144) (h1 : 1 ≤ n0) (h64 : a0 % 64 + n0 ≤ 64) (hf : f ((a0 / 64 : Nat) : Int) = some ((fr : Nat) : Int)) (hfr : fr < N) (hl : fr * 64 + a0 % 64 + n0 ≤ l.length) (w : World) (h : MemK κ i w b each N l c f g) :
 Calls Tryz.prog 67 #[.pointer (some ⟨b, 0, none⟩), .int .i64 a0, .int .i64 n0] w fun e w' => ∃ A cp, e = .returned (.tuple #[.slice A n0 cp, .int .i64 0]) ∧ RdB w' A n0 ((l.drop (fr * 64 + a0 % 64)).take n0) ∧ RowKit.Below w.heap.size w w' := by
 have h := mem_read κ i b each N c n0 l f g (fun _ => fr) a0 hNN (by omega) ha (fun q _ h2 h3 => by
  obtain rfl : q = a0 / 64 := by omega
  exact ⟨hf, hfr⟩) w h
 have hl2 : ((l.drop (fr * 64 + a0 % 64)).take n0).length = n0 := by rw [List.length_take, List.length_drop]; omega
 rw [pcs_one _ _ _ _ (Nat.le_refl _) h1 h64, show loadS l [(fr, a0 % 64, n0)] = (l.drop (fr * 64 + a0 % 64)).take n0 by simp [loadS], hl2] at h
 exact h
theorem make_bytes (z : Nat) (hz : z ≤ 1000000) : ∀ W : World, (Instr.makeSlice 23 (.int .i64 (z : Int)) (.int .i64 (z : Int))).run Tryz.prog W = .ok (.slice (some ⟨W.heap.size, 0, none⟩) z z) (W.alloc (.cells (bv (List.replicate z 0)) 5)) := by
 have hmk := print_make (P := Tryz.prog) 23 5 .u8 1 Tryz.underlying23 (by kernel_rfl) (by decide) z (by omega)
 have he : madeCells #[.int .u8 0] z = bv (List.replicate z 0) := by
  unfold madeCells bv
  apply Array.ext
  ·simp
  ·intro j h1 h2
   simp [Nat.mod_one]
 rw [he] at hmk
 exact hmk
theorem RdS.blk {I : Nat → Prop} {κ : Kol} {i g : Nat} {w : World} {bs : List Nat} {t : TypeId} (h : BlkK κ i w g (bv bs) t) (hi : ¬ I i) (hl : bs.length ≤ 1000000) : RdS I κ w (some ⟨g, 0, none⟩) bs := fun κ' w' hU => by
 have := bv_cells (h.upd hU hi).blk 0 bs.length (by omega) hl
 simpa using this
structure OnPage (s : St) (x n fr : Nat) : Prop where
 f : s.pf ((x / 64 : Nat) : Int) = some ((fr : Nat) : Int)
 lt : fr < s.n * s.f
 fit : x % 64 + n ≤ 64
 max : x + n ≤ 262144
 N : s.n * s.f ≤ 100000
 len : s.l.length = s.n * s.f * 64
end Go.Proofs.YtenkdmloolbdaaaGreatDoor.T
end
