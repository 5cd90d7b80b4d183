/- bits.TrailingZeros8 at this program: the shelf's contract, laid. -/
import Derived.Shelf.Small.Bits
import Derived.Test.YtffmhpfdfcpniaaQ1
namespace Go.Proofs
open Go.Shelf
def Try.lays136_ren : Go.Shelf.Ren := ⟨fun | 136 => 77 | n => n, fun | 5 => 5 | 3 => 3 | 9 => 9 | n => n, fun | n => n⟩
theorem Try.lays136 : Go.Proofs.Lays.n136 Try.prog Try.lays136_ren := {
  mixed := by kernel_rfl
  f136 := Try.func77.trans (congrArg some (by kernel_rfl))
  t3 := Try.underlying3
  a3 := Try.isAgg3
  z3 := Try.sizeOf3
  v3 := Try.zeroValue3
  t5 := Try.underlying5
  a5 := Try.isAgg5
  z5 := Try.sizeOf5
  v5 := Try.zeroValue5
  t9 := Try.underlying9
  a9 := Try.isAgg9
  z9 := Try.sizeOf9
  v9 := Try.zeroValue9 }
end Go.Proofs
namespace Go.Proofs.Ytffmhpfdfcpniaa.PH
open Go.RowKit Go.Proofs.YtffmhpfdfcpniaaW.PrintWords Go.Proofs.YtffmhpfdfcpniaaW.PrintLast Go.Proofs.YtffmhpfdfcpniaaW.PrintMore
def bits_TrailingZeros8.f (x : Int) : Option Int := if 0 ≤ x ∧ x ≤ 255 then some ((Lib.trailingZeros8 x.toNat : Nat) : Int) else none
theorem bits_TrailingZeros8.calls (x r : Int) (w : World) (h : bits_TrailingZeros8.f x = some r) :
    Calls Try.prog 77 #[.int .u8 x] w fun e w' => e = .returned (.int .i64 r) ∧ Drawn0 w w' := by
  unfold bits_TrailingZeros8.f at h
  by_cases hx : 0 ≤ x ∧ x ≤ 255
  · rw [if_pos hx] at h
    obtain rfl := Option.some.inj h
    refine (Any.bits_TrailingZeros8 Try.lays136 x w hx.1 hx.2).mono ?_
    rintro e w' ⟨h1, rfl⟩
    exact ⟨h1, Drawn0.refl _⟩
  · rw [if_neg hx] at h
    exact absurd h (by simp)
end Go.Proofs.Ytffmhpfdfcpniaa.PH
