/- bits.TrailingZeros8 at this program: the shelf's contract, laid. -/
import Derived.Shelf.Lay
import Derived.Shelf.LaySoft
import Derived.Shelf.Small.Bits
import Derived.Test.YtffmhpfdfcpniaaQ1
namespace Go.Proofs
open Go.Shelf
shelf_lay Lays.n136 Nm 136 at Try as Try.lays136
end Go.Proofs
namespace Go.Proofs.Ytffmhpfdfcpniaa.PH
open Go.RowKit Go.Proofs.YtffmhpfdfcpniaaW.PrintWords Go.Proofs.YtffmhpfdfcpniaaW.PrintLast Go.Proofs.YtffmhpfdfcpniaaW.PrintMore
def bits_TrailingZeros8.f (x : Int) : Option Int := if 0 ≤ x ∧ x ≤ 255 then some ((Lib.trailingZeros8 x.toNat : Nat) : Int) else none
theorem bits_TrailingZeros8.calls (x r : Int) (w : World) (h : bits_TrailingZeros8.f x = some r) :
    Calls Try.prog 77 #[.int .u8 x] w fun e w' => e = .returned (.int .i64 r) ∧ Drawn0 w w' := by
  unfold bits_TrailingZeros8.f at h
  by_cases hx : 0 ≤ x ∧ x ≤ 255
  · rw [if_pos hx] at h
    obtain rfl := Option.some.inj h
    refine (Any.bits_TrailingZeros8 Try.lays136 x w hx.1 hx.2).mono ?_
    rintro e w' ⟨h1, rfl⟩
    exact ⟨h1, Drawn0.refl _⟩
  · rw [if_neg hx] at h
    exact absurd h (by simp)
end Go.Proofs.Ytffmhpfdfcpniaa.PH
