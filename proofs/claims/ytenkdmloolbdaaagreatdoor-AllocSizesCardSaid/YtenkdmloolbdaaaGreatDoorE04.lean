import Derived.Test.YtenkdmloolbdaaaGreatDoorE02
import Derived.Test.YtenkdmloolbdaaaGreatDoorE01
set_option linter.unusedVariables false
set_option linter.unusedSimpArgs false
set_option maxHeartbeats 8000000
set_option maxRecDepth 100000
section
namespace Go.Proofs.YtenkdmloolbdaaaGreatDoorW.PrintLast
open Go.RowKit
section
variable {P : Program} {ops : Array Oper} {Q : Exit → Act → World → Prop} {md : Region.Mode} {S : World → Prop} {ds : List Nat}
def bz (n m : Nat) : Array Bool := ((List.range n).map (fun i => m.testBit i)).toArray
theorem st_ (n : Nat) (S : World → Prop) (ds : List Nat) {id : Nat} {a : Act} {w : World} (hS : S w.drew) (h : S w.drew → wpAnyLast P .any ops Q S ds n (bz n 0) a w.drew)
 (hm : P.follows .mixedOrders = true := by kernel_rfl) (hn : ops.size = n := by exact rfl) (hl : Array.replicate n false = bz n 0 := by kernel_rfl) : (Code.region id ops true).wp P Q a w :=
 start_ _ hm hn hl hS h
theorem pu_ (i d m : Nat) {n m0 : Nat} {oi : Oper} {v : Value} {fuel : Nat} {a a' : Act} {w : World} (h : wpAnyLast P md ops Q S ds fuel (bz n m) a' w)
 (hi : ops[i]? = some oi := by exact rfl) (hN : oi.dst = some d := by exact rfl) (hc : anyB md ops (bz n m0) (bz n m) i = true := by kernel_rfl) (hQ : ∀ c a w, Q (.panic c) (a.put oi.dst v) w → Q (.panic c) a w := by exact fun _ _ _ h => h)
 (hy : Yields P ops oi v a := by exact Or.inl ⟨by rfl, by intro w'; go_simp; with_reducible rfl⟩) (ha : a.put (some d) v = a' := by first | (simp only [Act.put, List.setIfInBounds_toArray, List.set_cons_zero, List.set_cons_succ, i64_w, i32_w]; rfl) | rfl) :
 wpAnyLast P md ops Q S ds (fuel + 1) (bz n m0) a w := pure_ _ hi hN hc hQ hy ha h
theorem po_ (i d m : Nat) {n m0 : Nat} {oi : Oper} {fuel : Nat} {a a' : Act} {w : World} (h : wpAnyLast P md ops Q S ds fuel (bz n m) a' w)
 (hi : ops[i]? = some oi := by exact rfl) (hN : oi.dst = some d := by exact rfl) (hc : anyB md ops (bz n m0) (bz n m) i = true := by kernel_rfl) (hQ : ∀ c a w, Q (.panic c) (a.put oi.dst undef) w → Q (.panic c) a w := by exact fun _ _ _ h => h)
 (hy : Yields P ops oi undef a := by exact Or.inr ⟨by rfl, rfl⟩) (ha : a.put (some d) undef = a' := by first | (simp only [Act.put, List.setIfInBounds_toArray, List.set_cons_zero, List.set_cons_succ, i64_w, i32_w]; rfl) | rfl) :
 wpAnyLast P md ops Q S ds (fuel + 1) (bz n m0) a w := pure_ _ hi hN hc hQ hy ha h
theorem ta_ (i d m : Nat) {n m0 : Nat} {oi : Oper} {v : Value} {fuel : Nat} {a a' : Act} {w : World} (hS : S w) (h : wpAnyLast P md ops Q S ds fuel (bz n m) a' w)
 (hi : ops[i]? = some oi := by exact rfl) (hN : oi.dst = some d := by exact rfl) (hc : takeB md ops ds (bz n m0) (bz n m) i = true := by kernel_rfl) (hQ : ∀ c a w, Q (.panic c) (a.put oi.dst v) w → Q (.panic c) a w := by exact fun _ _ _ h => h)
 (hy : YieldsIf P ops S oi v a := by exact Or.inl ⟨by rfl, by intro w' s_; (try dsimp only at s_); (repeat (with_reducible (have := And.left s_; replace s_ := And.right s_))); go_simp; with_reducible rfl⟩) (ha : a.put (some d) v = a' := by first | (simp only [Act.put, List.setIfInBounds_toArray, List.set_cons_zero, List.set_cons_succ, i64_w, i32_w]; rfl) | rfl) :
 wpAnyLast P md ops Q S ds (fuel + 1) (bz n m0) a w := take_ _ hi hN hc hQ hy hS ha h
theorem no_ (d : Nat) {fuel : Nat} {l : Array Bool} {a a' : Act} {v : Value} {w : World} (h : wpAnyLast P md ops Q S ds fuel l a' w)
 (ha : a.put (some d) v = a' := by simp only [Act.put, List.setIfInBounds_toArray, List.set_cons_zero, List.set_cons_succ, i64_w, i32_w]; rfl) : wpAnyLast P md ops Q S ds fuel l (a.put (some d) v) w := by
 subst ha; exact h
theorem va_ {oi : Oper} {N : Option Tmp} {a : Act} {w w1 : World} {v : Value} {K : Act → World → Prop} (h : K (a.put N v) w1) (hw : Region.wanted oi (yielded ops a.tmps) = true := by exact (by rfl)) (hN : oi.dst = N := by exact rfl)
 (hrun : (execOp a.eval oi).run P w = .ok (.value v) w1 := by go_simp; constructor; (· rfl); (· rfl)) : if Region.wanted oi (yielded ops a.tmps) = true then Oper.wp P oi a w K Q else K (a.put N undef) w := value_ hw hN hrun h
end
end Go.Proofs.YtenkdmloolbdaaaGreatDoorW.PrintLast
end
