/- space.New, and messuagelaw17.spaces: it tells true. -/
import Derived.Test.YtpnmbdhjmlidaaaH
namespace Go.Proofs.Ytpnmbdhjmlidaaa.T
open Go.RowKit Go.Proofs.YtpnmbdhjmlidaaaW.PrintWords Go.Proofs.YtpnmbdhjmlidaaaW.PrintLast Go.Proofs.YtpnmbdhjmlidaaaW.PrintMore
set_option linter.unusedVariables false
set_option linter.unusedSimpArgs false
theorem Sp.new (w : World) (base : Nat) (hb : base ≤ w.heap.size) : Sp (w.alloc (.cells #[.slice none 0 0] 48)) base w.heap.size none 0 [] :=
  ⟨hb, heap_alloc_new w _, World.ownsRow_nil _ _ _ _, by simp [Row0], trivial⟩
theorem new_own (w : World) :
    Calls Try.prog 6 #[] w fun e w' => e = .returned (.pointer (some ⟨w.heap.size, 0, none⟩)) ∧ w' = w.alloc (.cells #[.slice none 0 0] 48) := by
  go_enter Try.func6, Try.ntmps6
  go_wp2
  go_ret
  exact ⟨rfl, rfl⟩
/-- Any Take. -/
theorem take_any (base g : Nat) (A : Option Addr) (c : Nat) (rs : List (Int × Int)) (n : Int) (w : World) (h : Sp w base g A c rs) :
    Calls Try.prog 8 #[.pointer (some ⟨g, 0, none⟩), .int .i64 n] w fun e w' => Taken w base g A rs n e w' := by
  by_cases hn : n < 1 ∨ 4095 < n
  · exact take_bad base g A c rs n w h hn
  · exact take_own base g A c rs n w h (by omega) (by omega)
theorem take_is (base g : Nat) (A : Option Addr) (c : Nat) (rs l : List (Int × Int)) (n a er : Int) (w : World) (ht : takeR n rs = (a, er, l)) (h : Sp w base g A c rs) :
    Calls Try.prog 8 #[.pointer (some ⟨g, 0, none⟩), .int .i64 n] w fun e w' => ∃ A' c', e = .returned (.tuple #[.int .i64 a, .int .i64 er]) ∧ Sp w' base g A' c' l ∧ Chg w w' g (Row0 A) ∧ (Row0 A' = Row0 A ∨ ∃ b, Row0 A' = some b ∧ w.heap.size ≤ b) := by
  refine (take_any base g A c rs n w h).mono ?_
  rintro e w' ⟨A', c', rfl, hs, hch, hrow⟩
  rw [ht] at hs ⊢
  exact ⟨A', c', rfl, hs, hch, hrow⟩
theorem give_is (base g : Nat) (A : Option Addr) (c : Nat) (rs l : List (Int × Int)) (p m : Int) (w : World) (ht : giveL p rs = some (m, l)) (h : Sp w base g A c rs) :
    Calls Try.prog 9 #[.pointer (some ⟨g, 0, none⟩), .int .i64 p] w fun e w' => ∃ c', e = .returned (.tuple #[.int .i64 m, .int .i64 0]) ∧ Sp w' base g A c' l ∧ Chg w w' g (Row0 A) := by
  refine (give_own base g A c rs p w h).mono ?_
  intro e w' hg
  unfold Given at hg
  rw [ht] at hg
  exact hg
theorem free_is (base g : Nat) (A : Option Addr) (c : Nat) (rs : List (Int × Int)) (f : Int) (w : World) (hf : 4095 - pages rs = f) (h : Sp w base g A c rs) :
    Calls Try.prog 11 #[.pointer (some ⟨g, 0, none⟩)] w fun e w' => e = .returned (.int .i64 f) ∧ Below w.heap.size w w' := by
  subst hf
  exact free_own base g A c rs w h
/-- Where a space of the call's own was turned: what is older is as it was. -/
theorem Sp.chg {w0 w w' : World} {g : Nat} {A : Option Addr} {c : Nat} {rs : List (Int × Int)} (h : Sp w w0.heap.size g A c rs) (hb : Below w0.heap.size w0 w) (hc : Chg w w' g (Row0 A)) : Below w0.heap.size w0 w' :=
  hb.trans (hc.below hb.size h.lo (fun k hk => (h.row.rowlt k hk).1))
theorem Chg.low {w0 w w' : World} {g : Nat} {row : Option Nat} (h : Chg w w' g row) (hb : Below w0.heap.size w0 w) (hg : w0.heap.size ≤ g) (hr : ∀ k, row = some k → w0.heap.size ≤ k) : Below w0.heap.size w0 w' :=
  hb.trans (h.below hb.size hg hr)
set_option maxHeartbeats 4000000 in
set_option maxRecDepth 100000 in
theorem spaces_true (w : World) : Calls Try.prog 7 #[] w fun e w' => e = .returned (.bool true) ∧ Below w.heap.size w w' := by
  have t1 : takeR 2 [] = (1, 0, [(1, 2)]) := by decide
  have t2 : takeR 1 [(1, 2)] = (3, 0, [(1, 2), (3, 1)]) := by decide
  have t3 : giveL 1 [(1, 2), (3, 1)] = some (2, [(3, 1)]) := by decide
  have t4 : takeR 1 [(3, 1)] = (1, 0, [(1, 1), (3, 1)]) := by decide
  have t5 : (4095 : Int) - pages [(1, 1), (3, 1)] = 4093 := by decide
  have T1 := Aside0.mk t1
  have T2 := Aside0.mk t2
  have T3 := Aside0.mk t3
  have T4 := Aside0.mk t4
  have T5 := Aside0.mk t5
  clear t1 t2 t3 t4 t5
  go_enter Try.func7, Try.ntmps7
  go_upto_region 2 with (go_at_call 6; (with_reducible refine (new_own _).mono ?_); rintro e_ w1 ⟨rfl, rfl⟩; have HS := Aside0.mk (Sp.new w w.heap.size (Nat.le_refl _)); have HB := Aside0.mk (below_alloc (Below.refl w.heap.size w) (.cells #[.slice none 0 0] 48)))
  go_wp2_with (first | (go_at_call 8; (with_reducible refine (take_is w.heap.size w.heap.size _ _ [] [(1, 2)] 2 1 0 _ T1.out HS.out).mono ?_); rintro e_ w2 ⟨A2, c2, rfl, hs, hch, hrow⟩; have HB_ := Aside0.mk (HS.out.chg HB.out hch); clear HB HS; have HB := HB_; have HS := Aside0.mk hs; clear HB_ hs hch hrow) | (go_at_call 8; (with_reducible refine (take_is w.heap.size w.heap.size _ _ [(1, 2)] [(1, 2), (3, 1)] 1 3 0 _ T2.out HS.out).mono ?_); rintro e_ w2 ⟨A2, c2, rfl, hs, hch, hrow⟩; have HB_ := Aside0.mk (HS.out.chg HB.out hch); clear HB HS; have HB := HB_; have HS := Aside0.mk hs; clear HB_ hs hch hrow) | (go_at_call 9; (with_reducible refine (give_is w.heap.size w.heap.size _ _ [(1, 2), (3, 1)] [(3, 1)] 1 2 _ T3.out HS.out).mono ?_); rintro e_ w2 ⟨c2, rfl, hs, hch⟩; have HB_ := Aside0.mk (HS.out.chg HB.out hch); clear HB HS; have HB := HB_; have HS := Aside0.mk hs; clear HB_ hs hch) | (go_at_call 8; (with_reducible refine (take_is w.heap.size w.heap.size _ _ [(3, 1)] [(1, 1), (3, 1)] 1 1 0 _ T4.out HS.out).mono ?_); rintro e_ w2 ⟨A2, c2, rfl, hs, hch, hrow⟩; have HB_ := Aside0.mk (HS.out.chg HB.out hch); clear HB HS; have HB := HB_; have HS := Aside0.mk hs; clear HB_ hs hch hrow) | (go_at_call 11; (with_reducible refine (free_is w.heap.size w.heap.size _ _ [(1, 1), (3, 1)] 4093 _ T5.out HS.out).mono ?_); rintro e_ w2 ⟨rfl, hb⟩; have HB_ := Aside0.mk (below_then HB.out HB.out.size hb); clear HB hb; have HB := HB_; clear HB_))
  go_ret
  exact ⟨rfl, HB.out⟩
end Go.Proofs.Ytpnmbdhjmlidaaa.T
