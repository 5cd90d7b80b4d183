/- Grids held against each other; topo.matrix. -/
import Derived.Test.YtffmhpfdfcpniaaD
namespace Go.Proofs.Ytffmhpfdfcpniaa.T
open Go.RowKit Go.Proofs.YtffmhpfdfcpniaaW.PrintWords Go.Proofs.YtffmhpfdfcpniaaW.PrintLast Go.Proofs.YtffmhpfdfcpniaaW.PrintMore Go.Proofs.Ytffmhpfdfcpniaa.PH
set_option linter.unusedVariables false
set_option linter.unusedSimpArgs false
theorem rd_at (xs : List Int) (i : Nat) (h : i < xs.length) : rd xs (i : Int) = xs[i] := by
  unfold rd
  rw [Int.toNat_natCast, List.getD_eq_getElem?_getD, List.getElem?_eq_getElem h]; rfl
theorem equal_l0 (xs ys : List Int) (hl : xs.length = ys.length) (h64 : xs.length ≤ 1000) : ∀ (d i k : Nat), xs.length - i = d → i ≤ xs.length → d + 1 ≤ k → slices_Equal_int_int.l0 k xs ys (xs.length : Int) (i : Int) = some (decide (xs.drop i = ys.drop i)) := by
  intro d
  induction d with
  | zero =>
    intro i k hd hi hk
    obtain rfl : i = xs.length := by omega
    obtain ⟨q, rfl⟩ : ∃ q, k = q + 1 := ⟨k - 1, by omega⟩
    rw [slices_Equal_int_int.l0, if_neg (by omega), List.drop_length, hl, List.drop_length]
    simp
  | succ d ih =>
    intro i k hd hi hk
    obtain ⟨q, rfl⟩ : ∃ q, k = q + 1 := ⟨k - 1, by omega⟩
    have h1 : i < xs.length := by omega
    have h2 : i < ys.length := by omega
    have e := ih (i + 1) q (by omega) (by omega) (by omega)
    rw [List.drop_eq_getElem_cons h1, List.drop_eq_getElem_cons h2]
    rw [slices_Equal_int_int.l0, if_pos (by omega)]
    have hw : wrap64 ((i : Int) + 1) = ((i + 1 : Nat) : Int) := by rw [wrap_s _ (by omega) (by omega)]; omega
    rw [if_pos (by omega), if_pos (by omega), if_pos (by omega), rd_at xs i h1, rd_at ys i h2, hw, e]
    by_cases h : xs[i] = ys[i]
    · rw [if_pos h, h]
      congr 1
      rw [decide_eq_decide]
      exact ⟨fun e => by rw [e], fun e => (List.cons.inj e).2⟩
    · rw [if_neg h]
      congr 1
      exact (decide_eq_false (fun e => h (List.cons.inj e).1)).symm
theorem equal_f (xs ys : List Int) (h64 : xs.length ≤ 1000) : slices_Equal_int_int.f (xs.length + 1) xs ys = some (decide (xs = ys)) := by
  unfold slices_Equal_int_int.f
  by_cases hl : xs.length = ys.length
  · rw [if_pos (by omega)]
    have := equal_l0 xs ys hl h64 xs.length 0 (xs.length + 1) rfl (Nat.zero_le _) (Nat.le_refl _)
    exact this
  · rw [if_neg (by omega), decide_eq_false (fun e => hl (by rw [e]))]
theorem Gr.reads {w : World} {base g h n m : Nat} {xs : List Int} (H : Gr w base g h n m xs) (h64 : xs.length ≤ 1000) : Kd.C (Kd.int .i64) w (some ⟨h, 0, none⟩) xs.length xs := by
  refine Kd.C_of_reads (d := (0 : Int)) (h1 := fun _ => rfl) ⟨rfl, by omega, fun _ => ⟨_, rfl, fun j hj => ?_⟩⟩
  rw [Addr.add_lit, Nat.zero_add]
  refine H.at_ j _ ?_
  rw [List.getD_eq_getElem?_getD, List.getElem?_eq_getElem hj]; rfl
set_option maxHeartbeats 2000000 in
set_option maxRecDepth 100000 in
theorem same_own (base g h b2 g2 h2 n : Nat) (h8 : n ≤ 8) (xs ys : List Int) (w : World) (H : Gr w base g h n n xs) (H2 : Gr w b2 g2 h2 n n ys) (b : Bool) (hb : decide (xs = ys) = b) :
    Calls Try.prog 55 #[.pointer (some ⟨g, 0, none⟩), .pointer (some ⟨g2, 0, none⟩)] w fun e w' => e = .returned (.bool b) ∧ Drawn0 w w' := by
  have hl : xs.length ≤ 1000 := by rw [H.len]; have : n * n ≤ 8 * 8 := Nat.mul_le_mul h8 h8; omega
  have hl2 : ys.length ≤ 1000 := by rw [H2.len]; have : n * n ≤ 8 * 8 := Nat.mul_le_mul h8 h8; omega
  have HE := Aside0.mk (show ∀ W : World, Kd.C (Kd.int .i64) W (some ⟨h, 0, none⟩) xs.length xs → Kd.C (Kd.int .i64) W (some ⟨h2, 0, none⟩) ys.length ys → Calls Try.prog 71 #[.slice (some ⟨h, 0, none⟩) xs.length xs.length, .slice (some ⟨h2, 0, none⟩) ys.length ys.length] W fun e w' => e = .returned (.bool b) ∧ Drawn0 W w' from fun W hx hy => slices_Equal_int_int.calls (xs.length + 1) _ _ xs _ _ ys b W hx (Nat.le_refl _) hy (Nat.le_refl _) (by rw [equal_f xs ys hl, hb]))
  have HX := Aside0.mk (H.reads hl)
  have HY := Aside0.mk (H2.reads hl2)
  have c0 := H.c0
  have c1 := H.c1
  have c2 := H.c2
  have d0 := H2.c0
  have d1 := H2.c1
  have d2 := H2.c2
  have hnn : ((n : Int) == (n : Int)) = true := by simp
  clear H H2 hb
  go_enter Try.func55, Try.ntmps55
  go_wp2_with fail
  go_quiet ((go_at_call 71; (with_reducible refine (HE.out _ (Kd.C_drewN HX.out _) (Kd.C_drewN HY.out _)).mono ?_); rintro e_ w2 ⟨rfl, ⟨nd, rfl⟩⟩; (try first | exact ⟨rfl, _, World.drewN_drewN _ _ _⟩ | exact ⟨rfl, _, Eq.trans (World.drewN_drewN _ _ _) (congrArg (World.drewN _) (Nat.add_assoc _ _ _))⟩)))
  go_wp2_with fail
  go_ret
  exact ⟨rfl, _, rfl⟩
end Go.Proofs.Ytffmhpfdfcpniaa.T
