/- (*Space).Runs, and the reference's DocGive. -/
import Derived.Test.YtpnmbdhjmlidaaaO
namespace Go.Proofs.Ytpnmbdhjmlidaaa.T
open Go.RowKit Go.Proofs.YtpnmbdhjmlidaaaW.PrintWords Go.Proofs.YtpnmbdhjmlidaaaW.PrintLast Go.Proofs.YtpnmbdhjmlidaaaW.PrintMore
set_option linter.unusedVariables false
set_option linter.unusedSimpArgs false
theorem one_new2 (w : World) (o : Obj) (u : Value) (t : TypeId) : ∀ j x, [u][j]? = some x → ((w.alloc o).alloc (.cells #[u] t)).cell? ((⟨w.heap.size + 1, 0, none⟩ : Addr).add j) = some x := by
  have h := one_new (w.alloc o) u t
  rw [World.size_alloc] at h
  exact h
def firsts (l : List (Int × Int)) : List Value := l.map (fun r => Value.int .i64 r.1)
theorem firsts_take (l : List (Int × Int)) (i : Nat) (h : i < l.length) : firsts (l.take (i + 1)) = firsts (l.take i) ++ [.int .i64 l[i].1] := by
  unfold firsts
  rw [List.take_add_one, List.getElem?_eq_getElem h, List.map_append]; rfl
def RelR (w : World) (base g : Nat) (A : Option Addr) (c : Nat) (l : List (Int × Int)) (v3 v13 : Value) (wr : World) : Prop :=
  ∃ i : Nat, v13 = .int .i64 i ∧ i ≤ l.length ∧ wr.ownsRow w.heap.size 3 1 v3 i (firsts (l.take i)) ∧ Below w.heap.size w wr
set_option maxHeartbeats 4000000 in
set_option maxRecDepth 100000 in
theorem runs_own (base g : Nat) (A : Option Addr) (c : Nat) (l : List (Int × Int)) (w : World) (h : Sp w base g A c l) :
    Calls Try.prog 13 #[.pointer (some ⟨g, 0, none⟩)] w fun e w' => ∃ v, e = .returned v ∧ w'.ownsRow w.heap.size 3 1 v l.length (firsts l) ∧ Below w.heap.size w w' := by
  have hlen := h.len
  have c0 := h.at0
  have H0 := Aside0.mk (show RelR w base g A c l (.slice none 0 0) (.int .i64 0) w from ⟨0, rfl, Nat.zero_le _, World.ownsRow_nil _ _ _ _, Below.refl _ _⟩)
  have HS := Aside0.mk h
  clear h
  go_enter Try.func13, Try.ntmps13
  go_wp2_with fail
  go_loopw [3, 5, 13] (fun v3 v5 v13 wr => RelR w base g A c l v3 v13 wr) (fun _ _ v13 _ => l.length - (intOf v13).toNat)
  case atStart => exact H0.out
  case round =>
    clear H0 c0
    obtain ⟨i, rfl, hi, hrow, hB⟩ := hrel
    have HROW := Aside0.mk hrow
    have HB := Aside0.mk hB
    clear hrow hB
    by_cases hlt : i < l.length
    · have hltb : decide ((i : Int) < (l.length : Int)) = true := decide_eq_true (by omega)
      have hltI : (i : Int) < (l.length : Int) := by omega
      obtain ⟨gr, rfl, d0, d1⟩ := (HS.out.below HB.out).row.at_ i hlt
      have HFT := Aside0.mk (firsts_take l i hlt)
      obtain ⟨⟨a, m⟩, hr⟩ : ∃ r, l[i] = r := ⟨_, rfl⟩
      rw [hr] at d0 d1 HFT
      simp only at d0 d1
      clear hr
      go_wp2_with ((with_reducible refine gate_builtin (b := .append) (xs := #[.tmp 17, .tmp 20]) rfl ?_); at_builtin; obtain ⟨i0, hi0_, hz0, hzs, hzb⟩ := info_parts info_int; refine wpList_append_own_at (w := _) rfl (.tmp 17) (.tmp 20) 22 rfl w.heap.size 3 i0 _ 1 8 Try.underlying22 hi0_ hz0 hzs hzb rfl (by decide) _ i _ rfl (row_below HROW.out (below_alloc (below_alloc (Below.refl _ _) _) _)) ⟨_, 0, none⟩ 1 1 [.int .i64 a] rfl rfl (one_new2 _ _ _ _) (by simp [Value.oneCell']) (by unfold maxLen; omega) (by omega) (by have := HB.out.size; simp; omega) ?_; intro v3 w5 ho hgr hnil hat; have HO := Aside0.mk ho; have HB2 := Aside0.mk (below_grownB (below_alloc (below_alloc HB.out _) _) (by have := HB.out.size; simp; omega) hgr (fun k hk => (World.ownsRow.lt HROW.out k hk).1)); clear hi0_ hz0 hzs hzb hnil ho hgr hat)
      go_roundw
      case rel => exact ⟨i + 1, by go_num, by omega, by rw [HFT.out]; exact HO.out, HB2.out⟩
      case measure => simp [intOf]; omega
    · have hltb : decide ((i : Int) < (l.length : Int)) = false := decide_eq_false (by omega)
      have hltI : ¬ ((i : Int) < (l.length : Int)) := by omega
      obtain rfl : i = l.length := by omega
      have he : l.take l.length = l := List.take_length
      rw [he] at HROW
      go_wp2_with fail
      go_ret
      exact ⟨_, rfl, HROW.out, HB.out⟩
end Go.Proofs.Ytpnmbdhjmlidaaa.T
