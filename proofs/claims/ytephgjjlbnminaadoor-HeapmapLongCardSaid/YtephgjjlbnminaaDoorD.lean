/- heapmap.count and heapmap.Unpack: what they come to. -/
import Derived.Test.YtephgjjlbnminaaDoorC
namespace Go.Proofs.YtephgjjlbnminaaDoor.T
open Go.RowKit Go.Proofs.YtephgjjlbnminaaDoorW.PrintWords Go.Proofs.YtephgjjlbnminaaDoorW.PrintLast Go.Proofs.YtephgjjlbnminaaDoorW.PrintMore Go.Proofs.YtephgjjlbnminaaDoor.PH
set_option linter.unusedVariables false
set_option linter.unusedSimpArgs false
def cntR (i : Nat) (l : List UInt8) (n : Nat) : Int × Int × Bool :=
  match cn l n with
  | none => (0, 0, false)
  | some (m, r) => (if i + (l.length - r.length) = 0 then 1 else (m : Int), ((i + (l.length - r.length) : Nat) : Int), true)
theorem dg_le (c : UInt8) (h : dg c = true) : 48 ≤ c.toNat ∧ c.toNat ≤ 57 := by
  unfold dg at h
  simpa using h
theorem wrap_small (x : Int) (h0 : 0 ≤ x) (h1 : x ≤ 10000000) : wrap64 x = x := IntWalk.wrap64_in _ ⟨by omega, by omega⟩
theorem count_l0 (s : ByteArray) (hs : s.size ≤ 100000) : ∀ (l : List UInt8) (i n k : Nat), s.data.toList.drop i = l → i ≤ s.size → n ≤ 65536 → 2 * l.length + 2 ≤ k →
    heapmap_count.l0 k s (n : Int) (i : Int) = some (cntR i l n)
  | [], i, n, k, hd, hi, hn, hk => by
    obtain ⟨q, rfl⟩ : ∃ q, k = q + 1 + 1 := ⟨k - 2, by simp at hk; omega⟩
    have hi2 : i = s.size := by
      have := congrArg List.length hd
      rw [List.length_drop, ← Lib.size_eq] at this
      simp at this; omega
    simp only [heapmap_count.l0, heapmap_count.j1]
    rw [if_neg (by omega), if_neg (by simp)]
    unfold cntR
    simp only [cn, List.length_nil, Nat.sub_self, Nat.add_zero]
    by_cases h0 : i = 0
    · rw [if_pos (by omega), if_pos h0]
    · rw [if_neg (by omega), if_neg h0]
  | c :: l, i, n, k, hd, hi, hn, hk => by
    have hk2 : 2 * l.length + 4 ≤ k := by simp at hk; omega
    obtain ⟨q, rfl⟩ : ∃ q, k = q + 1 + 1 := ⟨k - 2, by omega⟩
    have hlen : i + (l.length + 1) = s.size := by
      have := congrArg List.length hd
      rw [List.length_drop, ← Lib.size_eq] at this
      simp at this; omega
    have hc : s.data.toList[i]? = some c := by
      have : (s.data.toList.drop i)[0]? = some c := by rw [hd]; rfl
      rw [List.getElem?_drop] at this; simpa using this
    have hb := bt_of hc
    have hd2 : s.data.toList.drop (i + 1) = l := by
      rw [← List.drop_drop, hd]; rfl
    simp only [heapmap_count.l0]
    rw [if_pos (by omega), if_pos (by omega), hb, digit_dg]
    simp only [Option.bind_some, heapmap_count.j1]
    rw [hb]
    by_cases hg : dg c = true
    · rw [if_pos hg, if_pos (by omega), if_pos (by omega)]
      obtain ⟨h48, h57⟩ := dg_le c hg
      have hm : ((c.toNat : Int) - 48) % 256 = ((c.toNat - 48 : Nat) : Int) := by omega
      rw [hm, wrap_small (10 * (n : Int)) (by omega) (by omega), wrap_small _ (by omega) (by omega), wrap_small ((i : Int) + 1) (by omega) (by omega)]
      have hv : (10 * (n : Int) + ((c.toNat - 48 : Nat) : Int)) = ((10 * n + (c.toNat - 48) : Nat) : Int) := by omega
      rw [hv]
      unfold cntR
      simp only [cn]
      rw [if_pos hg]
      by_cases ho : 65536 < 10 * n + (c.toNat - 48)
      · rw [if_pos (by omega), if_pos ho]
      · rw [if_neg (by omega), if_neg ho]
        have ih := count_l0 s hs l (i + 1) (10 * n + (c.toNat - 48)) q hd2 (by omega) (by omega) (by omega)
        rw [show (i : Int) + 1 = ((i + 1 : Nat) : Int) from by omega, ih]
        unfold cntR
        cases hcn : cn l (10 * n + (c.toNat - 48)) with
        | none => rfl
        | some mr =>
          obtain ⟨m, r⟩ := mr
          obtain ⟨kk, _, hkl⟩ := cn_len l _ m r hcn
          simp only [List.length_cons]
          have e : i + 1 + (l.length - r.length) = i + (l.length + 1 - r.length) := by omega
          rw [e]
    · rw [if_neg hg]
      unfold cntR
      simp only [cn]
      rw [if_neg hg]
      simp only [List.length_cons, Nat.sub_self, Nat.add_zero]
      by_cases h0 : i = 0
      · rw [if_pos (by omega), if_pos h0]
      · rw [if_neg (by omega), if_neg h0]
theorem count_f (s : ByteArray) (hs : s.size ≤ 100000) : heapmap_count.f (2 * s.size + 2) s = some (cntR 0 s.data.toList 0) := by
  have := count_l0 s hs s.data.toList 0 0 (2 * s.size + 2) rfl (Nat.zero_le _) (by omega) (by rw [← Lib.size_eq]; exact Nat.le_refl _)
  exact this
theorem count_own (s : ByteArray) (hs : s.size ≤ 100000) (n k : Int) (ok : Bool) (h : cntR 0 s.data.toList 0 = (n, k, ok)) (w : World) :
    Calls Tryd.prog 18 #[.string s] w fun e w' => e = .returned (.tuple #[.int .i64 n, .int .i64 k, .bool ok]) ∧ Drawn0 w w' :=
  heapmap_count.calls (2 * s.size + 2) s n k ok w (by rw [count_f s hs, h])
end Go.Proofs.YtephgjjlbnminaaDoor.T
