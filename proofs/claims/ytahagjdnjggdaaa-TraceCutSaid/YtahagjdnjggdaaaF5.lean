/- TraceCut: the walk and the plain law joined. -/
import Derived.Test.YtahagjdnjggdaaaP
import Derived.Test.YtahagjdnjggdaaaF6
namespace Go.Proofs.Ytahagjdnjggdaaa.T
open Go.RowKit Go.Proofs.YtahagjdnjggdaaaW.PrintWords Go.Proofs.YtahagjdnjggdaaaW.PrintLast Go.Proofs.YtahagjdnjggdaaaW.PrintMore
set_option linter.unusedVariables false
theorem sumTo_flat (ws : List S45) (i : Nat) : (((ws.map to51).take i).flatMap enc1).length = sumTo ws i := by
  unfold sumTo
  rw [← List.map_take, List.length_flatMap, List.map_map]
  congr 1
  refine List.map_congr_left fun x _ => ?_
  simp only [Function.comp_apply]
  rw [enc1_len]
  simp only [to51]
theorem sumTo_lt (ws : List S45) (j : Nat) : ∀ i, j < i → i ≤ ws.length → sumTo ws j < sumTo ws i
  | 0, h, _ => by omega
  | i + 1, h, hl => by
    rw [sumTo_succ ws i (by omega)]
    rcases Nat.lt_or_ge j i with hj | hj
    · have := sumTo_lt ws j i hj (by omega); omega
    · obtain rfl : j = i := by omega
      omega
theorem sumTo_find (ws : List S45) (n : Nat) : ∀ m, m ≤ ws.length → n < sumTo ws m → (∃ j, j ≤ ws.length ∧ sumTo ws j = n) ∨ ∃ j, j < m ∧ sumTo ws j < n ∧ n < sumTo ws (j + 1)
  | 0, _, h => by simp [sumTo] at h
  | m + 1, hm, h => by
    rcases Nat.lt_trichotomy n (sumTo ws m) with hl | hl | hl
    · rcases sumTo_find ws n m (by omega) hl with h1 | ⟨j, h1, h2⟩
      · exact .inl h1
      · exact .inr ⟨j, by omega, h2⟩
    · exact .inl ⟨m, by omega, hl.symm⟩
    · exact .inr ⟨m, by omega, hl, h⟩
theorem cut_step (x : S51) (m : Nat) (hr : rightB x = true) (h0 : 0 < m) (hm : m < (enc1 x).length) : decodeF ((enc1 x).take m).length ((enc1 x).take m) = none := by
  have hl : ((enc1 x).take m).length = m := by rw [List.length_take]; omega
  obtain ⟨q, hq⟩ : ∃ q, m = q + 1 := ⟨m - 1, by omega⟩
  have hne : (enc1 x).take m ≠ [] := fun e => by rw [e] at hl; simp at hl; omega
  have hf : ¬ fits1 ((enc1 x).take m) := by
    rintro ⟨h12, hs⟩
    rw [hl] at h12 hs
    have h5 := rightB_len hr
    have hel := enc1_len x
    have hg : ((enc1 x).take m).getD 11 0 = (x.f5.length : Int) % 256 := by
      have e : (enc1 x)[11]? = some ((x.f5.length : Int) % 256) := by
        have := enc_list x []
        rw [List.append_nil] at this
        rw [this]; rfl
      rw [List.getD_eq_getElem?_getD, List.getElem?_take, if_pos (by omega), e]; rfl
    rw [hg] at hs
    omega
  rw [hl, hq] at *
  rw [decodeF, if_neg hne, if_neg (fun h => hf h.1)]
theorem read_cut (m : List S51) (x : S51) (q : Nat) (hr : ∀ y ∈ m, rightB y = true) (hb : ∀ y ∈ m, byteStep y) (hrx : rightB x = true) (hbx : byteStep x) (h0 : 0 < q) (hq : q < (enc1 x).length) (hl : m.length ≤ 1000000) (k : Nat) : trace_Read.f k (m.flatMap enc1 ++ (enc1 x).take q) = some ([], 2) := by
  have hbt : byteOk ((enc1 x).take q) := cut_bytes _ (byteOk_enc x hbx) q
  unfold trace_Read.f
  have h5 := rightB_len hrx
  have hel := enc1_len x
  rw [if_pos ⟨byteOk_append (byteOk_flat m hb) hbt, by rw [List.length_append, List.length_take]; have := flat_len m hr; omega⟩, decode_app _ hbt m hr hb, cut_step x q hrx h0 hq]
  rfl
theorem cut_law (A0 : Option Addr) (c0 : Nat) (l0 : List S45) (at_ : Int) (w : World) (hr0 : Kd.C k45 w A0 l0.length l0) (hc0 : l0.length ≤ c0) (hb0 : ∀ x ∈ l0, byteStep (to51 x)) :
    Calls Try.prog 5 #[.slice A0 l0.length c0, .int .i64 at_] w fun e w' => e = .returned (.bool true) ∧ Below w.heap.size w w' := by
  obtain ⟨ws, hws⟩ : ∃ ws, cuts 6 l0 = ws := ⟨_, rfl⟩
  have hbo : messuagelaw27_both.f 600 l0 6 = some (ws, ws.map to51) := by rw [← hws]; exact both_cuts 600 6 l0 (by omega)
  have hwl : ws.length ≤ 6 := by rw [← hws]; exact cuts_len _ _
  have hby : ∀ x ∈ ws.map to51, byteStep x := by rw [← hws]; exact cuts_byte 6 l0 hb0
  have hil : (ws.map to51).length = ws.length := List.length_map ..
  have ht := traces_true 600 (by omega)
  rcases write_either ws (by omega) with hok | hbad
  · have hw := write_ok _ hok (by omega) 600 (by omega)
    obtain ⟨bs, hbs⟩ : ∃ bs, (ws.map to51).flatMap enc1 = bs := ⟨_, rfl⟩
    rw [hbs] at hw
    have hfl := flat_len _ hok
    rw [hbs] at hfl
    have hall : sumTo ws ws.length = bs.length := by rw [← sumTo_flat, ← hbs, ← hil, List.take_length]
    by_cases hbl : bs.length = 0
    · exact cut_none 600 A0 c0 l0 at_ bs (ws.map to51) [] ws [] [] 0 0 w hr0 hc0 hbo ht hw (by omega)
    · have hwr : IntKind.u64.wrap (bs.length : Int) = bs.length := IntWalk.u64_in _ ⟨by omega, by omega⟩
      have hnn : 0 ≤ IntKind.u64.wrap at_ := by rw [IntKind.wrap_u64]; omega
      have hr1 : 0 ≤ (IntKind.u64.wrap at_).tmod (bs.length : Int) := Int.tmod_nonneg _ hnn
      have hr2 : (IntKind.u64.wrap at_).tmod (bs.length : Int) < bs.length := Int.tmod_lt_of_pos _ (by omega)
      obtain ⟨n, hn⟩ := Int.eq_ofNat_of_zero_le hr1
      have hnb : n < bs.length := by omega
      have hn64 : wrap64 ((IntKind.u64.wrap at_).tmod (bs.length : Int)) = n := by rw [hn]; exact IntWalk.wrap64_in _ ⟨by omega, by omega⟩
      have hsplit : ∀ i, bs.take (sumTo ws i) = ((ws.map to51).take i).flatMap enc1 := by
        intro i
        rw [← hbs, ← sumTo_flat]
        conv => lhs; rw [← List.take_append_drop i (ws.map to51), List.flatMap_append, List.take_append_drop]
        rw [List.take_left]
      rcases sumTo_find ws n ws.length (Nat.le_refl _) (by omega) with ⟨i0, hi0, hs⟩ | ⟨i, hi, hlo, hhi⟩
      · refine cut_at 600 A0 c0 l0 at_ bs _ (ws.map to51) ((ws.map to51).take i0) ws (ws.take i0) _ n i0 w hr0 hc0 hbo ht hw (by omega) hnb hwr hn64 rfl ?_ ?_ ?_ hi0 hs ?_ (by omega) rfl
        · rw [← hs, hsplit i0]
          exact read_back _ (fun x hx => hok x (List.mem_of_mem_take hx)) (fun x hx => hby x (List.mem_of_mem_take hx)) (by rw [List.length_take]; omega) 0
        · have htl : ((ws.map to51).take i0).length ≤ 6 := by rw [List.length_take]; omega
          rw [from_value _ (by omega) 600 (by omega), ← List.map_take, map_back]
        · unfold messuageref27_Same.f; rw [sameL_refl]
        · intro j hj he
          have := sumTo_lt ws j i0 hj hi0
          omega
      · have hx : (ws.map to51)[i]? = some (to51 (ws[i])) := by rw [List.getElem?_map, List.getElem?_eq_getElem hi]; rfl
        obtain ⟨x, hxx⟩ : ∃ x, to51 ws[i] = x := ⟨_, rfl⟩
        rw [hxx] at hx
        have hxm : x ∈ ws.map to51 := List.mem_of_getElem? hx
        have htk : (ws.map to51).take (i + 1) = (ws.map to51).take i ++ [x] := by rw [List.take_add_one, hx]; rfl
        have h2 := hsplit (i + 1)
        rw [htk, List.flatMap_append, List.flatMap_singleton] at h2
        have hl1 := sumTo_flat ws i
        have hl2 := sumTo_flat ws (i + 1)
        rw [htk, List.flatMap_append, List.flatMap_singleton, List.length_append, hl1] at hl2
        have hcut : bs.take n = ((ws.map to51).take i).flatMap enc1 ++ (enc1 x).take (n - sumTo ws i) := by
          have e : bs.take n = (bs.take (sumTo ws (i + 1))).take n := by rw [List.take_take, Nat.min_eq_left (by omega)]
          rw [e, h2, List.take_append, hl1, List.take_of_length_le (by omega)]
        refine cut_in 600 A0 c0 l0 at_ bs _ (ws.map to51) [] ws [] [] n 0 w hr0 hc0 hbo ht hw (by omega) hnb hwr hn64 rfl ?_ rfl (by omega) ?_ (by omega)
        · rw [hcut]
          exact read_cut _ x _ (fun y hy => hok y (List.mem_of_mem_take hy)) (fun y hy => hby y (List.mem_of_mem_take hy)) (hok x hxm) (hby x hxm) (by omega) (by omega) (by rw [List.length_take]; omega) 0
        · intro j hj he
          rcases Nat.lt_or_ge j (i + 1) with h | h
          · rcases Nat.lt_or_ge j i with h' | h'
            · have := sumTo_lt ws j i h' (by omega); omega
            · obtain rfl : j = i := by omega
              omega
          · rcases Nat.lt_or_ge (i + 1) j with h' | h'
            · have := sumTo_lt ws (i + 1) j h' hj; omega
            · obtain rfl : j = i + 1 := by omega
              omega
  · exact cut_bad 600 A0 c0 l0 at_ [] (ws.map to51) [] ws [] [] 0 0 w hr0 hc0 hbo ht hbad
end Go.Proofs.Ytahagjdnjggdaaa.T
