/- What the reference's functions come to: the same lists. -/
import Derived.Test.YtephgjjlbnminaaDoorD
namespace Go.Proofs.YtephgjjlbnminaaDoor.T
open Go.RowKit Go.Proofs.YtephgjjlbnminaaDoorW.PrintWords Go.Proofs.YtephgjjlbnminaaDoorW.PrintLast Go.Proofs.YtephgjjlbnminaaDoorW.PrintMore Go.Proofs.YtephgjjlbnminaaDoor.PH
set_option linter.unusedVariables false
set_option linter.unusedSimpArgs false
theorem app_data (a b : ByteArray) : (a ++ b).data.toList = a.data.toList ++ b.data.toList := by simp
theorem app_size (a b : ByteArray) : (a ++ b).size = a.size + b.size := by simp
/-- Bytes, made of a list. -/
def ba (l : List UInt8) : ByteArray := ⟨l.toArray⟩
theorem ba_data (l : List UInt8) : (ba l).data.toList = l := by simp [ba]
theorem ba_size (l : List UInt8) : (ba l).size = l.length := by rw [Lib.size_eq, ba_data]
theorem ba_of (s : ByteArray) : ba s.data.toList = s := bytes_ext (ba_data _)
theorem ba_app (a b : List UInt8) : ba a ++ ba b = ba (a ++ b) := bytes_ext (by rw [app_data, ba_data, ba_data, ba_data])
theorem digit_one (x : Nat) (h : x ≤ 10000000) : strOfNums ([(wrap64 (48 + (Int.tmod (x : Int) 10))) % 256] : List Int) = ba [UInt8.ofNat (48 + x % 10)] := by
  have e1 : Int.tmod (x : Int) 10 = ((x % 10 : Nat) : Int) := by rw [Int.tmod_eq_emod_of_nonneg (by omega)]; omega
  rw [e1, wrap_small _ (by omega) (by omega)]
  refine bytes_ext ?_
  rw [strOfNums_data, ba_data]
  simp only [List.map_cons, List.map_nil]
  congr 2
  omega
theorem tdiv_ten (x : Nat) (h : x ≤ 10000000) : wrap64 (Int.tdiv (x : Int) 10) = ((x / 10 : Nat) : Int) := by
  have e1 : Int.tdiv (x : Int) 10 = ((x / 10 : Nat) : Int) := by rw [Int.tdiv_eq_ediv_of_nonneg (by omega)]; omega
  rw [e1, wrap_small _ (by omega) (by omega)]
theorem digits_l0 : ∀ (d u k : Nat) (l : List UInt8), u ≤ 10 ^ d → u ≤ 10000000 → l.length + d ≤ 1000 → d + 2 ≤ k → 1 ≤ u → messuageref22_Digits.l0 k (u : Int) (ba l) = some (ba (Lib.decDigits u ++ l)) := by
  intro d
  induction d with
  | zero =>
    intro u k l hu h1 hl hk h0
    have hu1 : u = 1 := by simp at hu; omega
    subst hu1
    obtain ⟨q, rfl⟩ : ∃ q, k = q + 1 + 1 := ⟨k - 2, by omega⟩
    simp only [messuageref22_Digits.l0]
    rw [if_pos (by omega)]
    simp only [Option.bind_some]
    rw [digit_one 1 (by omega), ba_app, if_pos (by rw [ba_size, ba_size]; simp; omega), tdiv_ten 1 (by omega)]
    rw [if_neg (by omega), if_neg (by rw [toList_data, ba_data]; simp), Lib.decDigits_one (by omega)]
  | succ d ih =>
    intro u k l hu h1 hl hk h0
    obtain ⟨q, rfl⟩ : ∃ q, k = q + 1 := ⟨k - 1, by omega⟩
    by_cases h10 : u < 10
    · obtain ⟨q, rfl⟩ : ∃ p, q = p + 1 := ⟨q - 1, by omega⟩
      simp only [messuageref22_Digits.l0]
      rw [if_pos (by omega)]
      simp only [Option.bind_some]
      rw [digit_one u (by omega), ba_app, if_pos (by rw [ba_size, ba_size]; simp; omega), tdiv_ten u (by omega)]
      rw [if_neg (by omega), if_neg (by rw [toList_data, ba_data]; simp), Lib.decDigits_one h10, show u % 10 = u by omega]
    · rw [messuageref22_Digits.l0]
      rw [if_pos (by omega)]
      simp only [Option.bind_some]
      rw [digit_one u (by omega), ba_app, if_pos (by rw [ba_size, ba_size]; simp; omega), tdiv_ten u (by omega)]
      rw [ih (u / 10) q _ (by rw [Nat.pow_succ] at hu; omega) (by omega) (by simp; omega) (by omega) (by omega)]
      conv => rhs; rw [Lib.decDigits, dif_neg h10, List.append_assoc]
theorem digits_f (u k : Nat) (h0 : 1 ≤ u) (h1 : u ≤ 1000000) (hk : 8 ≤ k) : messuageref22_Digits.f k (u : Int) = some (ba (Lib.decDigits u)) := by
  have := digits_l0 6 u k [] (by omega) (by omega) (by simp) (by omega) h0
  rw [List.append_nil] at this
  exact this
theorem rdigit_dg (c : UInt8) : messuageref22_digit.f (c.toNat : Int) = some (dg c) := digit_dg c
theorem drop_facts {s : ByteArray} {i : Nat} {c : UInt8} {l : List UInt8} (hd : s.data.toList.drop i = c :: l) : i + (l.length + 1) = s.size ∧ bt s (i : Int) = (c.toNat : Int) ∧ (∀ j, j < l.length → ∀ d, l[j]? = some d → bt s ((i + (1 + j) : Nat) : Int) = (d.toNat : Int)) ∧ (∀ j, s.data.toList.drop (i + (1 + j)) = l.drop j) ∧ s.extract i (i + 1) = ba [c] := by
  have hlen : i + (l.length + 1) = s.size := by
    have := congrArg List.length hd
    rw [List.length_drop, ← Lib.size_eq] at this
    simp at this; omega
  have at_ : ∀ j, s.data.toList[i + j]? = (c :: l)[j]? := by
    intro j
    rw [← hd, List.getElem?_drop]
  refine ⟨hlen, bt_of (by have := at_ 0; simpa using this), ?_, ?_, ?_⟩
  · intro j hj d hjd
    refine bt_of ?_
    rw [at_ (1 + j), Nat.add_comm 1 j, List.getElem?_cons_succ]
    exact hjd
  · intro j
    rw [← List.drop_drop, hd, Nat.add_comm 1 j, List.drop_succ_cons]
  · refine bytes_ext ?_
    rw [Lib.extract_data, hd, ba_data, show i + 1 - i = 1 by omega]; rfl
theorem rpack_l1 (s : ByteArray) (hs : s.size ≤ 100000) (c : UInt8) (l : List UInt8) (i : Nat) (hd : s.data.toList.drop i = c :: l) (out : List UInt8) (ho : out.length ≤ 1000000) :
    ∀ (g j k : Nat), rl c l - j = g → j ≤ rl c l → g + 9 ≤ k → ∃ k', k ≤ k' + g + 1 ∧ messuageref22_Pack.l1 k s (ba out) (i : Int) ((1 + j : Nat) : Int) = messuageref22_Pack.l0 k' s (ba (out ++ ((if rl c l = 0 then [] else Lib.decDigits (rl c l + 1)) ++ [c]))) ((i + (1 + rl c l) : Nat) : Int) := by
  obtain ⟨hlen, hb, hbj, hdj, hx⟩ := drop_facts hd
  have hrl := rl_le c l
  have hx2 : s.extract (i : Int).toNat ((wrap64 ((i : Int) + 1)) : Int).toNat = ba [c] := by
    rw [wrap_small _ (by omega) (by omega), show ((i : Int) + 1).toNat = i + 1 by omega, Int.toNat_natCast]; exact hx
  intro g
  induction g with
  | zero =>
    intro j k hg hj hk
    obtain rfl : j = rl c l := by omega
    obtain ⟨q, rfl⟩ : ∃ q, k = q + 1 := ⟨k - 1, by omega⟩
    refine ⟨q, by omega, ?_⟩
    have e1 : (i : Int) + ((1 + rl c l : Nat) : Int) = ((i + (1 + rl c l) : Nat) : Int) := by omega
    have e2 : wrap64 ((i : Int) + 1) = (i : Int) + 1 := wrap_small _ (by omega) (by omega)
    have fin : (if ((1 + rl c l : Nat) : Int) > 1 then ((messuageref22_Digits.f q ((1 + rl c l : Nat) : Int)).bind fun t129 => (if (ba out).size + t129.size ≤ 9223372036854775807 then (if (0 : Int) ≤ (i : Int) then (if (i : Int) ≤ (i : Int) + 1 then (if (i : Int) + 1 ≤ (s.size : Int) then (if (ba out ++ t129).size + (ba [c]).size ≤ 9223372036854775807 then (messuageref22_Pack.l0 q s ((ba out ++ t129) ++ (ba [c])) ((i + (1 + rl c l) : Nat) : Int)) else (none)) else (none)) else (none)) else (none)) else (none))) else (if (0 : Int) ≤ (i : Int) then (if (i : Int) ≤ (i : Int) + 1 then (if (i : Int) + 1 ≤ (s.size : Int) then (if (ba out).size + (ba [c]).size ≤ 9223372036854775807 then (messuageref22_Pack.l0 q s (ba out ++ (ba [c])) ((i + (1 + rl c l) : Nat) : Int)) else (none)) else (none)) else (none)) else (none))) = messuageref22_Pack.l0 q s (ba (out ++ ((if rl c l = 0 then [] else Lib.decDigits (rl c l + 1)) ++ [c]))) ((i + (1 + rl c l) : Nat) : Int) := by
      by_cases h0 : rl c l = 0
      · rw [if_neg (by omega), if_pos h0, if_pos (by omega), if_pos (by omega), if_pos (by omega), if_pos (by rw [ba_size, ba_size]; simp; omega), ba_app]
        rfl
      · have hdl := dec_le (rl c l + 1) (rl c l + 1) (Nat.le_refl _) (by omega)
        rw [if_pos (by omega), if_neg h0, show 1 + rl c l = rl c l + 1 from Nat.add_comm _ _, digits_f (rl c l + 1) q (by omega) (by omega) (by omega)]
        simp only [Option.bind_some]
        rw [if_pos (by rw [ba_size, ba_size]; omega), if_pos (by omega), if_pos (by omega), if_pos (by omega), ba_app, if_pos (by rw [ba_size, ba_size, List.length_append]; simp; omega), ba_app, List.append_assoc]
    simp only [messuageref22_Pack.l1]
    rw [e1, wrap_small ((i + (1 + rl c l) : Nat) : Int) (by omega) (by omega), hx2, e2]
    by_cases hlt : rl c l < l.length
    · obtain ⟨d, h1, h2⟩ := rl_stop c l hlt
      have hne : ¬ ((d.toNat : Int) = (c.toNat : Int)) := by
        have : d.toNat ≠ c.toNat := fun e => h2 (UInt8.toNat_inj.1 e)
        omega
      rw [if_pos (by omega), if_pos (by omega), if_pos (by omega), if_pos (by omega), hbj _ hlt d h1, hb, if_neg hne]
      have h00 : (0 : Int) ≤ (i : Int) := by omega
      simp only [if_pos h00] at fin
      exact fin
    · rw [if_neg (by omega)]
      exact fin
  | succ g ih =>
    intro j k hg hj hk
    obtain ⟨q, rfl⟩ : ∃ q, k = q + 1 := ⟨k - 1, by omega⟩
    obtain ⟨k', hk', e⟩ := ih (j + 1) q (by omega) (by omega) (by omega)
    refine ⟨k', by omega, ?_⟩
    have hjl : j < l.length := by omega
    have e1 : (i : Int) + ((1 + j : Nat) : Int) = ((i + (1 + j) : Nat) : Int) := by omega
    have hdc := rl_get c l j (by omega)
    simp only [messuageref22_Pack.l1]
    rw [e1, wrap_small ((i + (1 + j) : Nat) : Int) (by omega) (by omega)]
    rw [if_pos (by omega), if_pos (by omega), if_pos (by omega), if_pos (by omega), hbj j hjl c hdc, hb, if_pos rfl]
    rw [wrap_small _ (by omega) (by omega), show ((1 + j : Nat) : Int) + 1 = ((1 + (j + 1) : Nat) : Int) by omega]
    exact e
theorem rpack_l0 (s : ByteArray) (hs : s.size ≤ 100000) : ∀ (n : Nat) (l : List UInt8) (i k : Nat) (out : List UInt8), l.length ≤ n → s.data.toList.drop i = l → i ≤ s.size → out.length ≤ 2 * i → 2 * l.length + 20 ≤ k →
    messuageref22_Pack.l0 k s (ba out) (i : Int) = some (match pk l with | none => ba [] | some p => ba (out ++ p)) := by
  intro n
  induction n with
  | zero =>
    intro l i k out hl hd hi ho hk
    obtain rfl : l = [] := List.eq_nil_of_length_eq_zero (by omega)
    obtain ⟨q, rfl⟩ : ∃ q, k = q + 1 := ⟨k - 1, by omega⟩
    have hi2 : i = s.size := by
      have := congrArg List.length hd
      rw [List.length_drop, ← Lib.size_eq] at this
      simp at this; omega
    simp only [messuageref22_Pack.l0]
    rw [if_neg (by omega), pk_nil]
    simp
  | succ n ih =>
    intro l i k out hl hd hi ho hk
    cases l with
    | nil =>
      obtain ⟨q, rfl⟩ : ∃ q, k = q + 1 := ⟨k - 1, by omega⟩
      have hi2 : i = s.size := by
        have := congrArg List.length hd
        rw [List.length_drop, ← Lib.size_eq] at this
        simp at this; omega
      simp only [messuageref22_Pack.l0]
      rw [if_neg (by omega), pk_nil]
      simp
    | cons c l =>
      obtain ⟨hlen, hb, hbj, hdj, hx⟩ := drop_facts hd
      have hrl := rl_le c l
      obtain ⟨q, rfl⟩ : ∃ q, k = q + 1 := ⟨k - 1, by omega⟩
      simp only [List.length_cons] at hl hk
      rw [messuageref22_Pack.l0, if_pos (by omega), if_pos (by omega), hb, rdigit_dg, pk_cons]
      simp only [Option.bind_some]
      by_cases hg : dg c = true
      · rw [if_pos hg, if_pos hg]; rfl
      · rw [if_neg hg, if_neg hg]
        obtain ⟨k', hk', e⟩ := rpack_l1 s hs c l i hd out (by omega) (rl c l) 0 q (by omega) (by omega) (by omega)
        have e' := e
        simp only [Nat.add_zero] at e'
        have hdd := dec_le (rl c l + 1) (rl c l + 1) (Nat.le_refl _) (by omega)
        rw [show (1 : Int) = ((1 : Nat) : Int) from rfl, e', ih (l.drop (rl c l)) (i + (1 + rl c l)) k' _ (by rw [List.length_drop]; omega) (hdj _) (by omega) (by
          simp only [List.length_append, List.length_cons, List.length_nil]
          split
          · simp only [List.length_nil]; omega
          · omega) (by rw [List.length_drop]; omega)]
        cases hp : pk (l.drop (rl c l)) with
        | none => rfl
        | some p =>
          simp only [Option.map_some]
          congr 2
          simp
theorem rpack_f (s : ByteArray) (hs : s.size ≤ 100000) (k : Nat) (hk : 2 * s.size + 20 ≤ k) : messuageref22_Pack.f k s = some (ba (pack s.data.toList)) := by
  have := rpack_l0 s hs s.size s.data.toList 0 k [] (by rw [← Lib.size_eq]; exact Nat.le_refl _) rfl (Nat.zero_le _) (by simp) (by rw [← Lib.size_eq]; exact hk)
  unfold messuageref22_Pack.f
  refine this.trans ?_
  unfold pack
  cases pk s.data.toList with
  | none => rfl
  | some p => simp
theorem str_rep (n : Nat) (c : UInt8) : strOfNums (List.replicate n (c.toNat : Int)) = ba (List.replicate n c) := by
  refine bytes_ext ?_
  rw [strOfNums_data, ba_data, List.map_replicate]
  congr 1
  simp
theorem rep_set (b : Int) (j m : Nat) : (List.replicate j b ++ List.replicate (m + 1) 0).set j b = List.replicate (j + 1) b ++ List.replicate m 0 := by
  rw [List.set_append_right _ _ (by simp)]
  rw [List.length_replicate, Nat.sub_self, List.replicate_succ, List.set_cons_zero, List.replicate_succ']
  simp
theorem runp_l1 (s : ByteArray) (hs : s.size ≤ 100000) (c : UInt8) (i n : Nat) (out : List UInt8) (hb : bt s (i : Int) = (c.toNat : Int)) (hi : i < s.size) (hn : n ≤ 65536) (ho : out.length ≤ 65536) :
    ∀ (g j k : Nat), n - j = g → j ≤ n → g + 1 ≤ k → ∃ k', k ≤ k' + g + 1 ∧ messuageref22_Unpack.l1 k s (ba out) (n : Int) (i : Int) (List.replicate j (c.toNat : Int) ++ List.replicate (n - j) 0) (j : Int) = messuageref22_Unpack.l0 k' s (ba (out ++ List.replicate n c)) 0 false ((i + 1 : Nat) : Int) := by
  intro g
  induction g with
  | zero =>
    intro j k hg hj hk
    obtain rfl : j = n := by omega
    obtain ⟨q, rfl⟩ : ∃ q, k = q + 1 := ⟨k - 1, by omega⟩
    refine ⟨q, by omega, ?_⟩
    simp only [messuageref22_Unpack.l1]
    rw [if_neg (by omega), Nat.sub_self, List.replicate_zero, List.append_nil, str_rep, if_pos (by rw [ba_size, ba_size, List.length_replicate]; omega), ba_app, wrap_small _ (by omega) (by omega)]
    rfl
  | succ g ih =>
    intro j k hg hj hk
    obtain ⟨q, rfl⟩ : ∃ q, k = q + 1 := ⟨k - 1, by omega⟩
    obtain ⟨k', hk', e⟩ := ih (j + 1) q (by omega) (by omega) (by omega)
    refine ⟨k', by omega, ?_⟩
    simp only [messuageref22_Unpack.l1]
    rw [if_pos (by omega), if_pos (by omega), if_pos (by omega), if_pos (by omega), if_pos (by simp; omega), hb]
    obtain ⟨m, hm⟩ : ∃ m, n - j = m + 1 := ⟨n - j - 1, by omega⟩
    rw [hm, Int.toNat_natCast, rep_set, wrap_small _ (by omega) (by omega)]
    rw [show n - (j + 1) = m by omega] at e
    exact e
theorem runp_l0 (s : ByteArray) (hs : s.size ≤ 100000) : ∀ (l : List UInt8) (i n : Nat) (has : Bool) (out : List UInt8) (k : Nat), s.data.toList.drop i = l → i ≤ s.size → n ≤ 65536 → out.length ≤ 65536 → 65540 * l.length + 200000 ≤ k →
    messuageref22_Unpack.l0 k s (ba out) (n : Int) has (i : Int) = some (match dc false l n has out.length with | none => (ba [], false) | some o => if pack (out ++ o) = s.data.toList then (ba (out ++ o), true) else (ba [], false))
  | [], i, n, has, out, k, hd, hi, hn, ho, hk => by
    obtain ⟨q, rfl⟩ : ∃ q, k = q + 1 := ⟨k - 1, by omega⟩
    have hi2 : i = s.size := by
      have := congrArg List.length hd
      rw [List.length_drop, ← Lib.size_eq] at this
      simp at this; omega
    rw [messuageref22_Unpack.l0, if_neg (by omega), rpack_f (ba out) (by rw [ba_size]; omega) q (by rw [ba_size]; omega)]
    simp only [Option.bind_some, dc, Bool.false_and, Bool.false_eq_true, if_false, List.append_nil]
    rw [toList_data, toList_data, ba_data, ba_data]
    by_cases h : pack out = s.data.toList
    · rw [if_pos h, if_pos h]
    · rw [if_neg h, if_neg h]; rfl
  | c :: l, i, n, has, out, k, hd, hi, hn, ho, hk => by
    obtain ⟨hlen, hb, hbj, hdj, hx⟩ := drop_facts hd
    simp only [List.length_cons] at hk
    obtain ⟨q, rfl⟩ : ∃ q, k = q + 1 := ⟨k - 1, by omega⟩
    have hd2 := hdj 0
    rw [List.drop_zero, Nat.add_zero] at hd2
    rw [messuageref22_Unpack.l0, if_pos (by omega), if_pos (by omega), hb, rdigit_dg]
    simp only [Option.bind_some, dc]
    by_cases hg : dg c = true
    · rw [if_pos hg, if_pos hg]
      obtain ⟨h48, h57⟩ := dg_le c hg
      have hm : ((c.toNat : Int) - 48) % 256 = ((c.toNat - 48 : Nat) : Int) := by omega
      rw [hm, wrap_small (10 * (n : Int)) (by omega) (by omega), wrap_small _ (by omega) (by omega), wrap_small ((i : Int) + 1) (by omega) (by omega)]
      have hv : (10 * (n : Int) + ((c.toNat - 48 : Nat) : Int)) = ((10 * n + (c.toNat - 48) : Nat) : Int) := by omega
      rw [hv]
      by_cases hov : 65536 < 10 * n + (c.toNat - 48)
      · rw [if_pos (by omega), if_pos hov]; rfl
      · rw [if_neg (by omega), if_neg hov]
        exact runp_l0 s hs l (i + 1) _ true out q hd2 (by omega) (by omega) ho (by omega)
    · rw [if_neg hg, if_neg hg]
      obtain ⟨m, hm⟩ : ∃ m, mul has n = m := ⟨_, rfl⟩
      have hmle : m ≤ 65536 := by rw [← hm]; unfold mul; split <;> omega
      have hj : ∀ q, (if has = true then (messuageref22_Unpack.j1 q s (ba out) (n : Int) (i : Int)) else (messuageref22_Unpack.j1 q s (ba out) 1 (i : Int))) = messuageref22_Unpack.j1 q s (ba out) (m : Int) (i : Int) := by
        intro q
        rw [← hm]; unfold mul
        cases has <;> simp
      rw [hj, hm]
      obtain ⟨q, rfl⟩ : ∃ p, q = p + 1 := ⟨q - 1, by omega⟩
      simp only [messuageref22_Unpack.j1]
      rw [ba_size, wrap_small _ (by omega) (by omega)]
      by_cases hov : 65536 < out.length + m
      · rw [if_pos (by omega), if_pos hov]; rfl
      · rw [if_neg (by omega), if_neg hov, if_pos (by omega), if_pos (by omega)]
        obtain ⟨k', hk', e⟩ := runp_l1 s hs c i m out hb (by omega) (by omega) (by omega) m 0 q (by omega) (by omega) (by omega)
        rw [List.replicate_zero, List.nil_append, Nat.sub_zero] at e
        rw [Int.toNat_natCast]
        refine e.trans ?_
        have ih := runp_l0 s hs l (i + 1) 0 false (out ++ List.replicate m c) k' hd2 (by omega) (by omega) (by rw [List.length_append, List.length_replicate]; omega) (by omega)
        refine ih.trans ?_
        rw [List.length_append, List.length_replicate]
        cases dc false l 0 false (out.length + m) with
        | none => rfl
        | some o => simp only [Option.map_some, List.append_assoc]
theorem runp_f (s : ByteArray) (hs : s.size ≤ 100000) : messuageref22_Unpack.f (65540 * s.size + 200000) s = some (ba (up s.data.toList).1, (up s.data.toList).2) := by
  have := runp_l0 s hs s.data.toList 0 0 false [] (65540 * s.size + 200000) rfl (Nat.zero_le _) (by omega) (by simp) (by rw [← Lib.size_eq]; exact Nat.le_refl _)
  unfold messuageref22_Unpack.f
  refine this.trans ?_
  unfold up
  rw [unp_loose]
  simp only [List.length_nil, List.nil_append]
  cases dc false s.data.toList 0 false 0 with
  | none => rfl
  | some o =>
    simp only [Option.bind_some]
    by_cases h : pack o = s.data.toList
    · rw [if_pos h, if_pos h]
    · rw [if_neg h, if_neg h]
theorem ref_pack (s p : ByteArray) (w : World) (hs : s.size ≤ 100000) (hp : pack s.data.toList = p.data.toList) :
    Calls Tryd.prog 8 #[.string s] w fun e w' => e = .returned (.string p) ∧ Below w.heap.size w w' :=
  messuageref22_Pack.calls (2 * s.size + 20) s p w (by rw [rpack_f s hs _ (Nat.le_refl _), hp, ba_of])
theorem ref_unpack (s p : ByteArray) (ok : Bool) (w : World) (hs : s.size ≤ 100000) (hp : (up s.data.toList).1 = p.data.toList) (hok : (up s.data.toList).2 = ok) :
    Calls Tryd.prog 10 #[.string s] w fun e w' => e = .returned (.tuple #[.string p, .bool ok]) ∧ Below w.heap.size w w' :=
  messuageref22_Unpack.calls (65540 * s.size + 200000) s p ok w (by rw [runp_f s hs, hp, ba_of, hok])
theorem ref_digits (u : Nat) (p : ByteArray) (w : World) (h0 : 1 ≤ u) (h1 : u ≤ 1000000) (hp : Lib.decDigits u = p.data.toList) :
    Calls Tryd.prog 11 #[.int .i64 (u : Int)] w fun e w' => e = .returned (.string p) ∧ Below w.heap.size w w' :=
  messuageref22_Digits.calls 8 (u : Int) p w (by rw [digits_f u 8 h0 h1 (Nat.le_refl _), hp, ba_of])
end Go.Proofs.YtephgjjlbnminaaDoor.T
