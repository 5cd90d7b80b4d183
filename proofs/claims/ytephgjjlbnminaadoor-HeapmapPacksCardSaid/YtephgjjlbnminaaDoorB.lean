/- Plain laws of packing and unpacking: lists of bytes alone, no program. -/
import Derived.Lib.ItoaNum
namespace Go.Proofs.YtephgjjlbnminaaDoor.T
open Go
set_option linter.unusedVariables false
set_option linter.unusedSimpArgs false
def dg (c : UInt8) : Bool := decide (48 ≤ c.toNat) && decide (c.toNat ≤ 57)
/-- How often a byte stands at the head of a list. -/
def rl (c : UInt8) : List UInt8 → Nat
  | [] => 0
  | d :: l => if d = c then rl c l + 1 else 0
theorem rl_le (c : UInt8) : ∀ l : List UInt8, rl c l ≤ l.length
  | [] => Nat.le_refl _
  | d :: l => by
    have := rl_le c l
    simp only [rl, List.length_cons]
    split <;> omega
theorem rl_take (c : UInt8) : ∀ l : List UInt8, l.take (rl c l) = List.replicate (rl c l) c
  | [] => rfl
  | d :: l => by
    simp only [rl]
    split
    · rename_i h
      rw [List.take_succ_cons, rl_take c l, h]; rfl
    · rfl
theorem rl_split (c : UInt8) (l : List UInt8) : List.replicate (rl c l) c ++ l.drop (rl c l) = l := by rw [← rl_take, List.take_append_drop]
def pk : List UInt8 → Option (List UInt8)
  | [] => some []
  | c :: l => if dg c = true then none else (pk (l.drop (rl c l))).map fun r => (if rl c l = 0 then [] else Lib.decDigits (rl c l + 1)) ++ c :: r
termination_by l => l.length
decreasing_by simp [List.length_drop]; omega
theorem pk_nil : pk [] = some [] := by rw [pk]
theorem pk_cons (c : UInt8) (l : List UInt8) : pk (c :: l) = if dg c = true then none else (pk (l.drop (rl c l))).map fun r => (if rl c l = 0 then [] else Lib.decDigits (rl c l + 1)) ++ c :: r := by rw [pk]
def pack (l : List UInt8) : List UInt8 := (pk l).getD []
/-- How often a sign stands: as often as the number says, or once. -/
def mul (has : Bool) (n : Nat) : Nat := if has = true then n else 1
/-- The text that bytes are the pack of, so far: n and has: the number that was read. -/
def dc (strict : Bool) : List UInt8 → Nat → Bool → Nat → Option (List UInt8)
  | [], n, has, len => if (strict && has) = true then none else some []
  | c :: l, n, has, len =>
    if dg c = true then (if 65536 < 10 * n + (c.toNat - 48) then none else dc strict l (10 * n + (c.toNat - 48)) true len)
    else if 65536 < len + mul has n then none else (dc strict l 0 false (len + mul has n)).map (List.replicate (mul has n) c ++ ·)
def unp (l : List UInt8) : Option (List UInt8) := (dc true l 0 false 0).bind fun out => if pack out = l then some out else none
def up (l : List UInt8) : List UInt8 × Bool := match unp l with | none => ([], false) | some o => (o, true)
/-- A number at the head of a list: it, and what stands behind it. -/
def cn : List UInt8 → Nat → Option (Nat × List UInt8)
  | [], n => some (n, [])
  | c :: l, n => if dg c = true then (if 65536 < 10 * n + (c.toNat - 48) then none else cn l (10 * n + (c.toNat - 48))) else some (n, c :: l)
theorem cn_len : ∀ (l : List UInt8) (n m : Nat) (r : List UInt8), cn l n = some (m, r) → ∃ k, r = l.drop k ∧ k + r.length = l.length
  | [], n, m, r, h => by simp only [cn, Option.some.injEq, Prod.mk.injEq] at h; exact ⟨0, by rw [← h.2]; rfl, by rw [← h.2]; rfl⟩
  | c :: l, n, m, r, h => by
    simp only [cn] at h
    split at h
    · split at h
      · cases h
      · obtain ⟨k, h1, h2⟩ := cn_len l _ m r h
        exact ⟨k + 1, by rw [List.drop_succ_cons]; exact h1, by simp only [List.length_cons]; omega⟩
    · simp only [Option.some.injEq, Prod.mk.injEq] at h
      exact ⟨0, by rw [← h.2]; rfl, by rw [← h.2]; simp⟩
theorem cn_head : ∀ (l : List UInt8) (n m : Nat) (c : UInt8) (r : List UInt8), cn l n = some (m, c :: r) → dg c = false
  | [], n, m, c, r, h => by simp [cn] at h
  | d :: l, n, m, c, r, h => by
    simp only [cn] at h
    split at h
    · split at h
      · cases h
      · exact cn_head l _ m c r h
    · rename_i hd
      simp only [Option.some.injEq, Prod.mk.injEq, List.cons.injEq] at h
      rw [← h.2.1]; simpa using hd
theorem cn_le : ∀ (l : List UInt8) (n m : Nat) (r : List UInt8), n ≤ 65536 → cn l n = some (m, r) → m ≤ 65536
  | [], n, m, r, hn, h => by simp only [cn, Option.some.injEq, Prod.mk.injEq] at h; omega
  | c :: l, n, m, r, hn, h => by
    simp only [cn] at h
    split at h
    · split at h
      · cases h
      · exact cn_le l _ m r (by omega) h
    · simp only [Option.some.injEq, Prod.mk.injEq] at h; omega
theorem dc_none (b : Bool) : ∀ (l : List UInt8) (n : Nat) (has : Bool) (len : Nat), cn l n = none → dc b l n has len = none
  | [], n, has, len, h => by simp [cn] at h
  | c :: l, n, has, len, h => by
    simp only [cn] at h
    simp only [dc]
    split at h
    · rename_i hd
      rw [if_pos hd]
      split at h
      · rename_i ho
        rw [if_pos ho]
      · rename_i ho
        rw [if_neg ho]; exact dc_none b l _ true len h
    · cases h
theorem dc_end : ∀ (l : List UInt8) (n m : Nat) (has : Bool) (len : Nat), (has = true ∨ l ≠ []) → cn l n = some (m, []) → dc true l n has len = none
  | [], n, m, has, len, h0, h => by
    rcases h0 with h0 | h0
    · simp [dc, h0]
    · exact absurd rfl h0
  | c :: l, n, m, has, len, h0, h => by
    simp only [cn] at h
    simp only [dc]
    split at h
    · rename_i hd
      rw [if_pos hd]
      split at h
      · cases h
      · rename_i ho
        rw [if_neg ho]
        exact dc_end l _ m true len (.inl rfl) h
    · simp at h
theorem dc_step (b : Bool) : ∀ (l : List UInt8) (n m : Nat) (has : Bool) (len : Nat) (c : UInt8) (r : List UInt8), cn l n = some (m, c :: r) → dc b l n has len = dc b (c :: r) m (has || decide (r.length + 1 < l.length)) len
  | [], n, m, has, len, c, r, h => by simp [cn] at h
  | d :: l, n, m, has, len, c, r, h => by
    have h' := h
    simp only [cn] at h
    split at h
    · rename_i hd
      split at h
      · cases h
      · rename_i ho
        rw [dc, if_pos hd, if_neg ho, dc_step b l _ m true len c r h]
        obtain ⟨k, _, hk⟩ := cn_len l _ m (c :: r) h
        simp only [List.length_cons] at hk ⊢
        rw [show decide (r.length + 1 < l.length + 1) = true from decide_eq_true (by omega), Bool.or_true, Bool.true_or]
    · simp only [Option.some.injEq, Prod.mk.injEq, List.cons.injEq] at h
      obtain ⟨rfl, rfl, rfl⟩ := h
      rw [show decide (l.length + 1 < (d :: l).length) = false from decide_eq_false (by simp), Bool.or_false]
theorem dc_strict : ∀ (l : List UInt8) (n : Nat) (has : Bool) (len : Nat) (o : List UInt8), dc true l n has len = some o → dc false l n has len = some o
  | [], n, has, len, o, h => by
    simp only [dc] at h ⊢
    cases has <;> simp_all
  | c :: l, n, has, len, o, h => by
    simp only [dc] at h ⊢
    split at h
    · rename_i hd
      rw [if_pos hd]
      split at h
      · cases h
      · rename_i ho
        rw [if_neg ho]; exact dc_strict l _ true len o h
    · rename_i hd
      rw [if_neg hd]
      split at h
      · cases h
      · rename_i ho
        rw [if_neg ho]
        obtain ⟨q, hq, rfl⟩ := Option.map_eq_some_iff.1 h
        rw [dc_strict l _ false _ q hq]; rfl
/-- Where the strict reading falls and the other one does not, a digit stands at the end. -/
theorem dc_loose : ∀ (l : List UInt8) (n : Nat) (has : Bool) (len : Nat) (o : List UInt8), dc true l n has len = none → dc false l n has len = some o → (l = [] ∧ has = true) ∨ ∃ p d, l = p ++ [d] ∧ dg d = true
  | [], n, has, len, o, h1, h2 => by
    simp only [dc] at h1
    cases has
    · simp at h1
    · exact .inl ⟨rfl, rfl⟩
  | c :: l, n, has, len, o, h1, h2 => by
    simp only [dc] at h1 h2
    by_cases hd : dg c = true
    · rw [if_pos hd] at h1 h2
      by_cases ho : 65536 < 10 * n + (c.toNat - 48)
      · rw [if_pos ho] at h2; cases h2
      · rw [if_neg ho] at h1 h2
        rcases dc_loose l _ true len o h1 h2 with ⟨rfl, _⟩ | ⟨p, d, rfl, hdd⟩
        · exact .inr ⟨[], c, rfl, hd⟩
        · exact .inr ⟨c :: p, d, rfl, hdd⟩
    · rw [if_neg hd] at h1 h2
      split at h2
      · cases h2
      · rename_i ho
        rw [if_neg ho] at h1
        obtain ⟨q, hq, _⟩ := Option.map_eq_some_iff.1 h2
        rw [Option.map_eq_none_iff] at h1
        rcases dc_loose l _ false _ q h1 hq with ⟨_, h⟩ | ⟨p, d, rfl, hdd⟩
        · cases h
        · exact .inr ⟨c :: p, d, rfl, hdd⟩
theorem pk_last : ∀ (k : Nat) (l p : List UInt8), l.length ≤ k → pk l = some p → p = [] ∨ ∃ q d, p = q ++ [d] ∧ dg d = false
  | 0, l, p, hk, h => by
    obtain rfl : l = [] := List.eq_nil_of_length_eq_zero (by omega)
    rw [pk_nil] at h; injection h with h; exact .inl h.symm
  | k + 1, [], p, hk, h => by rw [pk_nil] at h; injection h with h; exact .inl h.symm
  | k + 1, c :: l, p, hk, h => by
    rw [pk_cons] at h
    split at h
    · cases h
    · rename_i hd
      obtain ⟨r, hr, rfl⟩ := Option.map_eq_some_iff.1 h
      right
      rcases pk_last k _ r (by rw [List.length_drop]; simp only [List.length_cons] at hk; omega) hr with rfl | ⟨q, d, rfl, hdd⟩
      · exact ⟨_, c, rfl, by simpa using hd⟩
      · exact ⟨(if rl c l = 0 then [] else Lib.decDigits (rl c l + 1)) ++ c :: q, d, by simp, hdd⟩
/-- The loose reading is as good: what ends with a digit is no pack. -/
theorem unp_loose (l : List UInt8) : unp l = (dc false l 0 false 0).bind fun out => if pack out = l then some out else none := by
  unfold unp
  cases h1 : dc true l 0 false 0 with
  | some o => rw [dc_strict l 0 false 0 o h1]
  | none =>
    cases h2 : dc false l 0 false 0 with
    | none => rfl
    | some o =>
      simp only [Option.bind_none, Option.bind_some]
      rcases dc_loose l 0 false 0 o h1 h2 with ⟨_, h⟩ | ⟨p, d, rfl, hd⟩
      · cases h
      · rw [if_neg]
        intro e
        unfold pack at e
        cases hp : pk o with
        | none => rw [hp] at e; simp at e
        | some q =>
          rw [hp] at e
          simp only [Option.getD_some] at e
          rcases pk_last o.length o q (Nat.le_refl _) hp with rfl | ⟨q', d', rfl, hd'⟩
          · simp at e
          · have := List.append_inj' e rfl
            simp only [List.cons.injEq, and_true] at this
            rw [this.2, hd] at hd'; cases hd'
theorem dg_of (d : Nat) (h : d < 10) : dg (UInt8.ofNat (48 + d)) = true ∧ (UInt8.ofNat (48 + d)).toNat - 48 = d := by
  have e : (UInt8.ofNat (48 + d)).toNat = 48 + d := by rw [UInt8.toNat_ofNat']; omega
  unfold dg
  rw [e]
  exact ⟨by simp; omega, by omega⟩
theorem dc_digits (b : Bool) (l : List UInt8) (len : Nat) : ∀ (k u : Nat) (has : Bool), u ≤ k → u ≤ 65536 → dc b (Lib.decDigits u ++ l) 0 has len = dc b l u true len
  | 0, u, has, hk, hu => by
    obtain rfl : u = 0 := by omega
    rw [Lib.decDigits_one (by omega)]
    simp only [List.cons_append, List.nil_append, dc]
    rw [if_pos (dg_of 0 (by omega)).1, (dg_of 0 (by omega)).2, if_neg (by omega)]
  | k + 1, u, has, hk, hu => by
    by_cases h10 : u < 10
    · rw [Lib.decDigits_one h10]
      simp only [List.cons_append, List.nil_append, dc]
      rw [if_pos (dg_of u h10).1, (dg_of u h10).2, if_neg (by omega)]
      congr 1
      omega
    · rw [Lib.decDigits, dif_neg h10, List.append_assoc]
      have ih : ∀ l' : List UInt8, dc b (Lib.decDigits (u / 10) ++ l') 0 has len = dc b l' (u / 10) true len := by
        intro l'
        exact dc_digits b l' len k (u / 10) has (by omega) (by omega)
      rw [ih]
      simp only [List.cons_append, List.nil_append, dc]
      rw [if_pos (dg_of (u % 10) (by omega)).1, (dg_of (u % 10) (by omega)).2, if_neg (by omega)]
      congr 1
      omega
theorem dc_over (b : Bool) (l : List UInt8) (len u : Nat) (has : Bool) (h : 65536 < u) (h2 : u ≤ 600000) : dc b (Lib.decDigits u ++ l) 0 has len = none := by
  rw [Lib.decDigits, dif_neg (by omega), List.append_assoc, dc_digits b _ len (u / 10) (u / 10) has (Nat.le_refl _) (by omega)]
  simp only [List.cons_append, List.nil_append, dc]
  rw [if_pos (dg_of (u % 10) (by omega)).1, (dg_of (u % 10) (by omega)).2, if_pos (by omega)]
/-- What was packed comes back. -/
theorem dc_pk (b : Bool) : ∀ (k : Nat) (l p : List UInt8) (len : Nat), l.length ≤ k → len + l.length ≤ 65536 → pk l = some p → dc b p 0 false len = some l
  | 0, l, p, len, hk, hl, h => by
    obtain rfl : l = [] := List.eq_nil_of_length_eq_zero (by omega)
    rw [pk_nil] at h; injection h with h; subst h
    simp [dc]
  | k + 1, [], p, len, hk, hl, h => by
    rw [pk_nil] at h; injection h with h; subst h
    simp [dc]
  | k + 1, c :: l, p, len, hk, hl, h => by
    rw [pk_cons] at h
    split at h
    · cases h
    · rename_i hd
      obtain ⟨r, hr, rfl⟩ := Option.map_eq_some_iff.1 h
      have hle := rl_le c l
      simp only [List.length_cons] at hk hl
      have ih : dc b r 0 false (len + (rl c l + 1)) = some (l.drop (rl c l)) := dc_pk b k (l.drop (rl c l)) r (len + (rl c l + 1)) (by rw [List.length_drop]; omega) (by rw [List.length_drop]; omega) hr
      have hsp : List.replicate (rl c l + 1) c ++ l.drop (rl c l) = c :: l := by rw [List.replicate_succ, List.cons_append, rl_split]
      by_cases h0 : rl c l = 0
      · rw [if_pos h0, List.nil_append]
        simp only [dc]
        rw [if_neg hd, show mul false 0 = 0 + 1 from rfl, if_neg (by omega)]
        rw [h0] at ih hsp
        rw [ih]
        simp only [Option.map_some]
        rw [hsp]
      · rw [if_neg h0, dc_digits b _ len (rl c l + 1) (rl c l + 1) false (Nat.le_refl _) (by omega)]
        simp only [dc]
        rw [if_neg hd, show mul true (rl c l + 1) = rl c l + 1 from rfl, if_neg (by omega)]
        rw [ih]
        simp only [Option.map_some]
        rw [hsp]
theorem pk_digit : ∀ (k : Nat) (l : List UInt8), l.length ≤ k → (∃ d ∈ l, dg d = true) → pk l = none
  | 0, l, hk, ⟨d, hd, _⟩ => by
    obtain rfl : l = [] := List.eq_nil_of_length_eq_zero (by omega)
    cases hd
  | k + 1, [], hk, ⟨d, hd, _⟩ => by cases hd
  | k + 1, c :: l, hk, ⟨d, hd, hdd⟩ => by
    rw [pk_cons]
    split
    · rfl
    · rename_i hc
      simp only [List.length_cons] at hk
      rw [Option.map_eq_none_iff]
      refine pk_digit k _ (by rw [List.length_drop]; omega) ⟨d, ?_, hdd⟩
      rcases List.mem_cons.1 hd with rfl | h
      · exact absurd hdd hc
      · rw [← rl_split c l, List.mem_append] at h
        rcases h with h | h
        · rw [List.mem_replicate] at h
          rw [h.2] at hdd; exact absurd hdd hc
        · exact h
theorem pk_plain : ∀ (k : Nat) (l : List UInt8), l.length ≤ k → (∀ d ∈ l, dg d = false) → ∃ p, pk l = some p
  | 0, l, hk, h => by
    obtain rfl : l = [] := List.eq_nil_of_length_eq_zero (by omega)
    exact ⟨_, pk_nil⟩
  | k + 1, [], hk, h => ⟨_, pk_nil⟩
  | k + 1, c :: l, hk, h => by
    rw [pk_cons, if_neg (by rw [h c (List.mem_cons_self ..)]; simp)]
    simp only [List.length_cons] at hk
    obtain ⟨p, hp⟩ := pk_plain k (l.drop (rl c l)) (by rw [List.length_drop]; omega) (fun d hd => h d (List.mem_cons_of_mem _ (List.mem_of_mem_drop hd)))
    rw [hp]; exact ⟨_, rfl⟩
theorem pack_digit (l : List UInt8) (h : ∃ d ∈ l, dg d = true) : pack l = [] := by unfold pack; rw [pk_digit l.length l (Nat.le_refl _) h]; rfl
theorem up_pack (l : List UInt8) (hl : l.length ≤ 65536) (h : ∀ d ∈ l, dg d = false) : up (pack l) = (l, true) := by
  obtain ⟨p, hp⟩ := pk_plain l.length l (Nat.le_refl _) h
  have hq : pack l = p := by unfold pack; rw [hp]; rfl
  unfold up unp
  rw [hq, dc_pk true l.length l p 0 (Nat.le_refl _) (by omega) hp]
  simp only [Option.bind_some]
  rw [if_pos hq]
theorem rl_rep (c : UInt8) : ∀ n, rl c (List.replicate n c) = n
  | 0 => rfl
  | n + 1 => by rw [List.replicate_succ, rl, if_pos rfl, rl_rep c n]
theorem pack_rep (c : UInt8) (n : Nat) (hc : dg c = false) (hn : 1 ≤ n) : pack (List.replicate (n + 1) c) = Lib.decDigits (n + 1) ++ [c] := by
  unfold pack
  rw [List.replicate_succ, pk_cons, if_neg (by rw [hc]; simp), rl_rep, if_neg (by omega), List.drop_of_length_le (by simp), pk_nil]
  rfl
theorem up_long (c : UInt8) (n : Nat) (hc : dg c = false) (h1 : 2 ≤ n) (h2 : n ≤ 65536) : up (Lib.decDigits n ++ [c]) = (List.replicate n c, true) := by
  obtain ⟨m, rfl⟩ : ∃ m, n = m + 1 := ⟨n - 1, by omega⟩
  have hp := pack_rep c m hc (by omega)
  have h : ∀ d ∈ List.replicate (m + 1) c, dg d = false := fun d hd => by rw [(List.mem_replicate.1 hd).2]; exact hc
  have := up_pack (List.replicate (m + 1) c) (by rw [List.length_replicate]; exact h2) h
  rw [hp] at this
  exact this
theorem up_over (c : UInt8) (n : Nat) (h1 : 65536 < n) (h2 : n ≤ 600000) : up (Lib.decDigits n ++ [c]) = ([], false) := by
  unfold up unp
  rw [dc_over true [c] 0 n false h1 h2]
  rfl
theorem dec_le : ∀ (k u : Nat), u ≤ k → 1 ≤ u → (Lib.decDigits u).length ≤ u
  | 0, u, hk, hu => by omega
  | k + 1, u, hk, hu => by
    by_cases h : u < 10
    · rw [Lib.decDigits_one h]; simpa using hu
    · rw [Lib.decDigits, dif_neg h, List.length_append]
      have := dec_le k (u / 10) (by omega) (by omega)
      simp only [List.length_cons, List.length_nil]
      omega
theorem dc_max (b : Bool) : ∀ (l : List UInt8) (n : Nat) (has : Bool) (len : Nat) (o : List UInt8), len ≤ 65536 → dc b l n has len = some o → len + o.length ≤ 65536
  | [], n, has, len, o, hl, h => by
    simp only [dc] at h
    split at h
    · cases h
    · injection h with h; subst h; simpa using hl
  | c :: l, n, has, len, o, hl, h => by
    simp only [dc] at h
    split at h
    · split at h
      · cases h
      · exact dc_max b l _ true len o hl h
    · split at h
      · cases h
      · rename_i ho
        obtain ⟨q, hq, rfl⟩ := Option.map_eq_some_iff.1 h
        have := dc_max b l _ false _ q (by omega) hq
        rw [List.length_append, List.length_replicate]; omega
theorem pack_le : ∀ (k : Nat) (l p : List UInt8), l.length ≤ k → pk l = some p → p.length ≤ 2 * l.length
  | 0, l, p, hk, h => by
    obtain rfl : l = [] := List.eq_nil_of_length_eq_zero (by omega)
    rw [pk_nil] at h; injection h with h; subst h; simp
  | k + 1, [], p, hk, h => by rw [pk_nil] at h; injection h with h; subst h; simp
  | k + 1, c :: l, p, hk, h => by
    rw [pk_cons] at h
    split at h
    · cases h
    · obtain ⟨r, hr, rfl⟩ := Option.map_eq_some_iff.1 h
      have hle := rl_le c l
      simp only [List.length_cons] at hk
      have ih := pack_le k (l.drop (rl c l)) r (by rw [List.length_drop]; omega) hr
      rw [List.length_drop] at ih
      have hd := dec_le (rl c l + 1) (rl c l + 1) (Nat.le_refl _) (by omega)
      simp only [List.length_append, List.length_cons]
      split
      · simp only [List.length_nil]; omega
      · omega
end Go.Proofs.YtephgjjlbnminaaDoor.T
