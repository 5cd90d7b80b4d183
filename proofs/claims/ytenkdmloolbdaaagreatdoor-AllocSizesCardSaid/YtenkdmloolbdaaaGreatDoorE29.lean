import Derived.Test.YtenkdmloolbdaaaGreatDoorE14
set_option linter.unusedVariables false
set_option linter.unusedSimpArgs false
set_option maxHeartbeats 8000000
set_option maxRecDepth 100000
section
namespace Go.Proofs.YtenkdmloolbdaaaGreatDoor.TS
theorem From.behind : ∀ {rs : List (Int × Int)} {lo : Int}, From lo rs → ∀ r ∈ rs, 1 ≤ r.2
 | _, _, h, r, hr => (From.all h r hr).2.1
theorem From.same : ∀ {rs : List (Int × Int)} {lo : Int}, From lo rs → ∀ r ∈ rs, ∀ q ∈ rs, r = q ∨ r.1 + r.2 ≤ q.1 ∨ q.1 + q.2 ≤ r.1
 | [], _, _, r, hr, _, _ => by cases hr
 | x :: rs, lo, h, r, hr, q, hq => by
  rcases List.mem_cons.1 hr with e | hr'
  ·rcases List.mem_cons.1 hq with e2 | hq'
   ·exact .inl (e.trans e2.symm)
   ·rw [e]; exact .inr (.inl (From.all h.2.2.2 q hq').1)
  ·rcases List.mem_cons.1 hq with e2 | hq'
   ·rw [e2]; exact .inr (.inr (From.all h.2.2.2 r hr').1)
   ·exact From.same h.2.2.2 r hr' q hq'
theorem From.start {rs : List (Int × Int)} {lo : Int} (h : From lo rs) {p a b : Int} (h1 : (p, a) ∈ rs) (h2 : (p, b) ∈ rs) : a = b := by
 rcases h.same _ h1 _ h2 with e | e | e
 ·injection e
 ·have := h.behind _ h1; simp only at e this; omega
 ·have := h.behind _ h2; simp only at e this; omega
theorem From.one {rs : List (Int × Int)} {lo : Int} (h : From lo rs) {p a q b x : Int} (h1 : (p, a) ∈ rs) (h2 : (q, b) ∈ rs) (x1 : p ≤ x) (x2 : x < p + a) (x3 : q ≤ x) (x4 : x < q + b) : p = q ∧ a = b := by
 rcases h.same _ h1 _ h2 with e | e | e
 ·injection e with e1 e2; exact ⟨e1, e2⟩
 ·simp only at e; omega
 ·simp only at e; omega
theorem of_mem {rs : List (Int × Int)} {lo : Int} (h : From lo rs) {p n x : Int} (hm : (p, n) ∈ rs) (h1 : p ≤ x) (h2 : x < p + n) : ofR rs x = (p, n, true) := by
 obtain ⟨i, hi, he⟩ := List.getElem_of_mem hm
 have := ofR_some x i hi h (by rw [he]; exact h1) (by rw [he]; exact h2)
 rw [this, he]
theorem takeL_mem : ∀ {rs : List (Int × Int)} {lo n : Int}, From lo rs → 1 ≤ n → lo ≤ (takeL n lo rs).1 ∧ (∀ r, r ∈ (takeL n lo rs).2 ↔ r ∈ rs ∨ r = ((takeL n lo rs).1, n)) ∧ (∀ r ∈ rs, r.1 + r.2 ≤ (takeL n lo rs).1 ∨ (takeL n lo rs).1 + n ≤ r.1) ∧ ∀ t, lo ≤ t → (∀ r ∈ rs, r.1 + r.2 ≤ t) → (takeL n lo rs).1 ≤ t
 | [], lo, n, _, hn => ⟨Int.le_refl _, fun r => by simp [takeL], fun r hr => (by cases hr), fun t ht _ => ht⟩
 | x :: rs, lo, n, h, hn => by
  have h1 := h.1
  have h2 := h.2.1
  rw [takeL]
  split
  ·obtain ⟨k1, k2, k3, k4⟩ := takeL_mem (n := n) h.2.2.2 hn
   refine ⟨by simp only; omega, fun r => ?_, fun r hr => ?_, fun t ht hr => k4 t (hr x List.mem_cons_self) (fun r hr' => hr r (List.mem_cons_of_mem _ hr'))⟩
   ·simp only [List.mem_cons, k2]
    constructor
    ·rintro (e | e | e)
     ·exact .inl (.inl e)
     ·exact .inl (.inr e)
     ·exact .inr e
    ·rintro ((e | e) | e)
     ·exact .inl e
     ·exact .inr (.inl e)
     ·exact .inr (.inr e)
   ·rcases List.mem_cons.1 hr with rfl | hr
    ·exact .inl k1
    ·exact k3 r hr
  ·rename_i hlt
   refine ⟨Int.le_refl _, fun r => ?_, fun r hr => .inr ?_, fun t ht _ => ht⟩
   ·simp only [List.mem_cons]
    constructor
    ·rintro (e | e | e)
     ·exact .inr e
     ·exact .inl (.inl e)
     ·exact .inl (.inr e)
    ·rintro ((e | e) | e)
     ·exact .inr (.inl e)
     ·exact .inr (.inr e)
     ·exact .inl e
   ·rcases List.mem_cons.1 hr with rfl | hr
    ·simp only; omega
    ·have := (From.all h.2.2.2 r hr).1
     simp only; omega
theorem take_mem {rs : List (Int × Int)} (h : From 1 rs) (n t : Int) (hn : 1 ≤ n) (ht : 1 ≤ t) (htop : ∀ r ∈ rs, r.1 + r.2 ≤ t) (hroom : t + n ≤ 4096) :
 ∃ (p : Nat) (l : List (Int × Int)), takeR n rs = ((p : Int), 0, l) ∧ From 1 l ∧ 1 ≤ p ∧ (p : Int) + n ≤ 4096 ∧ (p : Int) ≤ t ∧ (∀ r, r ∈ l ↔ r ∈ rs ∨ r = ((p : Int), n)) ∧ ∀ r ∈ rs, r.1 + r.2 ≤ (p : Int) ∨ (p : Int) + n ≤ r.1 := by
 obtain ⟨k1, k2, k3, k4⟩ := takeL_mem (n := n) h hn
 have k5 := k4 t ht htop
 have hg := takeL_good n h hn (by omega)
 obtain ⟨p, hp⟩ : ∃ p : Nat, (takeL n 1 rs).1 = (p : Int) := ⟨(takeL n 1 rs).1.toNat, by omega⟩
 rw [hp] at k1 k2 k3 k5
 refine ⟨p, (takeL n 1 rs).2, ?_, hg, by omega, by omega, k5, k2, k3⟩
 unfold takeR
 rw [if_neg (by omega), if_neg (by rw [hp]; omega), hp]
theorem take_ok {rs l : List (Int × Int)} {n p : Int} (h : From 1 rs) (hr : takeR n rs = (p, 0, l)) : From 1 l ∧ 1 ≤ n ∧ 1 ≤ p ∧ p + n ≤ 4096 ∧ (∀ r, r ∈ l ↔ r ∈ rs ∨ r = (p, n)) ∧ ∀ r ∈ rs, r.1 + r.2 ≤ p ∨ p + n ≤ r.1 := by
 unfold takeR at hr
 split at hr
 ·injection hr with _ h2; injection h2 with h2 _; cases h2
 ·split at hr
  ·injection hr with _ h2; injection h2 with h2 _; cases h2
  ·injection hr with h1 h2
   injection h2 with _ h2
   subst h1; subst h2
   obtain ⟨k1, k2, k3, k4⟩ := takeL_mem (n := n) h (by omega)
   exact ⟨takeL_good n h (by omega) (by omega), by omega, k1, by omega, k2, k3⟩
end Go.Proofs.YtenkdmloolbdaaaGreatDoor.TS
end
