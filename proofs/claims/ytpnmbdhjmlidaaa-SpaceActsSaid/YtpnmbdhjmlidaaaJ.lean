/- Plain laws of runs side by side: a hole is filled by the first one that fits. No program in sight. -/
import Derived.Test.YtpnmbdhjmlidaaaI
namespace Go.Proofs.Ytpnmbdhjmlidaaa.T
open Go.RowKit
set_option linter.unusedVariables false
set_option linter.unusedSimpArgs false
def runs : Int → List Int → List (Int × Int)
  | _, [] => []
  | lo, s :: ss => (lo, s) :: runs (lo + s) ss
def stop (lo : Int) (ss : List Int) : Int := lo + ss.sum
def starts : Int → List Int → List Int
  | _, [] => []
  | lo, s :: ss => lo :: starts (lo + s) ss
theorem stop_cons (lo s : Int) (ss : List Int) : stop lo (s :: ss) = stop (lo + s) ss := by simp [stop]; omega
theorem stop_append (lo : Int) (a b : List Int) : stop lo (a ++ b) = stop (stop lo a) b := by simp [stop]; omega
theorem runs_append : ∀ (lo : Int) (a b : List Int), runs lo (a ++ b) = runs lo a ++ runs (stop lo a) b
  | lo, [], b => by simp [runs, stop]
  | lo, s :: a, b => by
    rw [List.cons_append, runs, runs, runs_append (lo + s) a b, stop_cons]; rfl
theorem starts_append : ∀ (lo : Int) (a b : List Int), starts lo (a ++ b) = starts lo a ++ starts (stop lo a) b
  | lo, [], b => by simp [starts, stop]
  | lo, s :: a, b => by
    rw [List.cons_append, starts, starts, starts_append (lo + s) a b, stop_cons]; rfl
theorem starts_len : ∀ (lo : Int) (ss : List Int), (starts lo ss).length = ss.length
  | lo, [] => rfl
  | lo, s :: ss => by rw [starts, List.length_cons, List.length_cons, starts_len]
theorem takeL_pass (n : Int) (hn : 1 ≤ n) (tl : List (Int × Int)) : ∀ (a b : Int) (ss : List Int), b - a < n → ss ≠ [] → takeL n a (runs b ss ++ tl) = ((takeL n (stop b ss) tl).1, runs b ss ++ (takeL n (stop b ss) tl).2)
  | a, b, [], _, h => absurd rfl h
  | a, b, [s], hd, _ => by
    simp only [runs, List.singleton_append]
    rw [takeL, if_pos hd]
    simp [stop]
  | a, b, s :: t :: ss, hd, _ => by
    have ih := takeL_pass n hn tl (b + s) (b + s) (t :: ss) (by omega) (by simp)
    rw [stop_cons, runs, List.cons_append, takeL, if_pos hd]
    simp only
    rw [ih]
    rfl
theorem takeL_on (n : Int) (hn : 1 ≤ n) (tl : List (Int × Int)) (b : Int) (ss : List Int) : takeL n b (runs b ss ++ tl) = ((takeL n (stop b ss) tl).1, runs b ss ++ (takeL n (stop b ss) tl).2) := by
  cases ss with
  | nil => simp [runs, stop]
  | cons s ss => exact takeL_pass n hn tl b b (s :: ss) (by omega) (by simp)
theorem giveL_on (p s : Int) (tl : List (Int × Int)) : ∀ (lo : Int) (pre : List Int), (∀ x ∈ pre, 1 ≤ x) → p = stop lo pre → giveL p (runs lo pre ++ (p, s) :: tl) = some (s, runs lo pre ++ tl)
  | lo, [], _, h => by simp [runs, giveL]
  | lo, x :: pre, hx, h => by
    have hsum : 0 ≤ pre.sum := by
      have : ∀ l : List Int, (∀ y ∈ l, 1 ≤ y) → 0 ≤ l.sum := by
        intro l
        induction l with
        | nil => intro _; simp
        | cons y l ih => intro hl; have := hl y (List.mem_cons_self ..); have := ih (fun z hz => hl z (List.mem_cons_of_mem _ hz)); simp; omega
      exact this pre (fun y hy => hx y (List.mem_cons_of_mem _ hy))
    have h1 := hx x (List.mem_cons_self ..)
    have hne : ¬ lo = p := by rw [h]; simp [stop]; omega
    rw [runs, List.cons_append, giveL, if_neg hne, giveL_on p s tl (lo + x) pre (fun y hy => hx y (List.mem_cons_of_mem _ hy)) (by rw [h, stop_cons])]
    rfl
theorem sum_le : ∀ (ss : List Int), (∀ x ∈ ss, 2 ≤ x ∧ x ≤ 21) → 2 * (ss.length : Int) ≤ ss.sum ∧ ss.sum ≤ 21 * (ss.length : Int)
  | [], _ => by simp
  | x :: ss, h => by
    have := h x (List.mem_cons_self ..)
    have := sum_le ss (fun y hy => h y (List.mem_cons_of_mem _ hy))
    simp only [List.sum_cons, List.length_cons]
    omega
theorem takeR_of (n a : Int) (rs l : List (Int × Int)) (h1 : 1 ≤ n) (h2 : n ≤ 4095) (h : takeL n 1 rs = (a, l)) (h3 : a + n ≤ 4096) : takeR n rs = (a, 0, l) := by
  unfold takeR
  rw [if_neg (by omega), h]
  simp only
  rw [if_neg (by omega)]
theorem takeR_end (ss : List Int) (n : Int) (h1 : 1 ≤ n) (h2 : n ≤ 4095) (h3 : stop 1 ss + n ≤ 4096) : takeR n (runs 1 ss) = (stop 1 ss, 0, runs 1 (ss ++ [n])) := by
  refine takeR_of n _ _ _ h1 h2 ?_ h3
  have := takeL_on n h1 [] 1 ss
  rw [List.append_nil] at this
  rw [this, runs_append]
  simp [takeL, runs]
/-- A hole of s pages at p between runs: who asks for one more gets the pages behind all, who asks for one less gets p, who asks for one the page that is left. -/
theorem holes_mid (pre post : List Int) (s t : Int) (hs : 2 ≤ s) (hs2 : s ≤ 21) (hpre : ∀ x ∈ pre, 2 ≤ x ∧ x ≤ 21) (hpost : ∀ x ∈ post, 2 ≤ x ∧ x ≤ 21) (ht : 2 ≤ t ∧ t ≤ 21) (hl : pre.length + post.length ≤ 20) :
    ∃ l1 l2 l3 l4, giveL (stop 1 pre) (runs 1 (pre ++ s :: t :: post)) = some (s, l1) ∧ takeR (s + 1) l1 = (stop 1 (pre ++ s :: t :: post), 0, l2) ∧ takeR (s - 1) l2 = (stop 1 pre, 0, l3) ∧ takeR 1 l3 = (stop 1 pre + s - 1, 0, l4) := by
  have b1 := sum_le pre hpre
  have b2 := sum_le post hpost
  obtain ⟨p, hp⟩ : ∃ p, stop 1 pre = p := ⟨_, rfl⟩
  have hpv : p = 1 + pre.sum := hp.symm
  have he : stop 1 (pre ++ s :: t :: post) = stop (p + s) (t :: post) := by rw [stop_append, hp, stop_cons]
  have hev : stop (p + s) (t :: post) = p + s + t + post.sum := by simp [stop]; omega
  rw [he, hp]
  obtain ⟨e, hee⟩ : ∃ e, stop (p + s) (t :: post) = e := ⟨_, rfl⟩
  rw [hee] at hev ⊢
  have hr : runs 1 (pre ++ s :: t :: post) = runs 1 pre ++ (p, s) :: runs (p + s) (t :: post) := by rw [runs_append, hp]; rfl
  refine ⟨runs 1 pre ++ runs (p + s) (t :: post), runs 1 pre ++ runs (p + s) (t :: post) ++ [(e, s + 1)], runs 1 pre ++ (p, s - 1) :: (runs (p + s) (t :: post) ++ [(e, s + 1)]), runs 1 pre ++ (p, s - 1) :: (p + s - 1, 1) :: (runs (p + s) (t :: post) ++ [(e, s + 1)]), ?_, ?_, ?_, ?_⟩
  · rw [hr]; exact giveL_on p s _ 1 pre (fun x hx => by have := hpre x hx; omega) hp.symm
  · refine takeR_of _ _ _ _ (by omega) (by omega) ?_ (by omega)
    rw [takeL_on (s + 1) (by omega) _ 1 pre, hp]
    have := takeL_pass (s + 1) (by omega) [] p (p + s) (t :: post) (by omega) (by simp)
    rw [List.append_nil] at this
    rw [this, hee]
    simp [takeL, List.append_assoc]
  · refine takeR_of _ _ _ _ (by omega) (by omega) ?_ (by omega)
    rw [List.append_assoc, takeL_on (s - 1) (by omega) _ 1 pre, hp, runs, List.cons_append, takeL, if_neg (by simp only; omega)]
  · refine takeR_of _ _ _ _ (by omega) (by omega) ?_ (by omega)
    rw [takeL_on 1 (by omega) _ 1 pre, hp, takeL, if_pos (by simp only; omega)]
    have e1 : p + (s - 1) = p + s - 1 := by omega
    simp only [e1]
    rw [runs, List.cons_append, takeL, if_neg (by simp only; omega)]
/-- A hole behind all runs is as great as one likes. -/
theorem holes_last (pre : List Int) (s : Int) (hs : 2 ≤ s) (hs2 : s ≤ 21) (hpre : ∀ x ∈ pre, 2 ≤ x ∧ x ≤ 21) (hl : pre.length ≤ 20) :
    ∃ l1 l2 l3 l4, giveL (stop 1 pre) (runs 1 (pre ++ [s])) = some (s, l1) ∧ takeR (s + 1) l1 = (stop 1 pre, 0, l2) ∧ takeR (s - 1) l2 = (stop 1 pre + s + 1, 0, l3) ∧ takeR 1 l3 = (stop 1 pre + s + 1 + s - 1, 0, l4) := by
  have b1 := sum_le pre hpre
  have hpv : stop 1 pre = 1 + pre.sum := rfl
  have hr : runs 1 (pre ++ [s]) = runs 1 pre ++ (stop 1 pre, s) :: [] := by rw [runs_append]; rfl
  have q1 : stop 1 (pre ++ [s + 1]) = stop 1 pre + s + 1 := by rw [stop_append]; simp [stop]; omega
  have q2 : stop 1 (pre ++ [s + 1] ++ [s - 1]) = stop 1 pre + s + 1 + s - 1 := by rw [stop_append, q1]; simp [stop]; omega
  refine ⟨runs 1 pre ++ [], runs 1 (pre ++ [s + 1]), runs 1 (pre ++ [s + 1] ++ [s - 1]), runs 1 (pre ++ [s + 1] ++ [s - 1] ++ [1]), ?_, ?_, ?_, ?_⟩
  · rw [hr]; exact giveL_on _ s _ 1 pre (fun x hx => by have := hpre x hx; omega) rfl
  · rw [List.append_nil]; exact takeR_end pre (s + 1) (by omega) (by omega) (by omega)
  · rw [← q1]; exact takeR_end _ (s - 1) (by omega) (by omega) (by rw [q1]; omega)
  · rw [← q2]; exact takeR_end _ 1 (by omega) (by omega) (by rw [q2]; omega)
end Go.Proofs.Ytpnmbdhjmlidaaa.T
