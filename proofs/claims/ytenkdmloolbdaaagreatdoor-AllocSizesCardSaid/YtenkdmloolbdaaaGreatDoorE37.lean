import Derived.Test.YtenkdmloolbdaaaGreatDoorE36
import Derived.Test.YtenkdmloolbdaaaGreatDoorE04
set_option linter.unusedVariables false
set_option linter.unusedSimpArgs false
set_option maxHeartbeats 8000000
set_option maxRecDepth 100000
section
namespace Go.Proofs.YtenkdmloolbdaaaGreatDoor.T
open Go.RowKit Go.Maps Go.Proofs.YtenkdmloolbdaaaGreatDoorW.PrintWords Go.Proofs.YtenkdmloolbdaaaGreatDoorW.PrintLast Go.Proofs.YtenkdmloolbdaaaGreatDoorW.PrintMore
def unF (f : Int → Option Int) (x : Int) (n : Nat) : Int → Option Int := fun z => if x ≤ z ∧ z < x + n then none else f z
theorem unF_zero (f : Int → Option Int) (x : Int) : unF f x 0 = f := by
 funext z
 unfold unF
 rw [if_neg (by omega)]
theorem unF_succ (f : Int → Option Int) (x : Int) (n : Nat) : outF (unF f x n) (x + n) = unF f x (n + 1) := by
 funext z
 unfold outF unF
 by_cases e : z = x + n
 ·rw [if_pos e, if_pos (by omega)]
 ·rw [if_neg e]
  by_cases h : x ≤ z ∧ z < x + n
  ·rw [if_pos h, if_pos (by omega)]
  ·rw [if_neg h, if_neg (by omega)]
def giveN (f : Nat) (bs : List Bud) (k y : Nat) : List Bud := match bs[k]? with
 | some x => bs.set k (giveB f x y)
 | none => bs
def rel1 (s : St) (p : Nat) : St := match s.sp p with
 | none => s
 | some hd => { s with bs := giveN s.f s.bs hd.node (hd.frame - hd.node * s.f), pf := unF s.pf p (2 ^ clO hd.cls), pg := unF s.pg hd.frame (2 ^ clO hd.cls), rs := s.rs.filter (fun r => decide (r.1 ≠ (p : Int))), sp := fun q => if q = p then none else s.sp q }
theorem give_filter : ∀ {rs : List (Int × Int)} {lo : Int}, TS.From lo rs → ∀ {p n : Int}, (p, n) ∈ rs → TS.giveL p rs = some (n, rs.filter (fun r => decide (r.1 ≠ p)))
 | [], _, _, _, _, hm => by cases hm
 | x :: rs, lo, h, p, n, hm => by
  have hgt : ∀ r ∈ rs, x.1 < r.1 := fun r hr => by
   have := (TS.From.all h.2.2.2 r hr).1
   have := h.2.1
   omega
  rcases List.mem_cons.1 hm with rfl | hm'
  ·rw [TS.giveL, if_pos rfl, List.filter_cons_of_neg (by simp)]
   congr 1
   congr 1
   exact (List.filter_eq_self.2 (fun r hr => by have := hgt r hr; simp only at this; simp only [decide_eq_true_eq]; omega)).symm
  ·have hx : x.1 ≠ p := fun e => by have := hgt _ hm'; simp only at this; omega
   rw [TS.giveL, if_neg hx, give_filter h.2.2.2 hm', List.filter_cons_of_pos (by simpa using hx)]
   rfl
theorem from_filter : ∀ {rs : List (Int × Int)} {lo : Int} (g : Int × Int → Bool), TS.From lo rs → TS.From lo (rs.filter g)
 | [], _, _, _ => trivial
 | x :: rs, lo, g, h => by
  have ih := from_filter g h.2.2.2
  rw [List.filter_cons]
  split
  ·exact ⟨h.1, h.2.1, h.2.2.1, ih⟩
  ·exact ih.mono (by have := h.1; have := h.2.1; omega)
section
variable {s : St} {p : Nat} {hd : Held}
theorem FrI.span_pg (h : FrI s) (hp : s.sp p = some hd) (i : Nat) (hi : i < 2 ^ clO hd.cls) : s.pg ((hd.frame + i : Nat) : Int) = some ((p + i : Nat) : Int) := (h.inv _ _).1 ((h.spn p hd hp).2.2.2.2.1 i hi)
theorem FrI.rel1 (h : FrI s) (hp : s.sp p = some hd) : FrI (rel1 s p) := by
 obtain ⟨a1, a2, a3, a4, a5, y, x, b1, b2, b3⟩ := h.spn p hd hp
 have hbd := h.bd b2 b3
 obtain ⟨Q, hQ⟩ : ∃ Q, 2 ^ clO hd.cls = Q := ⟨_, rfl⟩
 have hQ0 : 0 < Q := by rw [← hQ]; exact Nat.two_pow_pos _
 have hpg := h.span_pg hp
 rw [hQ] at a4 a5 hpg hbd
 have hy : hd.frame - hd.node * s.f = y := by omega
 have hbs : giveN s.f s.bs hd.node (hd.frame - hd.node * s.f) = s.bs.set hd.node (giveB s.f x y) := by
  unfold giveN
  rw [b2, hy]
 have hrel : T.rel1 s p = { s with bs := s.bs.set hd.node (giveB s.f x y), pf := unF s.pf p Q, pg := unF s.pg hd.frame Q, rs := s.rs.filter (fun r => decide (r.1 ≠ (p : Int))), sp := fun q => if q = p then none else s.sp q } := by
  unfold T.rel1
  rw [hp]
  simp only [hbs, hQ]
 rw [hrel]
 have hset : ∀ {k' x'}, (s.bs.set hd.node (giveB s.f x y))[k']? = some x' → (k' = hd.node ∧ x' = giveB s.f x y) ∨ (k' ≠ hd.node ∧ s.bs[k']? = some x') := fun hh => mem_set hh
 have hpf : ∀ q fr, unF s.pf p Q q = some fr → s.pf q = some fr ∧ ¬ ((p : Int) ≤ q ∧ q < p + Q) := fun q fr hq => by
  unfold unF at hq
  split at hq
  ·cases hq
  ·exact ⟨hq, by assumption⟩
 have hfr : ∀ q fr, s.pf q = some fr → ((p : Int) ≤ q ∧ q < p + Q ↔ (hd.frame : Int) ≤ fr ∧ fr < hd.frame + Q) := fun q fr hq => by
  constructor
  ·intro e
   have h1 := a5 (q - p).toNat (by omega)
   rw [show ((p + (q - p).toNat : Nat) : Int) = q from by omega, hq] at h1
   have := Option.some.inj h1
   omega
  ·intro e
   have h1 := hpg (fr - hd.frame).toNat (by omega)
   rw [show ((hd.frame + (fr - hd.frame).toNat : Nat) : Int) = fr from by omega, (h.inv _ _).1 hq] at h1
   have := Option.some.inj h1
   omega
 have hmem : ∀ r, r ∈ s.rs.filter (fun r => decide (r.1 ≠ (p : Int))) ↔ r ∈ s.rs ∧ r.1 ≠ p := fun r => by rw [List.mem_filter, decide_eq_true_eq]
 have hB : ∀ q, Big { s with bs := s.bs.set hd.node (giveB s.f x y), pf := unF s.pf p Q, pg := unF s.pg hd.frame Q, rs := s.rs.filter (fun r => decide (r.1 ≠ (p : Int))), sp := fun q => if q = p then none else s.sp q } q ↔ Big s q := fun q => by
  constructor
  ·rintro ⟨a, b, k1, k2, k3, k4⟩
   obtain ⟨k1, k5⟩ := (hmem _).1 k1
   have k4' : (if a.toNat = p then none else s.sp a.toNat) = none := k4
   have := h.run.all _ k1
   simp only at this k5
   rw [if_neg (by omega)] at k4'
   exact ⟨a, b, k1, k2, k3, k4'⟩
  ·rintro ⟨a, b, k1, k2, k3, k4⟩
   have hne : a.toNat ≠ p := fun e => by rw [e, hp] at k4; cases k4
   have := h.run.all _ k1
   simp only at this
   exact ⟨a, b, (hmem _).2 ⟨k1, by simp only; omega⟩, k2, k3, (if_neg hne).trans k4⟩
 have hother : ∀ q hq, s.sp q = some hq → q ≠ p → ∀ i, i < 2 ^ clO hq.cls → ¬ ((p : Int) ≤ ((q + i : Nat) : Int) ∧ ((q + i : Nat) : Int) < p + Q) := fun q hq hh hne i hi e => by
  have h1 := (h.spn q hq hh).2.2.2.1
  obtain ⟨e1, _⟩ := h.run.one a4 h1 (x := ((q + i : Nat) : Int)) e.1 e.2 (by omega) (by omega)
  omega
 refine ⟨by rw [List.length_set]; exact h.bl, fun k' x' hh => ?_, h.len, from_filter _ h.run, fun q fr => ?_, fun q fr hq => ?_, fun q hq hh => ?_, fun k' y' o x' hk hy' => ?_, fun q fr hq hb => ?_⟩
 ·rcases hset hh with ⟨rfl, rfl⟩ | ⟨_, hh⟩
  ·exact (h.bud _ x b2).give (o := clO hd.cls) b3
  ·exact h.bud _ _ hh
 ·show unF s.pf p Q q = some fr ↔ unF s.pg hd.frame Q fr = some q
  constructor
  ·intro e
   obtain ⟨e1, e2⟩ := hpf q fr e
   unfold unF
   rw [if_neg (fun e3 => e2 ((hfr q fr e1).2 e3))]
   exact (h.inv _ _).1 e1
  ·intro e
   unfold unF at e
   split at e
   ·cases e
   ·rename_i e2
    have e1 := (h.inv _ _).2 e
    unfold unF
    rw [if_neg (fun e3 => e2 ((hfr q fr e1).1 e3))]
    exact e1
 ·obtain ⟨e1, e2⟩ := hpf q fr hq
  obtain ⟨g1, g2, a, b, k1, k2, k3⟩ := h.dom q fr e1
  refine ⟨g1, g2, a, b, (hmem _).2 ⟨k1, fun e => ?_⟩, k2, k3⟩
  simp only at e
  subst e
  have := h.run.start k1 a4
  omega
 ·have hh' : (if q = p then none else s.sp q) = some hq := hh
  split at hh'
  ·cases hh'
  ·rename_i hne
   obtain ⟨c1, c2, c3, c4, c5, y', x', d1, d2, d3⟩ := h.spn q hq hh'
   refine ⟨c1, c2, c3, (hmem _).2 ⟨c4, by simp only; omega⟩, fun i hi => ?_, ?_⟩
   ·show unF s.pf p Q _ = _
    unfold unF
    rw [if_neg (hother q hq hh' hne i hi)]
    exact c5 i hi
   ·by_cases e : hq.node = hd.node
    ·rw [e, b2] at d2
     obtain rfl := Option.some.inj d2
     refine ⟨y', giveB s.f x y, d1, by rw [e]; exact get_set b2, ?_⟩
     show outF x.tk y y' = _
     unfold outF
     rw [if_neg (fun e1 => ?_)]
     ·exact d3
     ·have e2 : y' = y := by omega
      have h0 := c5 0 (Nat.two_pow_pos _)
      rw [Nat.add_zero, Nat.add_zero] at h0
      have h1 := (hfr _ _ h0).2 (by rw [d1, b1, e, e2]; omega)
      exact hother q hq hh' hne 0 (Nat.two_pow_pos _) (by rw [Nat.add_zero]; exact h1)
    ·exact ⟨y', x', d1, by rw [List.getElem?_set_ne (fun e' => e e'.symm)]; exact d2, d3⟩
 ·have key : ∃ x0, s.bs[k']? = some x0 ∧ x0.tk (y' : Int) = some (o : Int) ∧ ¬ (k' = hd.node ∧ y' = y) := by
   rcases hset hk with ⟨rfl, rfl⟩ | ⟨hne, hh⟩
   ·have hy2 : outF x.tk y y' = some (o : Int) := hy'
    unfold outF at hy2
    split at hy2
    ·cases hy2
    ·rename_i hne
     exact ⟨x, b2, hy2, fun e => hne (by rw [e.2])⟩
   ·exact ⟨x', hh, hy', fun e => hne e.1⟩
  obtain ⟨x0, g1, g2, g3⟩ := key
  have hbd2 := h.bd g1 g2
  rcases h.tak k' y' o x0 g1 g2 with ⟨q, hq, m1, m2, m3, m4⟩ | ⟨h0, q, hq, hb⟩
  ·refine .inl ⟨q, hq, (if_neg (fun e => ?_)).trans m1, m2, m3, m4⟩
   rw [e, hp] at m1
   obtain rfl := Option.some.inj m1
   rw [m2] at b1
   exact g3 ⟨m2.symm, by omega⟩
  ·refine .inr ⟨h0, q, ?_, (hB q).2 hb⟩
   show unF s.pf p Q q = _
   unfold unF
   rw [if_neg (fun e => ?_)]
   ·exact hq
   ·obtain ⟨a, b, k1, k2, k3, k4⟩ := hb
    obtain ⟨e1, _⟩ := h.run.one a4 k1 (x := q) e.1 e.2 k2 k3
    subst e1
    rw [Int.toNat_natCast, hp] at k4
    cases k4
 ·obtain ⟨e1, e2⟩ := hpf q fr hq
  obtain ⟨k', y', x', c1, c2, c3⟩ := h.big q fr e1 ((hB q).1 hb)
  by_cases e : k' = hd.node
  ·subst e
   rw [b2] at c2
   obtain rfl := Option.some.inj c2
   refine ⟨hd.node, y', giveB s.f x y, c1, get_set b2, ?_⟩
   show outF x.tk y y' = _
   unfold outF
   rw [if_neg (fun e => ?_)]
   ·exact c3
   ·have e3 : y' = y := by omega
    subst e3
    have := (hfr q fr e1).2 (by rw [c1, b1]; omega)
    exact e2 this
  ·exact ⟨k', y', x', c1, by rw [List.getElem?_set_ne (fun e' => e e'.symm)]; exact c2, c3⟩
end
theorem rel1_at {s : St} {p : Nat} {hd : Held} (hp : s.sp p = some hd) : rel1 s p = { s with bs := giveN s.f s.bs hd.node (hd.frame - hd.node * s.f), pf := unF s.pf p (2 ^ clO hd.cls), pg := unF s.pg hd.frame (2 ^ clO hd.cls), rs := s.rs.filter (fun r => decide (r.1 ≠ (p : Int))), sp := fun q => if q = p then none else s.sp q } := by
 unfold rel1
 rw [hp]
theorem Mi.rel {E t : Nat} {s : St} {H : List Int} (h : Mi E t s H) {p : Nat} {hd : Held} (hp : s.sp p = some hd) (h0 : hd.tk = 0) : Mi E t (rel1 s p) H := by
 have hF := h.fr.rel1 hp
 rw [rel1_at hp] at hF ⊢
 obtain ⟨s', hs'⟩ : ∃ s', s' = { s with bs := giveN s.f s.bs hd.node (hd.frame - hd.node * s.f), pf := unF s.pf p (2 ^ clO hd.cls), pg := unF s.pg hd.frame (2 ^ clO hd.cls), rs := s.rs.filter (fun r => decide (r.1 ≠ (p : Int))), sp := fun q => if q = p then none else s.sp q } := ⟨_, rfl⟩
 have hmem : ∀ r, r ∈ s'.rs ↔ r ∈ s.rs ∧ r.1 ≠ p := fun r => by rw [hs']; show r ∈ s.rs.filter _ ↔ _; rw [List.mem_filter, decide_eq_true_eq]
 have hsp : ∀ q, s'.sp q = if q = p then none else s.sp q := fun q => by rw [hs']
 have hS : ∀ x c, Slot s' x c ↔ Slot s x c := fun x c => by
  constructor
  ·rintro ⟨q, hq, i, h1, h2⟩
   rw [hsp] at h1
   split at h1
   ·cases h1
   ·exact ⟨q, hq, i, h1, h2⟩
  ·rintro ⟨q, hq, i, h1, h2, h3, h4, h5⟩
   refine ⟨q, hq, i, ?_, h2, h3, h4, h5⟩
   rw [hsp, if_neg (fun e => ?_)]
   ·exact h1
   ·rw [e, hp] at h1
    obtain rfl := Option.some.inj h1
    rw [h0, Nat.zero_testBit] at h4
    cases h4
 have e1 : s'.live = s.live := by rw [hs']
 have e2 : homes s' = homes s := by rw [hs']; rfl
 rw [← hs'] at hF ⊢
 refine ⟨by rw [hs']; exact ⟨h.co.n1, h.co.n8, h.co.f2, h.co.chk, h.co.c16, h.co.cpl, h.co.cpu, h.co.mn, h.co.ql, h.co.pn, h.co.sn, h.co.ln, h.co.ev, h.co.t1, fun r hr => h.co.top r (List.mem_filter.1 hr).1⟩, hF, ⟨fun q hq hh => ?_, fun y sz hy => ?_, fun q n hq hs => ?_, by rw [e2]; exact h.ob.nod, fun x => ?_, fun j c k x hc hk hx => (hS x k).2 (h.ob.cch j c k x (by rw [hs'] at hc; exact hc) hk hx), fun j c k hc hk => h.ob.clen j c k (by rw [hs'] at hc; exact hc) hk, fun q hq => h.ob.qlen q (by rw [hs'] at hq; exact hq), fun q pol hq => ?_⟩⟩
 ·rw [hsp] at hh
  split at hh
  ·cases hh
  ·exact h.ob.tk q hq hh
 ·rw [e1] at hy
  obtain ⟨k1, k2, k3, k4⟩ := h.ob.live y sz hy
  refine ⟨k1, k2, fun hz => (hS _ _).2 (k3 hz), fun hz => ?_⟩
  obtain ⟨q, g1, g2, g3⟩ := k4 hz
  have hne : q ≠ p := fun e => by rw [e, hp] at g3; cases g3
  exact ⟨q, g1, (hmem _).2 ⟨g2, by simp only; omega⟩, by rw [hsp, if_neg hne]; exact g3⟩
 ·obtain ⟨g1, g2⟩ := (hmem _).1 hq
  have := h.fr.run.all _ g1
  simp only at this g2
  rw [hsp, if_neg (by omega)] at hs
  rw [e1]
  exact h.ob.runs q n g1 hs
 ·rw [e2, e1]
  simp only [hS]
  exact h.ob.hom x
 ·have hq' : s.bm q = some pol := by rw [hs'] at hq; exact hq
  obtain ⟨k1, a, b, k2, k3, k4, k5⟩ := h.ob.book q pol hq'
  have hne : a.toNat ≠ p := fun e => by rw [e, hp] at k5; cases k5
  have := h.fr.run.all _ k2
  simp only at this
  refine ⟨by rw [hs']; exact k1, a, b, (hmem _).2 ⟨k2, by simp only; omega⟩, k3, k4, by rw [hsp, if_neg hne]; exact k5⟩
theorem giveB_comm (f : Nat) (x : Bud) (y z : Nat) : giveB f (giveB f x y) z = giveB f (giveB f x z) y := by
 unfold giveB
 have : outF (outF x.tk y) z = outF (outF x.tk z) y := by
  funext q
  unfold outF
  split <;> split <;> rfl
 simp only [this]
theorem giveN_comm (f : Nat) (bs : List Bud) (k y k' y' : Nat) : giveN f (giveN f bs k y) k' y' = giveN f (giveN f bs k' y') k y := by
 unfold giveN
 by_cases e : k = k'
 ·subst e
  cases h : bs[k]? with
  | none => simp only [h]
  | some x =>
   have hl := (List.getElem?_eq_some_iff.1 h).1
   simp only [List.getElem?_set_self hl, List.set_set, giveB_comm]
 ·cases h : bs[k]? with
  | none =>
   cases h' : bs[k']? with
   | none => simp only [h]
   | some x' => simp only [List.getElem?_set_ne (fun e' => e e'.symm), h]
  | some x =>
   cases h' : bs[k']? with
   | none => simp only [List.getElem?_set_ne e, h', h]
   | some x' => simp only [List.getElem?_set_ne e, List.getElem?_set_ne (fun e' => e e'.symm), h, h', List.set_comm _ _ e]
theorem unF_comm (f : Int → Option Int) (x : Int) (n : Nat) (y : Int) (m : Nat) : unF (unF f x n) y m = unF (unF f y m) x n := by
 funext z
 unfold unF
 split <;> split <;> rfl
theorem rel1_comm (s : St) (p q : Nat) : rel1 (rel1 s p) q = rel1 (rel1 s q) p := by
 by_cases e : p = q
 ·subst e; rfl
 cases hp : s.sp p with
 | none =>
  have h1 : rel1 s p = s := by unfold rel1; rw [hp]
  rw [h1]
  have h2 : (rel1 s q).sp p = none := by
   cases hq : s.sp q with
   | none => unfold rel1; rw [hq]; exact hp
   | some hd => rw [rel1_at hq]; show (if p = q then none else s.sp p) = none; rw [if_neg e]; exact hp
  unfold rel1 at h2 ⊢
  rw [h2]
 | some hd =>
  cases hq : s.sp q with
  | none =>
   have h1 : rel1 s q = s := by unfold rel1; rw [hq]
   rw [h1]
   have h2 : (rel1 s p).sp q = none := by rw [rel1_at hp]; show (if q = p then none else s.sp q) = none; rw [if_neg (fun e' => e e'.symm)]; exact hq
   unfold rel1 at h2 ⊢
   rw [h2]
  | some hd' =>
   have h1 : (rel1 s p).sp q = some hd' := by rw [rel1_at hp]; show (if q = p then none else s.sp q) = _; rw [if_neg (fun e' => e e'.symm)]; exact hq
   have h2 : (rel1 s q).sp p = some hd := by rw [rel1_at hq]; show (if p = q then none else s.sp p) = _; rw [if_neg e]; exact hp
   rw [rel1_at h1, rel1_at h2, rel1_at hp, rel1_at hq]
   simp only
   rw [giveN_comm, unF_comm, unF_comm s.pg, List.filter_filter, List.filter_filter]
   congr 1
   ·exact List.filter_congr (fun r _ => Bool.and_comm _ _)
   ·funext z
    split <;> split <;> rfl
def deadP (s : St) : List Nat := (List.range 4096).filter fun p => match s.sp p with | some hd => decide (hd.tk = 0) | none => false
def relS (s : St) : St := (deadP s).foldl rel1 s
theorem dead_mem {s : St} {p : Nat} : p ∈ deadP s ↔ p < 4096 ∧ ∃ hd, s.sp p = some hd ∧ hd.tk = 0 := by
 unfold deadP
 rw [List.mem_filter, List.mem_range]
 cases s.sp p with
 | none => simp
 | some hd => simp
theorem fold_perm {l l' : List Nat} (h : l.Perm l') (s : St) : l.foldl rel1 s = l'.foldl rel1 s := h.foldl_eq' (fun x _ y _ z => rel1_comm z x y) s
theorem fold_sp (l : List Nat) : ∀ (s : St) (p : Nat), p ∉ l → (l.foldl rel1 s).sp p = s.sp p := by
 induction l with
 | nil => exact fun _ _ _ => rfl
 | cons q l ih =>
  intro s p hp
  rw [List.foldl_cons, ih _ _ (fun h => hp (List.mem_cons_of_mem _ h))]
  cases hq : s.sp q with
  | none => unfold rel1; rw [hq]
  | some hd => rw [rel1_at hq]; exact if_neg (fun e => hp (by rw [e]; exact List.mem_cons_self))
theorem Mi.fold {E t : Nat} {H : List Int} : ∀ {l : List Nat} {s : St}, l.Nodup → (∀ p ∈ l, ∃ hd, s.sp p = some hd ∧ hd.tk = 0) → Mi E t s H → Mi E t (l.foldl rel1 s) H
 | [], _, _, _, h => h
 | p :: l, s, hn, hl, h => by
  obtain ⟨hd, h1, h2⟩ := hl p List.mem_cons_self
  have hn' := List.nodup_cons.1 hn
  refine Mi.fold (s := rel1 s p) hn'.2 (fun q hq => ?_) (h.rel h1 h2)
  obtain ⟨hd', g1, g2⟩ := hl q (List.mem_cons_of_mem _ hq)
  refine ⟨hd', ?_, g2⟩
  rw [rel1_at h1]
  exact (if_neg (fun e => hn'.1 (by rw [← e]; exact hq))).trans g1
theorem dead_nodup (s : St) : (deadP s).Nodup := List.Nodup.sublist List.filter_sublist List.nodup_range
theorem Mi.release {E t : Nat} {s : St} {H : List Int} (h : Mi E t s H) : Mi E t (relS s) H := Mi.fold (dead_nodup s) (fun p hp => (dead_mem.1 hp).2) h
end Go.Proofs.YtenkdmloolbdaaaGreatDoor.T
end
section
namespace Go.Proofs.YtenkdmloolbdaaaGreatDoor.T
open Go.RowKit Go.Maps Go.WideShapes Go.Proofs.YtenkdmloolbdaaaGreatDoorW.PrintWords Go.Proofs.YtenkdmloolbdaaaGreatDoorW.PrintLast Go.Proofs.YtenkdmloolbdaaaGreatDoorW.PrintMore
theorem space_give {κ : Kol} {i g : Nat} {w : World} {rs l : List (Int × Int)} (p n : Int) (ht : TS.giveL p rs = some (n, l)) (h : SpK κ i w g rs) :
 Calls Tryz.prog 114 #[.pointer (some ⟨g, 0, none⟩), .int .i64 p] w fun e w' => e = .returned (.tuple #[.int .i64 n, .int .i64 0]) ∧ SpK κ i w' g l ∧ Upd (fun c => c = i ∨ c = i + 1) κ w κ w' := by
 obtain ⟨A, c, hs, h1, h2⟩ := h
 have hg : g < w.heap.size := (Array.getElem?_eq_some_iff.1 hs.cell).1
 refine (TS.give_is 0 g A c rs l p n w ht hs).mono ?_
 rintro e w' ⟨c', rfl, q1, q2⟩
 exact ⟨rfl, ⟨A, c', q1, h1, h2⟩, fun b hb => rfl, ⟨q2.os, q2.tape, q2.output, q2.size, fun b hb hne => q2.block b hb (fun e => hne (.inl (by rw [e]; exact h1))) (fun e => hne (.inr (h2 b e.symm)))⟩⟩
theorem MachK.delSp {κ : Kol} {w : World} {m : Nat} {a : Ad} {s : St} (h : MachK κ w m a s) {it cnt : Nat} {D : DataW Unit} {left : Lit → Bool} (hr : w.ranges Tryz.prog 3 ptrElem a.sb it s.sn D left cnt) (p : Nat) (hp : p < 4096) :
 ∃ w1 cnt', (Builtin.delete_ #[126, 3] 0 #[.map (some a.sb), .int .i64 (p : Int)]).run Tryz.prog w = .ok (.tuple #[]) w1 ∧ w1.ranges Tryz.prog 3 ptrElem a.sb it s.sn (D.del (.int .i64 (p : Int))) (fun z => left z && !z.sameKey (.int .i64 (p : Int))) cnt' ∧ cnt' ≤ cnt ∧ MachK κ w1 m a { s with sp := fun q => if q = p then none else s.sp q } ∧ Upd (· = 143) κ w κ w1 := by
 obtain ⟨w1, cnt', hrun, r1, r2, r3⟩ := hr.drop int_law Tryz.underlying126 (keyOf_int_mk Tryz.underlying3 (i64o (p : Int) (by omega) (by omega))) 0
 obtain ⟨f, hP, hdom, hall⟩ := h.sp
 have hP0 := hP
 obtain ⟨hk, D', ho, hv⟩ := hP
 obtain rfl := own_uniq ho hr.owns
 have hU : Upd (· = 143) κ w κ w1 := Upd.of_turned r3 hk
 refine ⟨w1, cnt', hrun, r1, r2, ?_, hU⟩
 refine h.putSpans s.sn _ ⟨outP f (p : Int), ⟨hk, _, r1.owns, hv.del _⟩, fun x hx => ?_, fun q => ⟨fun hq => ?_, fun z hz => ?_⟩⟩ (hU.mono (fun c e => .inl e))
 ·unfold outP at hx
  split at hx
  ·cases hx
  ·exact hdom x hx
 ·unfold outP
  split
  ·rfl
  ·rename_i hne
   refine (hall q).1 ?_
   have hq' : (if q = p then none else s.sp q) = none := hq
   rw [if_neg (fun e => hne (by rw [e]))] at hq'
   exact hq'
 ·have hz' : (if q = p then none else s.sp q) = some z := hz
  split at hz'
  ·cases hz'
  ·rename_i hne
   obtain ⟨b, hb, hh⟩ := (hall q).2 z hz'
   refine ⟨b, ?_, hh.upd hU (by omega) (by omega)⟩
   unfold outP
   rw [if_neg (fun e => hne (by omega))]
   exact hb
def deadB (s : St) (p : Nat) : Bool := match s.sp p with | some hd => decide (hd.tk = 0) | none => false
theorem ones_zero : ∀ tk : Nat, tk < 256 → decide (Lib.onesCount tk = 0) = decide (tk = 0) := by decide +kernel
def curS_ (s : St) (vis : List Nat) : St := (vis.filter (deadB s)).foldl rel1 s
theorem cur_same (s : St) : ∀ l : List Nat, (l.foldl rel1 s).sn = s.sn ∧ (l.foldl rel1 s).n = s.n ∧ (l.foldl rel1 s).f = s.f := by
 intro l
 induction l generalizing s with
 | nil => exact ⟨rfl, rfl, rfl⟩
 | cons p l ih =>
  obtain ⟨h1, h2, h3⟩ := ih (rel1 s p)
  have : (rel1 s p).sn = s.sn ∧ (rel1 s p).n = s.n ∧ (rel1 s p).f = s.f := by
   unfold rel1
   split <;> exact ⟨rfl, rfl, rfl⟩
  rw [List.foldl_cons, h1, h2, h3]
  exact this
structure RelRe (κ : Kol) (w : World) (m : Nat) (a : Ad) (s : St) (it : Nat) (wr : World) (left : Lit → Bool) (cnt : Nat) (D : DataW Unit) (vis : List Nat) (κ' : Kol) : Prop where
 rg : wr.ranges Tryz.prog 3 ptrElem a.sb it s.sn D left cnt
 has : ∀ kl, left kl = true → Maps.has D kl = true
 new : ∀ p : Nat, left (.int .i64 (p : Int)) = true → p ∉ vis
 all : ∀ p : Nat, (s.sp p).isSome = true → left (.int .i64 (p : Int)) = true ∨ p ∈ vis
 nod : vis.Nodup
 sub : ∀ p ∈ vis, p < 4096 ∧ (s.sp p).isSome = true
 mach : MachK κ' wr m a (curS_ s vis)
 kit : κ' it = 0
 upd : Upd (fun z => 1 ≤ z) κ w κ' wr
def RelRl (κ : Kol) (w : World) (m : Nat) (a : Ad) (s : St) (it : Nat) (v3 : Value) (wr : World) : Prop :=
 ∃ left cnt D vis κ', v3 = .int .i64 ((vis.filter (deadB s)).length : Int) ∧ RelRe κ w m a s it wr left cnt D vis κ'
section
variable {κ : Kol} {w : World} {m : Nat} {a : Ad} {s : St} {it : Nat} {wr : World} {left : Lit → Bool} {cnt : Nat} {D : DataW Unit} {vis : List Nat} {κ' : Kol}
theorem RelRe.mi {E t : Nat} {H : List Int} (h : RelRe κ w m a s it wr left cnt D vis κ') (hI : Mi E t s H) : Mi E t (curS_ s vis) H := by
 refine Mi.fold (List.Nodup.sublist List.filter_sublist h.nod) (fun p hp => ?_) hI
 obtain ⟨_, h2⟩ := List.mem_filter.1 hp
 unfold deadB at h2
 split at h2
 ·rename_i hd hh
  exact ⟨hd, hh, of_decide_eq_true h2⟩
 ·cases h2
theorem RelRe.spn (h : RelRe κ w m a s it wr left cnt D vis κ') {p : Nat} (hp : left (.int .i64 (p : Int)) = true) : (curS_ s vis).sp p = s.sp p := fold_sp _ s p (fun e => h.new p hp (List.mem_filter.1 e).1)
theorem RelRe.done (h : RelRe κ w m a s it wr left cnt D vis κ') (hl : ∀ kl, left kl = false) : (vis.filter (deadB s)).length = (deadP s).length ∧ curS_ s vis = relS s := by
 have hp : (vis.filter (deadB s)).Perm (deadP s) := by
  refine (List.perm_ext_iff_of_nodup (List.Nodup.sublist List.filter_sublist h.nod) (dead_nodup s)).2 (fun p => ?_)
  rw [List.mem_filter, dead_mem]
  constructor
  ·rintro ⟨h1, h2⟩
   refine ⟨(h.sub p h1).1, ?_⟩
   unfold deadB at h2
   split at h2
   ·rename_i hd hh
    exact ⟨hd, hh, of_decide_eq_true h2⟩
   ·cases h2
  ·rintro ⟨h1, hd, h2, h3⟩
   refine ⟨(h.all p (by rw [h2]; rfl)).resolve_left (by rw [hl]; simp), ?_⟩
   unfold deadB
   rw [h2]
   exact decide_eq_true h3
 exact ⟨hp.length_eq, fold_perm hp s⟩
theorem RelRe.pass (h : RelRe κ w m a s it wr left cnt D vis κ') {p cnt2 : Nat} {w5 : World} (hrg : w5.ranges Tryz.prog 3 ptrElem a.sb it s.sn D (fun z => left z && !z.sameKey (.int .i64 (p : Int))) cnt2) (hp : p < 4096) (hs : (s.sp p).isSome = true) (hl : left (.int .i64 (p : Int)) = true) (hm : MachK κ' w5 m a (curS_ s vis)) (hU : Upd (fun z => 1 ≤ z) κ w κ' w5) (hd : deadB s p = false) :
 RelRe κ w m a s it w5 (fun z => left z && !z.sameKey (.int .i64 (p : Int))) cnt2 D (vis ++ [p]) κ' ∧ (vis ++ [p]).filter (deadB s) = vis.filter (deadB s) := by
 have e : (vis ++ [p]).filter (deadB s) = vis.filter (deadB s) := by
  rw [List.filter_append, List.filter_cons_of_neg (by rw [hd]; simp)]
  simp
 refine ⟨⟨hrg, fun kl hk => h.has kl (by simp only [Bool.and_eq_true] at hk; exact hk.1), fun q hq hm => ?_, fun q hq => ?_, ?_, fun q hq => ?_, by unfold curS_; rw [e]; exact hm, h.kit, hU⟩, e⟩
 ·simp only [Bool.and_eq_true, Bool.not_eq_true'] at hq
  rcases List.mem_append.1 hm with hm | hm
  ·exact h.new q hq.1 hm
  ·rw [List.mem_singleton.1 hm] at hq
   simp [Lit.sameKey] at hq
 ·rcases h.all q hq with h1 | h1
  ·by_cases e : q = p
   ·exact .inr (by rw [e]; simp)
   ·refine .inl ?_
    rw [h1, Bool.true_and, Bool.not_eq_true']
    exact Maps.sameKey_ne (fun e' => e (by injection e' with _ e'; omega))
  ·exact .inr (List.mem_append_left _ h1)
 ·exact List.nodup_append.2 ⟨h.nod, by simp, fun x hx y hy => by rw [List.mem_singleton.1 hy]; exact fun e => h.new p hl (e ▸ hx)⟩
 ·rcases List.mem_append.1 hq with hq | hq
  ·exact h.sub q hq
  ·rw [List.mem_singleton.1 hq]; exact ⟨hp, hs⟩
end
theorem RelRe.gone {κ : Kol} {w : World} {m : Nat} {a : Ad} {s : St} {it : Nat} {wr : World} {left : Lit → Bool} {cnt : Nat} {D : DataW Unit} {vis : List Nat} {κ' κ2 : Kol} (h : RelRe κ w m a s it wr left cnt D vis κ') {p cnt2 : Nat} {w5 : World} (hrg : w5.ranges Tryz.prog 3 ptrElem a.sb it s.sn (D.del (.int .i64 (p : Int))) (fun z => (left z && !z.sameKey (.int .i64 (p : Int))) && !z.sameKey (.int .i64 (p : Int))) cnt2) (hp : p < 4096) (hs : (s.sp p).isSome = true) (hl : left (.int .i64 (p : Int)) = true) (hm : MachK κ2 w5 m a (rel1 (curS_ s vis) p)) (hk : κ2 it = 0) (hU : Upd (fun z => 1 ≤ z) κ w κ2 w5) (hd : deadB s p = true) :
 ∃ left', RelRe κ w m a s it w5 left' cnt2 (D.del (.int .i64 (p : Int))) (vis ++ [p]) κ2 ∧ ((vis ++ [p]).filter (deadB s)).length = (vis.filter (deadB s)).length + 1 := by
 rw [Maps.strike_twice] at hrg
 have e : (vis ++ [p]).filter (deadB s) = vis.filter (deadB s) ++ [p] := by
  rw [List.filter_append, List.filter_cons_of_pos hd]
  simp
 refine ⟨_, ⟨hrg, fun kl hk => ?_, fun q hq hm => ?_, fun q hq => ?_, ?_, fun q hq => ?_, by unfold curS_; rw [e, List.foldl_append]; exact hm, hk, hU⟩, by rw [e]; simp⟩
 ·simp only [Bool.and_eq_true, Bool.not_eq_true'] at hk
  rw [has_del_other (fun e' => by rw [e'] at hk; simp [Lit.sameKey] at hk)]
  exact h.has kl hk.1
 ·simp only [Bool.and_eq_true, Bool.not_eq_true'] at hq
  rcases List.mem_append.1 hm with hm | hm
  ·exact h.new q hq.1 hm
  ·rw [List.mem_singleton.1 hm] at hq
   simp [Lit.sameKey] at hq
 ·rcases h.all q hq with h1 | h1
  ·by_cases e : q = p
   ·exact .inr (by rw [e]; simp)
   ·refine .inl ?_
    rw [h1, Bool.true_and, Bool.not_eq_true']
    exact Maps.sameKey_ne (fun e' => e (by injection e' with _ e'; omega))
  ·exact .inr (List.mem_append_left _ h1)
 ·exact List.nodup_append.2 ⟨h.nod, by simp, fun x hx y hy => by rw [List.mem_singleton.1 hy]; exact fun e => h.new p hl (e ▸ hx)⟩
 ·rcases List.mem_append.1 hq with hq | hq
  ·exact h.sub q hq
  ·rw [List.mem_singleton.1 hq]; exact ⟨hp, hs⟩
theorem nodup_le {l : List Nat} {N : Nat} (h : l.Nodup) (hl : ∀ p ∈ l, p < N) : l.length ≤ N := by
 have hp : l.Perm ((List.range N).filter fun p => decide (p ∈ l)) := (List.perm_ext_iff_of_nodup h (List.Nodup.sublist List.filter_sublist List.nodup_range)).2 (fun p => by
  rw [List.mem_filter, List.mem_range, decide_eq_true_eq]
  exact ⟨fun hp => ⟨hl p hp, hp⟩, fun hp => hp.2⟩)
 rw [hp.length_eq]
 exact Nat.le_trans (List.length_filter_le _ _) (by simp)
def RelUn (κ5 : Kol) (w5 : World) (m : Nat) (a : Ad) (s : St) (p fr Q : Nat) (v30 : Value) (wr : World) : Prop :=
 ∃ i : Nat, v30 = .int .i64 i ∧ i ≤ Q ∧ MachK κ5 wr m a { s with l := s.l, pn := s.pn, pf := unF s.pf p i, pg := unF s.pg fr i } ∧ Upd (fun z => 3 ≤ z ∧ z < 8) κ5 w5 κ5 wr
theorem release_own (E t : Nat) (H : List Int) (m : Nat) (a : Ad) (s : St) (hI : Mi E t s H) :
 Do 55 #[.pointer (some ⟨m, 0, none⟩)] m a s (relS s) (.int .i64 ((deadP s).length : Int)) := by
 intro κ w hg h
 have hP0 := (Upd.refl (fun _ => False) κ w).paint w.heap.size 0 (Nat.le_refl _)
 obtain ⟨κ1, hκ1⟩ : ∃ κ1, κ.ext w.heap.size 0 = κ1 := ⟨_, rfl⟩
 rw [hκ1] at hP0
 have h1 := h.upd hP0 (fun _ _ h => h)
 have HIT := ak (show κ1 w.heap.size = 0 by rw [← hκ1]; exact Kol.ext_new κ (Nat.le_refl _))
 have HM := ak h1
 have HU := ak (hP0.mono (J := fun z => 1 ≤ z) (fun c e => e.elim))
 have HI := ak hI
 have c11 := h1.c11
 obtain ⟨f, ⟨hk, D, hown, hv⟩, hf2, hf3⟩ := h1.sp
 have HOW := ak hown
 have HV0 := ak (show ∀ q hd, s.sp q = some hd → Maps.has D (.int .i64 ((q : Nat) : Int)) = true from fun q hd hq => by
  obtain ⟨b, hb, _⟩ := (hf3 q).2 hd hq
  have hI := hf2 (q : Int) (by rw [hb]; rfl)
  rw [(hv (q : Int) (i64o _ (by omega) (by omega))).1, hb]
  rfl)
 clear hk hown hv hf2 hf3 hP0 h h1 hg hκ1 hI
 go_enter Tryz.func55, Tryz.ntmps55
 go_wp2_with (at_range; refine wpList_range_own _ rfl _ 126 rfl 3 139 int_law Tryz.underlying126 _ a.sb s.sn D rfl HOW.1 ?_; intro w0 hrg0 hg0 hs0; have HRG := ak hrg0; have HG0 := ak hg0; clear hrg0 hg0 hs0)
 have hB2 : RowKit.Below w.heap.size w w0 := ⟨HG0.1.os, HG0.1.tape, HG0.1.output, HG0.1.size, fun k hk => HG0.1.block k hk (by simp)⟩
 have H0 := ak (show RelRl κ w m a s w.heap.size (.int .i64 0) w0 from ⟨_, _, D, [], κ1, rfl, HRG.1, fun _ h => h, fun _ _ h => (by cases h), fun p hp => (by obtain ⟨hd, hh⟩ := Option.isSome_iff_exists.1 hp; exact .inl (HV0.1 p hd hh)), List.nodup_nil, fun _ h => (by cases h), HM.1.below hB2, HIT.1, HU.1.below hB2⟩)
 clear HG0 HRG hB2 HM HU c11
 go_frame
 go_loopw [3, 4, 5, 6] (fun v3 _ _ _ wr => RelRl κ w m a s w.heap.size v3 wr) (fun _ _ _ _ wr => wr.rangeLeft a.sb w.heap.size)
 case atStart => exact H0.1
 case round =>
  clear H0
  obtain ⟨left, cnt, D1, vis, κ', rfl, hrel⟩ := hrel
  have HR := ak hrel
  have HLE := ak hrel.rg.left_eq
  clear hrel
  go_upto_region 7 with (at_next; refine wpList_next_ranges _ rfl _ rfl 3 int_law ptrElem (Value.int .i64) ptrV (fun key kl hk => by obtain ⟨x, rfl, _⟩ := Maps.keyOf_int_inv Tryz.underlying3 hk; exact ⟨x, rfl⟩) (fun v y hv => ptr_shape hv) a.sb w.heap.size s.sn D1 left cnt rfl HR.1.rg ?_ ?_; all_goals (first | (intro (hc0 : cnt = 0) hl0; have HL0 := ak hl0; clear hc0 hl0) | (intro x o kl y w5 cnt2 hk hlk hR hat hrg5 hlt5 hg5 hs5 hen; obtain ⟨x', ex, rfl, hwx⟩ := Maps.keyOf_int_inv Tryz.underlying3 hk; cases ex; have hu5 : Upd (· = 0) κ' wr κ' w5 := ⟨fun _ _ => rfl, hg5.os, hg5.tape, hg5.output, hg5.size, fun b hb hne => hg5.block b hb (fun e => hne (by rw [Option.some.inj e]; exact HR.1.kit))⟩; have hm5 := HR.1.mach.upd hu5 (by omega); obtain ⟨pg, hd, qx, rfl, hp4, hsp, rfl, hhk, hsa⟩ := span_came hm5 (RowKit.Below.refl _ _) hrg5 hwx (HR.1.has _ hlk) hR hat; rw [HR.1.spn hlk] at hsp; have H5 := ak (And.intro hrg5 hlt5); have HM5 := ak hm5; have HU5 := ak (show Upd (fun z => 1 ≤ z) κ w κ' w5 from ⟨HR.1.upd.kol, hg5.os.trans HR.1.upd.chg.os, hg5.tape.trans HR.1.upd.chg.tape, hg5.output.trans HR.1.upd.chg.output, Nat.le_trans HR.1.upd.chg.size hg5.size, fun b hb hne => (hg5.block b (Nat.lt_of_lt_of_le hb HR.1.upd.chg.size) (fun e => by have e1 := Option.some.inj e; omega)).trans (HR.1.upd.chg.block b hb hne)⟩); have HS5 := ak (And.intro hp4 (And.intro hsp hlk)); have HHK := ak hhk; change (Instr.entry (.pointer (some ⟨w.heap.size, 0, none⟩))).run Tryz.prog w5 = .ok (.tuple #[.int .i64 (pg : Int), .pointer (some ⟨qx, 0, none⟩)]) w5 at hen; clear hk hlk hR hat hrg5 hlt5 hg5 hs5 hwx hp4 hsp hhk hsa hu5 hm5)))
  ·go_ret
   obtain ⟨e1, e2⟩ := HR.1.done HL0.1
   have hmf := HR.1.mach
   rw [e2] at hmf
   exact ⟨by rw [← e1]; rfl, κ', hmf, HR.1.upd⟩
  ·have hmi := HR.1.mi HI.1
   have hcp : (curS_ s vis).sp pg = some hd := (HR.1.spn HS5.1.2.2).trans HS5.1.2.1
   obtain ⟨a1, a2, a3, a4, a5, y2, x2, b1, b2, b3⟩ := hmi.fr.spn pg hd hcp
   have htl := tk_lt a1 (hmi.ob.tk pg hd hcp)
   obtain ⟨sb, k1, k2⟩ := HHK.1
   have s0 := k1.blk.at 0 (.pointer (some ⟨sb, 0, none⟩)) rfl
   have HEM := ak (span_empty sb hd.cls hd.tk htl w5 k2.blk)
   rw [ones_zero hd.tk htl] at HEM
   by_cases h0 : hd.tk = 0
   ·have d0 : decide (hd.tk = 0) = true := decide_eq_true h0
    rw [d0] at HEM
    have HDB := ak (show deadB s pg = true from by unfold deadB; rw [HS5.1.2.1]; exact d0)
    have hsame := cur_same s (vis.filter (deadB s))
    have hsn : (curS_ s vis).sn = s.sn := hsame.1
    have hcnt : (vis.filter (deadB s)).length ≤ 4096 := Nat.le_trans (List.length_filter_le _ _) (nodup_le HR.1.nod (fun p hp => (HR.1.sub p hp).1))
    have hmm := HM5.1
    obtain ⟨s1, hs1⟩ : ∃ s1, curS_ s vis = s1 := ⟨_, rfl⟩
    obtain ⟨o, ho⟩ : ∃ o, clO hd.cls = o := ⟨_, rfl⟩
    have ho2 : o ≤ 2 := by rw [← ho]; exact (by decide : ∀ c : Nat, c < 4 → clO c ≤ 2) _ a1
    obtain ⟨Q, hQ⟩ : ∃ Q, 2 ^ o = Q := ⟨_, rfl⟩
    have ES := ak (show wrap64 ((2 : Int) ^ min o 64) = ((2 ^ o : Nat) : Int) from by rw [Nat.min_eq_left (by omega)]; exact shl_64 o (by omega))
    obtain ⟨C, hC⟩ : ∃ C, (vis.filter (deadB s)).length = C := ⟨_, rfl⟩
    have hfin := rel1_at hcp
    rw [hs1] at hmi hcp a3 a4 a5 b1 b2 hsn hmm hfin
    rw [ho] at a2 a4 a5 b3 hfin
    rw [hQ] at a4 a5 ES hfin
    rw [hC] at hcnt ⊢
    have hgl := give_filter hmi.fr.run a4
    have hbi := hmi.fr.bud _ _ b2
    have hyy : hd.frame - hd.node * s1.f = y2 := by omega
    have hgn : giveN s1.f s1.bs hd.node (hd.frame - hd.node * s1.f) = s1.bs.set hd.node (giveB s1.f x2 y2) := by
     unfold giveN
     rw [b2, hyy]
    rw [hgn] at hfin
    have hfrn : hd.frame + Q ≤ 100000 := by
     have h9 := hmi.fr.dom _ _ (a5 (Q - 1) (by have := Nat.two_pow_pos o; omega))
     have h8 : s1.n * s1.f ≤ 8 * 1024 := Nat.mul_le_mul hmi.co.n8 (p2_le _ hmi.co.f2).2
     have := Nat.two_pow_pos o
     omega
    have hk8 : hd.node < 8 := by have := hmi.co.n8; omega
    have HK1 := ak k1
    have s3 := k1.blk.at 3 (.int .i64 (hd.order : Int)) rfl
    rw [a2] at s3
    have HFIN := ak hfin
    have HA5 := ak a5
    have HGL := ak hgl
    have HCUR := ak hs1
    have HSN := ak hsn
    have HB := ak (And.intro b1 (And.intro b2 (And.intro b3 (And.intro hbi (And.intro hk8 a2)))))
    have HQ := ak (show Q ≤ 4 from by rw [← hQ]; match o, ho2 with | 0, _ => decide | 1, _ => decide | 2, _ => decide)
    have HPG := ak (show pg + Q ≤ 4096 from by have h9 := hmi.fr.run.all _ a4; simp only at h9; omega)
    have HCC := ak (And.intro hC hcnt)
    have HO := ak (show o < 11 by omega)
    have H1 := ak (show RelUn κ' w5 m a s1 pg hd.frame Q (.int .i64 0) w5 from ⟨0, rfl, Nat.zero_le _, by rw [unF_zero, unF_zero]; exact hmm, Upd.refl _ _ _⟩)
    have HFR := ak hfrn
    have hbs8 := hmm.hbs
    have HBS := ak hbs8
    clear d0 hsame hsn hcnt hmm hs1 ho hQ hC hfin hmi hcp a1 a2 a3 a4 a5 b1 b2 b3 htl k1 k2 hgl hbi hyy hgn hfrn hk8 h0 ho2 hbs8
    have es := ES.out
    go_wp2_with (go_at_call 112; (with_reducible refine HEM.1.mono ?_); rintro e_ w6 ⟨rfl, hw6⟩; have hw6 := hw6.symm; subst hw6)
    rw [es]
    clear es s0 s3 hen
    go_loopw [6, 30] (fun _ v30 wr2 => RelUn κ' w5 m a s1 pg hd.frame Q v30 wr2) (fun _ v30 _ => Q - (RowKit.intOf v30).toNat)
    case atStart => exact H1.1
    case round =>
     clear H1
     obtain ⟨i, rfl, hi, hmi, hui⟩ := hrel
     have HMi := ak hmi
     have HUi := ak hui
     clear hmi hui
     by_cases hlt : i < Q
     ·have hQ4 := HQ.1
      have hPG := HPG.1
      have hFR := HFR.1
      have iQ : (i : Int) < (Q : Int) := by omega
      have i0 : (0 : Int) ≤ (i : Int) := by omega
      have g1 : (0 : Int) ≤ (pg : Int) + (i : Int) := by omega
      have g2 : (pg : Int) + (i : Int) < 4096 := by omega
      have g3 : unF s1.pf pg i ((pg : Int) + (i : Int)) = some ((hd.frame : Int) + (i : Int)) := by
       have h9 := HA5.1 i hlt
       rw [Int.natCast_add, Int.natCast_add] at h9
       unfold unF
       rw [if_neg (by omega)]
       exact h9
      have HUN := ak (mem_unmap κ' 3 a.mem _ _ _ _ _ _ ((pg : Int) + (i : Int)) ((hd.frame : Int) + (i : Int)) g1 g2 (i64o _ (by omega) (by omega)) g3 wr HMi.1.mem)
      have c4 := HMi.1.c4
      clear g3 hQ4 hFR hPG
      go_wp2_with (go_at_call 113; (with_reducible refine HUN.1.mono ?_); rintro e_ w7 ⟨rfl, q1, q2⟩; have HQ7 := ak (And.intro q1 q2); clear q1 q2 c4)
      have hu7 : Upd (fun z => 3 ≤ z ∧ z < 8) κ' wr κ' w7 := HQ7.1.2.mono (fun c e => by omega)
      have hm7 := HMi.1.putMem _ _ _ _ HQ7.1.1 hu7
      simp only [unF_succ] at hm7
      exact ⟨⟨i + 1, by simp, hlt, hm7, HUi.1.then hu7 (fun _ e => e)⟩, by simp only [RowKit.intOf]; omega⟩
     ·obtain rfl : i = Q := by omega
      have hbo := HB.1
      rw [hbo.2.2.2.2.2] at HK1
      have HHG := ak (fun (W : World) (hW : MachK κ' W m a { s1 with l := s1.l, pn := s1.pn, pf := unF s1.pf pg i, pg := unF s1.pg hd.frame i }) => show Calls Tryz.prog 103 #[.pointer (some ⟨a.hp, 0, none⟩), .int .i64 (hd.frame : Int), .int .i64 (o : Int)] W (fun e w' => e = .returned (.int .i64 0) ∧ MachK κ' w' m a { ({ s1 with l := s1.l, pn := s1.pn, pf := unF s1.pf pg i, pg := unF s1.pg hd.frame i } : St) with bs := s1.bs.set hd.node (giveB s1.f x2 y2) } ∧ Upd (fun z => 16 ≤ z ∧ z < 124) κ' W κ' w') from by
       have h9 := heap_give κ' 16 a.hp s1.f s1.mn s1.lo s1.hi s1.bs hd.node o y2 x2 hbo.2.1 HBS.1 hbo.2.2.2.1 hbo.2.2.1 W hW.hp
       rw [← hbo.1] at h9
       refine h9.mono ?_
       rintro e w' ⟨rfl, q1, q2⟩
       have q3 : Upd (fun z => 16 ≤ z ∧ z < 124) κ' W κ' w' := q2.mono (fun c e => by have := hbo.2.2.2.2.1; omega)
       exact ⟨rfl, hW.putHeap _ (by rw [List.length_set]; exact HBS.1) q1 q3, q3⟩)
      have HX := ak (HK1.1.upd HUi.1 (by omega))
      have c5 := HMi.1.c5
      have x3 := HX.1.blk.at 3 (.int .i64 (o : Int)) rfl
      have x4 := HX.1.blk.at 4 (.int .i64 (hd.frame : Int)) rfl
      have HUA := ak (HUi.1.mono (J := fun z => (3 ≤ z ∧ z < 8) ∨ (13 ≤ z ∧ z < 124)) (fun c e => .inl e))
      clear hbo
      go_upto_region 13 with fail
      refine st_ 13 (fun w' => w'.cell? ⟨m, 5, none⟩ = some (.pointer (some ⟨a.hp, 0, none⟩)) ∧ w'.cell? ⟨qx, 3, none⟩ = some (.int .i64 (o : Int)) ∧ w'.cell? ⟨qx, 4, none⟩ = some (.int .i64 (hd.frame : Int))) [12] ⟨c5, x3, x4⟩ (fun hHeld => ?_)
      have hd_ := below_drew (RowKit.Below.refl wr.heap.size wr)
      have n0_ := ak (HMi.1.below hd_)
      have n1_ := ak (HX.1.below hd_)
      have n2_ := ak (HUA.1.below hd_)
      clear HMi HX HUA c5 x3 x4 hd_
      have HMi := n0_
      have HX := n1_
      have HUA := n2_
      clear n0_ n1_ n2_
      have c5 := HMi.1.c5
      have x3 := HX.1.blk.at 3 (.int .i64 (o : Int)) rfl
      have x4 := HX.1.blk.at 4 (.int .i64 (hd.frame : Int)) rfl
      generalize wr.drew = wd at *
      refine pu_ 0 42 1 ?_
      refine pu_ 1 43 3 ?_
      refine pu_ 2 44 7 ?_
      refine pu_ 4 46 23 ?_
      refine pu_ 5 47 55 ?_
      refine pu_ 6 48 119 ?_
      refine pu_ 8 50 375 ?_
      refine pu_ 9 51 887 ?_
      refine pu_ 10 52 1911 ?_
      refine ta_ 3 45 1919 hHeld ?_
      refine ta_ 7 49 2047 hHeld ?_
      refine ta_ 11 53 4095 hHeld ?_
      refine last_ (i := 12) (N := some 54) (bz 13 8191) rfl rfl (by kernel_rfl) (by decide) (fun K hK => ?_)
      refine goes_ Tryz.func103 (by kernel_rfl) rfl #[.pointer (some ⟨a.hp, 0, none⟩), .int .i64 (hd.frame : Int), .int .i64 (o : Int)] (by rfl) rfl rfl (by simp only [List.map_toArray, List.map_cons, List.map_nil]; rfl) ?_
      with_reducible refine (HHG.1 _ HMi.1).mono ?_
      rintro e_ w9 ⟨rfl, q1_, q2_⟩
      refine ⟨_, rfl, ?_⟩
      have HMj := ak q1_
      have HUB := ak (HUA.1.then q2_ (fun c e => by omega))
      clear q1_ q2_ HMi HX HUA c5 x3 x4 hHeld
      refine hK.out _ _ ?_
      clear hK K
      refine no_ 54 ?_
      refine done_ (by kernel_rfl) ?_
      have c6 := HMj.1.c6
      have HSG := ak (space_give (pg : Int) (i : Int) HGL.1 HMj.1.spc)
      go_wp2_with (go_at_call 114; (with_reducible refine HSG.1.mono ?_); rintro e_ w10 ⟨rfl, q1, q2⟩; have hm10 := HMj.1.putSpc _ q1 q2; have hu10 := HUB.1.then q2 (fun c e => by omega); have hr10 := ranges_upd H5.1.1 hu10 (by rw [HM5.1.sp.choose_spec.1.kol]; omega) (by rw [HR.1.kit]; omega); rw [← HSN.1] at hr10; obtain ⟨w11, cnt3, hdel, r1, r2, r3, r4⟩ := hm10.delSp hr10 pg HS5.1.1; have c11 := hm10.c11; have HFI := ak (And.intro r1 (And.intro r2 (And.intro r3 ((hu10.mono (J := fun z => 3 ≤ z ∧ z < 144) (fun c e => by omega)).then (J := fun z => z = 143) r4 (fun c e => by omega))))); clear hm10 hu10 hr10 q1 q2 r1 r2 r3 r4 c6)
      have hr11 := HFI.1.1
      have hsn2 := HSN.1
      have hrg : w11.ranges Tryz.prog 3 ptrElem a.sb w.heap.size s.sn (D1.del (.int .i64 (pg : Int))) (fun z => (left z && !z.sameKey (.int .i64 (pg : Int))) && !z.sameKey (.int .i64 (pg : Int))) cnt3 := hsn2 ▸ hr11
      obtain ⟨left', g1, g2⟩ := HR.1.gone hrg HS5.1.1 (by rw [HS5.1.2.1]; rfl) HS5.1.2.2 (by rw [HCUR.1, HFIN.1]; exact HFI.1.2.2.1) HR.1.kit (HU5.1.then HFI.1.2.2.2 (fun c e => by omega)) HDB.1
      have hC2 := HCC.1
      refine ⟨⟨left', cnt3, _, vis ++ [pg], κ', ?_, g1⟩, ?_⟩
      ·rw [g2, hC2.1]
       simp
       exact w64 _ (by omega)
      ·rw [hr11.left_eq, HLE.1]
       exact Nat.lt_of_le_of_lt HFI.1.2.1 H5.1.2
   ·have d0 : decide (hd.tk = 0) = false := decide_eq_false h0
    rw [d0] at HEM
    have hdb : deadB s pg = false := by unfold deadB; rw [HS5.1.2.1]; exact d0
    have HDB := ak hdb
    clear d0 hdb h0 hmi hcp a1 a2 a3 a4 a5 b1 b2 b3 htl k1 k2
    go_wp2_with (go_at_call 112; (with_reducible refine HEM.1.mono ?_); rintro e_ w6 ⟨rfl, hw6⟩; have hw6 := hw6.symm; subst hw6)
    obtain ⟨g1, g2⟩ := HR.1.pass H5.1.1 HS5.1.1 (by rw [HS5.1.2.1]; rfl) HS5.1.2.2 HM5.1 HU5.1 HDB.1
    refine ⟨⟨_, cnt2, D1, vis ++ [pg], κ', by rw [g2], g1⟩, ?_⟩
    rw [H5.1.1.left_eq, HLE.1]
    exact H5.1.2
inductive TakR (s : St) (j : Nat) (c : Cpu) (cls : Nat) : Option Nat → St → Prop
 | old (page : Nat) (hd : Held) : NearV s (ordO s c) cls (fun _ => True) (some page) → s.sp page = some hd → TakR s j c cls (some (adI page cls hd.tk 0)) (fiS s j c page hd (tkT cls hd.tk))
 | new (k st ow : Nat) (cur' : Int) (x : Bud) (K y : Nat) (r : List Nat) (page : Nat) (l : List (Int × Int)) : NearV s (ordO s c) cls (fun _ => True) none → GrowR s j c cls k st ow cur' x K y r page l → TakR s j c cls (some (adI page cls 0 0)) (fiS (growT s j c cls k st ow cur' x K y page l) j { c with cur := cur' } page ⟨k, clO cls, k * s.f + y, cls, 0⟩ (tkT cls 0))
 | none (st : Nat) (cur' : Int) : NearV s (ordO s c) cls (fun _ => True) none → acqV s j c c.mode c.set c.nd (clO cls) = (0, (st : Int), cur', 5) → TakR s j c cls none (curT s j c cur')
def takV (res : Option Nat) : Value := .tuple #[.int .i64 ((res.getD 0 : Nat) : Int), .int .i64 (if res.isSome = true then 0 else 5)]
def handL (res : Option Nat) : List Int := match res with | some x => [(x : Int)] | none => []
theorem fi_slot {s : St} {j : Nat} {c : Cpu} {page : Nat} {hd : Held} {E t : Nat} {H : List Int} (hT : 1 ≤ tkT hd.cls hd.tk) (hI : Mi E t (fiS s j c page hd (tkT hd.cls hd.tk)) (((adI page hd.cls hd.tk 0 : Nat) : Int) :: H)) : Slot (fiS s j c page hd (tkT hd.cls hd.tk)) ((adI page hd.cls hd.tk 0 : Nat) : Int) hd.cls := by
 obtain ⟨c', p', hd', i, h1, h2, h3, h4, h5⟩ := hI.hand List.mem_cons_self
 refine ⟨p', hd', i, h1, h2, h3, h4, ?_⟩
 have hsp : (fiS s j c page hd (tkT hd.cls hd.tk)).sp page = some { hd with tk := tkI hd.tk (tkT hd.cls hd.tk) } := by
  show setSp s.sp page _ page = _
  unfold setSp
  rw [if_pos rfl]
 rw [ad_plc] at h3
 have hf := (tkT_fr hd.cls hd.tk).2.1 0 (by omega)
 obtain ⟨rfl, _⟩ := hI.fr.one hsp h1 hf h2 h3
 rw [hsp] at h1
 obtain rfl := Option.some.inj h1
 rfl
theorem tkT_new : ∀ c : Nat, c < 4 → tkT c 0 = 4 := by decide
theorem taken_any [SortI] (E t : Nat) (H : List Int) (m : Nat) (a : Ad) (s : St) (j p : Nat) (c : Cpu) (cls : Nat) (hcl : cls < 4) (hE : E ≤ 100000) (ht4 : t + 4 ≤ 4096) (hp : a.cps[j]? = some p) (hc : s.cpus[j]? = some c) (hL : c.L cls = []) (hI : Mi E t s H) :
 ∃ res s', TakR s j c cls res s' ∧ Mi (E + 1) (t + 4) s' (handL res ++ H) ∧ (∀ x, res = some x → Slot s' ((x : Nat) : Int) cls) ∧ Do 117 #[.pointer (some ⟨m, 0, none⟩), .int .i64 j, .pointer (some ⟨p, 0, none⟩), .int .i64 cls] m a s s' (takV res) := by
 obtain ⟨r0, hr0⟩ := hI.near (ordO s c) cls
 obtain ⟨hcs, hpol⟩ := hI.co.cpu j c hc
 have hnd := TZ.chk_cpus hI.co.chk c.node (List.mem_of_getElem? hcs)
 have her : TZ.erN s.n s.f s.cs s.ds c.node = 0 := by unfold TZ.erN; rw [if_pos hI.co.chk, if_neg (by omega)]
 have HNE := ak (fun κ w (h : MachK κ w m a s) => nearest_own κ m a s j p c cls hp hc hI.co.n1 hI.co.n8 hpol.ok her (fun q hd hq => ⟨(hI.fr.spn q hd hq).1, tk_lt (hI.fr.spn q hd hq).1 (hI.ob.tk q hd hq)⟩) w h)
 have HR0 := ak hr0
 cases r0 with
 | some page =>
  obtain ⟨hd, h1, h2, h3⟩ := hr0
  obtain ⟨rfl, h4, h5⟩ := h2
  have htl := hI.ob.tk page hd h1
  have hT := tkT_pos hcl htl h4
  obtain ⟨t1, t2, t3⟩ := tkT_fr hd.cls hd.tk
  have hmi := hI.fill hc h1 hL _ t1 t2
  rw [if_neg (by omega)] at hmi
  refine ⟨_, _, TakR.old page hd HR0.1 h1, (hmi.more (by omega) (by omega)), fun x hx => ?_, ?_⟩
  ·obtain rfl := Option.some.inj hx
   exact fi_slot hT hmi
  ·intro κ w hg h
   have HM := ak h
   have HG := ak hg
   have hN := HNE.1 κ w h
   have hpg4 : page < 4096 := by have := hI.fr.page h1; have := Nat.two_pow_pos (clO hd.cls); omega
   have HFI := ak (fun (W : World) (q : Nat) (hg : GlobK κ W) (hm : MachK κ W m a s) (hat : SpAt κ W a.sb q page) (hh : HeldK κ W q page hd) => fill_gen κ m a s j p c q page hd hcl (tkT hd.cls hd.tk) hT t1 (fun i hi => tk_lt hcl (tkI_fits hcl htl i (fun z hz => t2 z (by omega)))) t2 t3 hp hc (by rw [hL]; simp) hpg4 h1 W hg hm hat hh)
   have HSP := ak h1
   have HN := ak hN
   clear h hg hN h1 h3 h4 h5 htl hT t1 t2 t3 hmi hpol her hnd hcs hp hc hI hpg4 hL
   go_enter Tryz.func117, Tryz.ntmps117
   go_wp2_with (first | (go_at_call 168; (with_reducible refine HN.1.mono ?_); rintro e_ w1 ⟨r, v10, v11, rfl, q1, q2, q3⟩; obtain rfl := q1.only HR0.1; obtain ⟨q, hb, e1, rfl, e3, e4, e5⟩ := q2; rw [HSP.1] at e1; obtain rfl := Option.some.inj e1; have HB1 := ak q3; have HX := ak (And.intro e4 e5); clear q1 q3 e1 e3 e4 e5) | (go_at_call 170; (with_reducible refine (HFI.1 _ q (HG.1.upd (Upd.of_below (I := fun _ => False) κ HB1.1) (fun h => h)) (HM.1.below HB1.1) HX.1.2 HX.1.1).mono ?_); rintro e_ w2 ⟨rfl, κ2, q1, q2⟩; have HM2 := ak q1; have HU2 := ak ((Upd.of_below (I := fun z => 1 ≤ z) κ HB1.1).then q2 (fun _ e => e)); clear q1 q2))
   go_ret2
   exact ⟨rfl, κ2, HM2.1, HU2.1⟩
 | none =>
  have hall : ∀ x ∈ s.bs, ∀ k, k < 11 → (x.fr k).length ≤ 1024 := fun x hx k hk => by
   obtain ⟨i, hi, rfl⟩ := List.getElem_of_mem hx
   exact (hI.fr.bud i _ (List.getElem?_eq_getElem hi)).len k
  have ho11 : clO cls < 11 := (by decide : ∀ c : Nat, c < 4 → clO c < 11) cls hcl
  rcases hI.acq hc hpol ho11 with ⟨st, cur', hst, hv⟩ | ⟨k, st, ow, cur', x, K, y, r, hA⟩
  ·refine ⟨_, _, TakR.none st cur' HR0.1 hv, ((hI.cur hc cur').more (by omega) (by omega)), fun x hx => (by cases hx), ?_⟩
   intro κ w hg h
   have HM := ak h
   have HG := ak hg
   have HN := ak (HNE.1 κ w h)
   have hev := hI.co.ev
   have HGF := ak (fun (W : World) (hg : GlobK κ W) (hm : MachK κ W m a s) => grow_fail κ m a s j p c cls hcl hpol.lt hp hc st c.node.toNat cur' hv hall (by have := hI.co.mn; omega) (by omega) (by omega) hI.co.n8 (by omega) W hg hm)
   clear h hg hall hst hv hpol her hnd hcs hp hc hI hL hev ho11
   go_enter Tryz.func117, Tryz.ntmps117
   go_wp2_with (first | (go_at_call 168; (with_reducible refine HN.1.mono ?_); rintro e_ w1 ⟨r, v10, v11, rfl, q1, q2, q3⟩; obtain rfl := q1.only HR0.1; obtain ⟨rfl, e2⟩ := q2; have HB1 := ak q3; clear q1 q3 e2) | (go_at_call 169; (with_reducible refine (HGF.1 _ (HG.1.upd (Upd.of_below (I := fun _ => False) κ HB1.1) (fun h => h)) (HM.1.below HB1.1)).mono ?_); rintro e_ w2 ⟨rfl, κ2, q1, q2⟩; have HM2 := ak q1; have HU2 := ak ((Upd.of_below (I := fun z => 1 ≤ z) κ HB1.1).then q2 (fun _ e => e)); clear q1 q2))
   go_ret2
   exact ⟨rfl, κ2, HM2.1, HU2.1⟩
  ·have h4 := clo4 hcl
   have hev := hI.co.ev
   obtain ⟨page, l, g1, g2, g3, g4, g5, g6, g7⟩ := TS.take_mem hI.fr.run ((2 ^ clO cls : Nat) : Int) (t : Int) (by omega) (by have := hI.co.t1; omega) hI.co.top (by omega)
   have hR : GrowR s j c cls k st ow cur' x K y r page l := ⟨hA, g1⟩
   have hmi1 := hI.grow hc hcl hR (by omega)
   have hc1 : (growT s j c cls k st ow cur' x K y page l).cpus[j]? = some { c with cur := cur' } := get_set hc
   have hp1 : (growT s j c cls k st ow cur' x K y page l).sp page = some ⟨k, clO cls, k * s.f + y, cls, 0⟩ := by
    show setSp s.sp page _ page = _
    unfold setSp
    rw [if_pos rfl]
   have hT4 := tkT_new cls hcl
   obtain ⟨t1, t2, t3⟩ := tkT_fr cls 0
   have hmi := hmi1.fill hc1 hp1 hL _ t1 t2
   rw [if_neg (by show tkT cls 0 ≠ 0; omega)] at hmi
   refine ⟨_, _, TakR.new k st ow cur' x K y r page l HR0.1 hR, hmi, fun z hz => ?_, ?_⟩
   ·obtain rfl := Option.some.inj hz
    exact fi_slot (hd := ⟨k, clO cls, k * s.f + y, cls, 0⟩) (by show 1 ≤ tkT cls 0; omega) hmi
   ·intro κ w hg h
    have HM := ak h
    have HG := ak hg
    have HN := ak (HNE.1 κ w h)
    obtain ⟨f1, f2, f3⟩ := hI.fr.fit1 hA.run
    have hf := (p2_le _ hI.co.f2).2
    have HGO := ak (show ∀ (W : World) (hg : GlobK κ W) (hm : MachK κ W m a s), Calls Tryz.prog 169 #[.pointer (some ⟨m, 0, none⟩), .int .i64 j, .pointer (some ⟨p, 0, none⟩), .int .i64 cls] W (fun e w' => ∃ q κ', e = .returned (.tuple #[.pointer (some ⟨q, 0, none⟩), .int .i64 0]) ∧ MachK κ' w' m a (growT s j c cls k st ow cur' x K y page l) ∧ SpAt κ' w' a.sb q page ∧ HeldK κ' w' q page ⟨k, clO cls, k * s.f + y, cls, 0⟩ ∧ Upd (fun z => 1 ≤ z) κ W κ' w') from fun W hg hm => by
     refine (grow_own κ m a s j p c cls hcl hpol.lt hp hc k st ow cur' hA.v x K y r hA.run.hx hA.can hall (by have := hI.co.mn; omega) hA.hnode hA.how hA.hst hA.hk hI.co.n8 hf (by omega) page l g1 (by omega) (fun i hi => hI.fr.void g7 _ (by omega) (by omega)) (fun i hi => hI.fr.bare1 hA.run i hi) f3 (by have := hI.co.pn; omega) (by have := hI.co.sn; omega) W hg hm).mono ?_
     rintro e w' ⟨q, κ', rfl, q1, q2, q3, q4⟩
     refine ⟨q, κ', rfl, q1.fix hmi1 rfl ?_ (fun i b b' hb hb' => ?_), q2, q3, q4⟩
     ·show (s.bs.set k _).length = (s.bs.set k _).length
      rw [List.length_set, List.length_set]
     ·have hb1 : (s.bs.set k ⟨x.c + 1, frAt x.fr K y (clO cls), putF x.tk y ((clO cls : Nat) : Int)⟩)[i]? = some b := hb
      have hb2 : (s.bs.set k (takeB x K y (clO cls)))[i]? = some b' := hb'
      rcases mem_set hb1 with ⟨rfl, rfl⟩ | ⟨hne, hb1⟩
      ·rcases mem_set hb2 with ⟨_, rfl⟩ | ⟨hne, _⟩
       ·exact ⟨rfl, rfl⟩
       ·exact absurd rfl hne
      ·rcases mem_set hb2 with ⟨e, _⟩ | ⟨_, hb2⟩
       ·exact absurd e hne
       ·rw [hb1] at hb2
        obtain rfl := Option.some.inj hb2
        exact ⟨rfl, rfl⟩)
    have HFI := ak (fun (κ' : Kol) (W : World) (q : Nat) (hg : GlobK κ' W) (hm : MachK κ' W m a (growT s j c cls k st ow cur' x K y page l)) (hat : SpAt κ' W a.sb q page) (hh : HeldK κ' W q page ⟨k, clO cls, k * s.f + y, cls, 0⟩) => fill_gen κ' m a (growT s j c cls k st ow cur' x K y page l) j p { c with cur := cur' } q page ⟨k, clO cls, k * s.f + y, cls, 0⟩ hcl (tkT cls 0) (by omega) t1 (fun i hi => tk_lt hcl (tkI_fits hcl (Nat.two_pow_pos _) i (fun z hz => t2 z (by omega)))) t2 t3 hp hc1 (by show (c.L cls).length ≤ 4; rw [hL]; simp) (by omega) hp1 W hg hm hat hh)
    clear h hg hall hpol her hnd hcs hp hc hI hL hev ho11 hA g1 g2 g3 g4 g5 g6 g7 hR hmi1 hc1 hp1 hT4 t1 t2 t3 hmi f1 f2 f3 hf h4
    go_enter Tryz.func117, Tryz.ntmps117
    go_wp2_with (first | (go_at_call 168; (with_reducible refine HN.1.mono ?_); rintro e_ w1 ⟨r, v10, v11, rfl, q1, q2, q3⟩; obtain rfl := q1.only HR0.1; obtain ⟨rfl, e2⟩ := q2; have HB1 := ak q3; clear q1 q3 e2) | (go_at_call 169; (with_reducible refine (HGO.1 _ (HG.1.upd (Upd.of_below (I := fun _ => False) κ HB1.1) (fun h => h)) (HM.1.below HB1.1)).mono ?_); rintro e_ w2 ⟨q, κ2, rfl, q1, q2, q3, q4⟩; have HM2 := ak q1; have HX := ak (And.intro q2 q3); have HU2 := ak ((Upd.of_below (I := fun z => 1 ≤ z) κ HB1.1).then q4 (fun _ e => e)); clear q1 q2 q3 q4) | (go_at_call 170; (with_reducible refine (HFI.1 _ _ q (HG.1.upd HU2.1 (by omega)) HM2.1 HX.1.1 HX.1.2).mono ?_); rintro e_ w3 ⟨rfl, κ3, q1, q2⟩; have HM3 := ak q1; have HU3 := ak (HU2.1.then q2 (fun _ e => e)); clear q1 q2))
    go_ret2
    exact ⟨rfl, κ3, HM3.1, HU3.1⟩
end Go.Proofs.YtenkdmloolbdaaaGreatDoor.T
end
