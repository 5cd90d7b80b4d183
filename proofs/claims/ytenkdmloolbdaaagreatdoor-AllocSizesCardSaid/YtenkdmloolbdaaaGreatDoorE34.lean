import Derived.Test.YtenkdmloolbdaaaGreatDoorE32
set_option linter.unusedVariables false
set_option linter.unusedSimpArgs false
set_option maxHeartbeats 8000000
set_option maxRecDepth 100000
section
namespace Go.Proofs.YtenkdmloolbdaaaGreatDoor.T
open Go.RowKit Go.Maps Go.Proofs.YtenkdmloolbdaaaGreatDoorW.PrintWords Go.Proofs.YtenkdmloolbdaaaGreatDoorW.PrintLast Go.Proofs.YtenkdmloolbdaaaGreatDoorW.PrintMore
theorem FrI.like {s s' : St} (h : FrI s) (e1 : s'.n = s.n) (e2 : s'.f = s.f) (e3 : s'.bs = s.bs) (e4 : s'.l.length = s.l.length) (e5 : s'.rs = s.rs) (e6 : s'.pf = s.pf) (e7 : s'.pg = s.pg) (e8 : s'.sp = s.sp) : FrI s' := by
 have hB : ∀ p, Big s' p ↔ Big s p := fun p => by unfold Big; rw [e5, e8]
 refine ⟨by rw [e3, e1]; exact h.bl, by rw [e3, e2]; exact h.bud, by rw [e4, e1, e2]; exact h.len, by rw [e5]; exact h.run, by rw [e6, e7]; exact h.inv, by rw [e6, e5, e1, e2]; exact h.dom, by rw [e8, e1, e5, e6, e2, e3]; exact h.spn, ?_, ?_⟩
 ·intro k y o x hk hy
  rw [e3] at hk
  rw [e8, e2, e6]
  rcases h.tak k y o x hk hy with ⟨p, hd, q⟩ | ⟨h0, p, hp, hb⟩
  ·exact .inl ⟨p, hd, q⟩
  ·exact .inr ⟨h0, p, hp, (hB p).2 hb⟩
 ·intro p fr hp hb
  rw [e6] at hp
  rw [e2, e3]
  exact h.big p fr hp ((hB p).1 hb)
theorem Slot.like {s s' : St} (e : s'.sp = s.sp) {x : Int} {c : Nat} : Slot s' x c ↔ Slot s x c := by unfold Slot; rw [e]
theorem homes_cpu {s : St} {j : Nat} {c c' : Cpu} (hc : s.cpus[j]? = some c) : (homes { s with cpus := s.cpus.set j c' } ++ cpuL c).Perm (homes s ++ cpuL c') := by
 have h := flat_set cpuL s.cpus j c c' hc
 exact List.perm_iff_count.2 (fun a => by have := List.perm_iff_count.1 h a; simp only [homes, List.count_append] at *; omega)
theorem mem_set {α : Type} {l : List α} {j i : Nat} {x y : α} (h : (l.set j x)[i]? = some y) : (i = j ∧ y = x) ∨ (i ≠ j ∧ l[i]? = some y) := by
 rw [List.getElem?_set] at h
 split at h
 ·rename_i e
  split at h
  ·exact .inl ⟨e.symm, (Option.some.inj h).symm⟩
  ·cases h
 ·rename_i e
  exact .inr ⟨fun e1 => e e1.symm, h⟩
theorem get_set {α : Type} {l : List α} {j : Nat} {x c : α} (h : l[j]? = some c) : (l.set j x)[j]? = some x := by
 rw [List.getElem?_set_self (List.getElem?_eq_some_iff.1 h).1]
theorem Mi.cpu {E t : Nat} {s : St} {H H' : List Int} (h : Mi E t s H) {j : Nat} {c c' : Cpu} (hc : s.cpus[j]? = some c) (hn : c'.node = c.node) (hp : PolI s.n c'.mode c'.set c'.nd) (hP : (cpuL c' ++ H').Perm (cpuL c ++ H)) (hL : ∀ k, k < 4 → (c'.L k).length ≤ 8 ∧ ∀ x ∈ c'.L k, Slot s x k) : Mi E t { s with cpus := s.cpus.set j c' } H' := by
 have hW : (homes { s with cpus := s.cpus.set j c' } ++ H').Perm (homes s ++ H) := by
  have h1 := homes_cpu (s := s) (c' := c') hc
  exact List.perm_iff_count.2 (fun a => by have k1 := List.perm_iff_count.1 h1 a; have k2 := List.perm_iff_count.1 hP a; simp only [List.count_append] at *; omega)
 refine ⟨⟨h.co.n1, h.co.n8, h.co.f2, h.co.chk, h.co.c16, by rw [List.length_set]; exact h.co.cpl, fun i d hd => ?_, h.co.mn, h.co.ql, h.co.pn, h.co.sn, h.co.ln, h.co.ev, h.co.t1, h.co.top⟩, h.fr.like rfl rfl rfl rfl rfl rfl rfl rfl, ⟨h.ob.tk, h.ob.live, h.ob.runs, hW.nodup_iff.2 h.ob.nod, fun x => (hW.mem_iff (a := x)).trans (h.ob.hom x), fun i d k x hd hk hx => ?_, fun i d k hd hk => ?_, h.ob.qlen, h.ob.book⟩⟩
 ·rcases mem_set hd with ⟨rfl, rfl⟩ | ⟨_, hd⟩
  ·exact ⟨by rw [hn]; exact (h.co.cpu _ c hc).1, hp⟩
  ·exact h.co.cpu i d hd
 ·rcases mem_set hd with ⟨rfl, rfl⟩ | ⟨_, hd⟩
  ·exact (hL k hk).2 x hx
  ·exact h.ob.cch i d k x hd hk hx
 ·rcases mem_set hd with ⟨rfl, rfl⟩ | ⟨_, hd⟩
  ·exact (hL k hk).1
  ·exact h.ob.clen i d k hd hk
theorem Mi.hand {E t : Nat} {s : St} {H : List Int} (h : Mi E t s H) {x : Int} (hx : x ∈ H) : ∃ c, Slot s x c := ((h.ob.hom x).1 (List.mem_append_right _ hx)).1
theorem Mi.more {E E' t t' : Nat} {s : St} {H : List Int} (h : Mi E t s H) (h1 : E ≤ E') (h2 : t ≤ t') : Mi E' t' s H :=
 ⟨⟨h.co.n1, h.co.n8, h.co.f2, h.co.chk, h.co.c16, h.co.cpl, h.co.cpu, h.co.mn, h.co.ql, h.co.pn, h.co.sn, h.co.ln, Nat.le_trans h.co.ev h1, Nat.le_trans h.co.t1 h2, fun r hr => Int.le_trans (h.co.top r hr) (by omega)⟩, h.fr, h.ob⟩
theorem Slot.at {s : St} (h : FrI s) {x : Int} {c : Nat} (hx : Slot s x c) : ∃ p hd i, s.sp p = some hd ∧ i < clN hd.cls ∧ x = plc p hd.cls i ∧ hd.tk.testBit i = true ∧ hd.cls = c ∧ TS.ofR s.rs (x / 64) = ((p : Int), ((2 ^ clO hd.cls : Nat) : Int), true) := by
 obtain ⟨p, hd, i, h1, h2, rfl, h4, h5⟩ := hx
 exact ⟨p, hd, i, h1, h2, rfl, h4, h5, h.of h1 h2⟩
theorem Mi.born {E t : Nat} {s : St} {H : List Int} {x n : Int} {c : Nat} (h : Mi E t s (x :: H)) (h1 : 1 ≤ n) (h64 : n ≤ 64) (hc : Slot s x (clOf n.toNat)) : Mi E t { s with live := putF s.live x n } H := by
 have hno := ((h.ob.hom x).1 (List.mem_append_right _ List.mem_cons_self)).2
 have hnd : (homes s ++ x :: H).Nodup := h.ob.nod
 have hp : (homes s ++ x :: H).Perm (x :: (homes s ++ H)) := List.perm_middle
 have hnd2 := List.nodup_cons.1 (hp.nodup_iff.1 hnd)
 refine ⟨⟨h.co.n1, h.co.n8, h.co.f2, h.co.chk, h.co.c16, h.co.cpl, h.co.cpu, h.co.mn, h.co.ql, h.co.pn, h.co.sn, h.co.ln, h.co.ev, h.co.t1, h.co.top⟩, h.fr.like rfl rfl rfl rfl rfl rfl rfl rfl, ⟨h.ob.tk, fun y sz hy => ?_, fun q m hq hs => ?_, hnd2.2, fun y => ?_, h.ob.cch, h.ob.clen, h.ob.qlen, h.ob.book⟩⟩
 ·simp only [putF] at hy
  split at hy
  ·rename_i e
   subst e
   obtain rfl := Option.some.inj hy
   exact ⟨h1, by omega, fun _ => hc, fun hh => by omega⟩
  ·exact h.ob.live y sz hy
 ·obtain ⟨sz, k1, k2, k3⟩ := h.ob.runs q m hq hs
  refine ⟨sz, ?_, k2, k3⟩
  show putF s.live x n (64 * q) = some sz
  unfold putF
  rw [if_neg (fun e => by rw [e, hno] at k1; cases k1)]
  exact k1
 ·have hy := h.ob.hom y
  rw [hp.mem_iff, List.mem_cons] at hy
  show y ∈ homes s ++ H ↔ (∃ c, Slot s y c) ∧ putF s.live x n y = none
  unfold putF
  by_cases e : y = x
  ·subst e
   rw [if_pos rfl]
   exact ⟨fun hm => absurd hm hnd2.1, fun hm => by cases hm.2⟩
  ·rw [if_neg e, ← hy]
   exact ⟨fun hm => .inr hm, fun hm => hm.resolve_left e⟩
theorem put_bit (tk i k : Nat) : (putI tk i).testBit k = (tk.testBit k || decide (i = k)) := by
 unfold putI
 rw [Nat.testBit_or, Nat.one_shiftLeft, Nat.testBit_two_pow]
theorem out_bit (tk i k : Nat) : (outI tk i).testBit k = (tk.testBit k && !decide (i = k)) := by
 unfold outI
 rw [Nat.testBit_xor, Nat.testBit_and, Nat.one_shiftLeft, Nat.testBit_two_pow]
 cases tk.testBit k <;> cases decide (i = k) <;> rfl
theorem put_fits {tk i n : Nat} (h : tk < 2 ^ n) (hi : i < n) : putI tk i < 2 ^ n := by
 unfold putI
 rw [Nat.one_shiftLeft]
 exact Nat.or_lt_two_pow h (Nat.pow_lt_pow_right (by decide) hi)
theorem out_fits {tk i n : Nat} (h : tk < 2 ^ n) : outI tk i < 2 ^ n := Nat.xor_lt_two_pow h (Nat.lt_of_le_of_lt Nat.and_le_left h)
theorem FrI.tkd {s : St} (h : FrI s) {p : Nat} {hd : Held} (hp : s.sp p = some hd) (tk : Nat) : FrI { s with sp := setSp s.sp p { hd with tk := tk } } := by
 have hB : ∀ q, Big { s with sp := setSp s.sp p { hd with tk := tk } } q ↔ Big s q := fun q => by
  have hs : ∀ r : Nat, setSp s.sp p { hd with tk := tk } r = none ↔ s.sp r = none := fun r => by
   unfold setSp
   split
   ·rename_i e; subst e; rw [hp]; simp
   ·rfl
  exact ⟨fun ⟨a, b, h1, h2, h3, h4⟩ => ⟨a, b, h1, h2, h3, (hs _).1 h4⟩, fun ⟨a, b, h1, h2, h3, h4⟩ => ⟨a, b, h1, h2, h3, (hs _).2 h4⟩⟩
 have hg : ∀ q hq, setSp s.sp p { hd with tk := tk } q = some hq → ∃ h0, s.sp q = some h0 ∧ h0.cls = hq.cls ∧ h0.order = hq.order ∧ h0.node = hq.node ∧ h0.frame = hq.frame := fun q hq hh => by
  unfold setSp at hh
  split at hh
  ·rename_i e
   subst e
   obtain rfl := Option.some.inj hh
   exact ⟨hd, hp, rfl, rfl, rfl, rfl⟩
  ·exact ⟨hq, hh, rfl, rfl, rfl, rfl⟩
 refine ⟨h.bl, h.bud, h.len, h.run, h.inv, h.dom, fun q hq hh => ?_, fun k y o x hk hy => ?_, fun q fr hq hb => h.big q fr hq ((hB q).1 hb)⟩
 ·obtain ⟨h0, k0, k1, k2, k3, k4⟩ := hg q hq hh
  have := h.spn q h0 k0
  rw [k1, k2, k3, k4] at this
  exact this
 ·rcases h.tak k y o x hk hy with ⟨q, hq, k1, k2, k3, k4⟩ | ⟨h0, q, hq, hb⟩
  ·refine .inl ⟨q, if q = p then { hd with tk := tk } else hq, ?_, ?_⟩
   ·show setSp s.sp p { hd with tk := tk } q = _
    unfold setSp
    split
    ·rfl
    ·exact k1
   ·split
    ·rename_i e
     subst e
     rw [hp] at k1
     obtain rfl := Option.some.inj k1
     exact ⟨k2, k3, k4⟩
    ·exact ⟨k2, k3, k4⟩
  ·exact .inr ⟨h0, q, hq, (hB q).2 hb⟩
theorem slot_set {s : St} (h : FrI s) {p : Nat} {hd : Held} (hp : s.sp p = some hd) (tk : Nat) {x : Int} {c : Nat} :
 Slot { s with sp := setSp s.sp p { hd with tk := tk } } x c ↔ (∃ i, i < clN hd.cls ∧ x = plc p hd.cls i ∧ tk.testBit i = true ∧ hd.cls = c) ∨ (Slot s x c ∧ ∀ i, i < clN hd.cls → x ≠ plc p hd.cls i) := by
 constructor
 ·rintro ⟨q, hq, i, h1, h2, h3, h4, h5⟩
  simp only [setSp] at h1
  split at h1
  ·rename_i e
   subst e
   obtain rfl := Option.some.inj h1
   exact .inl ⟨i, h2, h3, h4, h5⟩
  ·rename_i e
   refine .inr ⟨⟨q, hq, i, h1, h2, h3, h4, h5⟩, fun k hk ek => ?_⟩
   exact e (h.one h1 hp h2 hk (h3.symm.trans ek)).1
 ·rintro (⟨i, h2, h3, h4, h5⟩ | ⟨⟨q, hq, i, h1, h2, h3, h4, h5⟩, hno⟩)
  ·exact ⟨p, { hd with tk := tk }, i, if_pos rfl, h2, h3, h4, h5⟩
  ·have hqp : q ≠ p := fun e => by
    subst e
    rw [hp] at h1
    obtain rfl := Option.some.inj h1
    exact hno i h2 h3
   exact ⟨q, hq, i, (if_neg hqp).trans h1, h2, h3, h4, h5⟩
theorem Mi.plc_small {E t : Nat} {s : St} {H : List Int} (h : Mi E t s H) {p i : Nat} {hd : Held} (hp : s.sp p = some hd) (hi : i < clN hd.cls) {sz : Int} (hl : s.live (plc p hd.cls i) = some sz) : sz ≤ 64 ∧ hd.tk.testBit i = true := by
 obtain ⟨h1, h2, h3, h4⟩ := h.ob.live _ sz hl
 obtain ⟨a1, a2, a3, a4, _⟩ := h.fr.spn p hd hp
 by_cases hz : sz ≤ 64
 ·obtain ⟨q, hq, k, k1, k2, k3, k4, k5⟩ := h3 hz
  obtain ⟨rfl, rfl⟩ := h.fr.one hp k1 hi k2 k3
  rw [hp] at k1
  obtain rfl := Option.some.inj k1
  exact ⟨hz, k4⟩
 ·exfalso
  obtain ⟨q, e1, e2, e3⟩ := h4 (by omega)
  have c1 := plc_in (p := p) a1 hi
  have d1 := (cls_mul _ a1).2.1
  unfold plc at e1
  have hb := h.fr.run.behind _ e2
  simp only at hb
  obtain ⟨f1, f2⟩ := h.fr.run.one a4 e2 (x := (q : Int)) (by omega) (by omega) (by omega) (by omega)
  obtain rfl : p = q := by omega
  rw [e3] at hp
  cases hp
theorem Mi.take {E t : Nat} {s : St} {H : List Int} (h : Mi E t s H) {p i : Nat} {hd : Held} (hp : s.sp p = some hd) (hi : i < clN hd.cls) (hb : hd.tk.testBit i = false) : Mi E t { s with sp := setSp s.sp p { hd with tk := putI hd.tk i } } (plc p hd.cls i :: H) := by
 have hP : (homes s ++ plc p hd.cls i :: H).Perm (plc p hd.cls i :: (homes s ++ H)) := List.perm_middle
 have hS : ∀ x c, Slot { s with sp := setSp s.sp p { hd with tk := putI hd.tk i } } x c ↔ Slot s x c ∨ (x = plc p hd.cls i ∧ hd.cls = c) := fun x c => by
  rw [slot_set h.fr hp]
  constructor
  ·rintro (⟨k, k1, k2, k3, k4⟩ | ⟨hx, _⟩)
   ·rw [put_bit, Bool.or_eq_true, decide_eq_true_eq] at k3
    rcases k3 with k3 | rfl
    ·exact .inl ⟨p, hd, k, hp, k1, k2, k3, k4⟩
    ·exact .inr ⟨k2, k4⟩
   ·exact .inl hx
  ·rintro (hx | ⟨rfl, e⟩)
   ·by_cases hq : ∃ k, k < clN hd.cls ∧ x = plc p hd.cls k
    ·obtain ⟨k, k1, k2⟩ := hq
     obtain ⟨q, hq, m, m1, m2, m3, m4, m5⟩ := hx
     obtain ⟨rfl, rfl⟩ := h.fr.one m1 hp m2 k1 (m3.symm.trans k2)
     rw [hp] at m1
     obtain rfl := Option.some.inj m1
     exact .inl ⟨m, k1, k2, by rw [put_bit, m4]; rfl, m5⟩
    ·exact .inr ⟨hx, fun k k1 k2 => hq ⟨k, k1, k2⟩⟩
   ·exact .inl ⟨i, hi, rfl, by rw [put_bit]; simp, e⟩
 have hno : ∀ c, ¬ Slot s (plc p hd.cls i) c := fun c ⟨q, hq, m, m1, m2, m3, m4, m5⟩ => by
  obtain ⟨rfl, rfl⟩ := h.fr.one hp m1 hi m2 m3
  rw [hp] at m1
  obtain rfl := Option.some.inj m1
  rw [hb] at m4
  cases m4
 have hnl : s.live (plc p hd.cls i) = none := by
  cases hl : s.live (plc p hd.cls i) with
  | none => rfl
  | some sz => have := (h.plc_small hp hi hl).2; rw [hb] at this; cases this
 refine ⟨⟨h.co.n1, h.co.n8, h.co.f2, h.co.chk, h.co.c16, h.co.cpl, h.co.cpu, h.co.mn, h.co.ql, h.co.pn, h.co.sn, h.co.ln, h.co.ev, h.co.t1, h.co.top⟩, h.fr.tkd hp _, ⟨fun q hq hh => ?_, fun y sz hy => ?_, fun q m hq hs => ?_, ?_, fun y => ?_, fun j c k x hc hk hx => (hS x k).2 (.inl (h.ob.cch j c k x hc hk hx)), h.ob.clen, h.ob.qlen, fun q pol hq => ?_⟩⟩
 ·simp only [setSp] at hh
  split at hh
  ·obtain rfl := Option.some.inj hh
   exact put_fits (h.ob.tk p hd hp) hi
  ·exact h.ob.tk q hq hh
 ·obtain ⟨h1, h2, h3, h4⟩ := h.ob.live y sz hy
  refine ⟨h1, h2, fun hz => (hS _ _).2 (.inl (h3 hz)), fun hz => ?_⟩
  obtain ⟨q, e1, e2, e3⟩ := h4 hz
  refine ⟨q, e1, e2, ?_⟩
  show setSp s.sp p _ q = none
  unfold setSp
  rw [if_neg (fun e => by rw [e, hp] at e3; cases e3)]
  exact e3
 ·refine h.ob.runs q m hq ?_
  have hs' : setSp s.sp p { hd with tk := putI hd.tk i } q.toNat = none := hs
  unfold setSp at hs'
  split at hs'
  ·cases hs'
  ·exact hs'
 ·show (homes s ++ plc p hd.cls i :: H).Nodup
  exact hP.nodup_iff.2 (List.nodup_cons.2 ⟨fun hm => hno _ ((h.ob.hom _).1 hm).1.choose_spec, h.ob.nod⟩)
 ·show y ∈ homes s ++ plc p hd.cls i :: H ↔ _
  rw [hP.mem_iff, List.mem_cons, h.ob.hom y]
  simp only [hS]
  constructor
  ·rintro (rfl | ⟨⟨c, hc⟩, hl⟩)
   ·exact ⟨⟨_, .inr ⟨rfl, rfl⟩⟩, hnl⟩
   ·exact ⟨⟨c, .inl hc⟩, hl⟩
  ·rintro ⟨⟨c, hc | ⟨rfl, _⟩⟩, hl⟩
   ·exact .inr ⟨⟨c, hc⟩, hl⟩
   ·exact .inl rfl
 ·obtain ⟨k1, a, b, k2, k3, k4, k5⟩ := h.ob.book q pol hq
  refine ⟨k1, a, b, k2, k3, k4, ?_⟩
  show setSp s.sp p _ a.toNat = none
  unfold setSp
  rw [if_neg (fun e => by rw [e, hp] at k5; cases k5)]
  exact k5
theorem Mi.give {E t : Nat} {s : St} {H : List Int} {p i : Nat} {hd : Held} (h : Mi E t s (plc p hd.cls i :: H)) (hp : s.sp p = some hd) (hi : i < clN hd.cls) : Mi E t { s with sp := setSp s.sp p { hd with tk := outI hd.tk i } } H := by
 have hP : (homes s ++ plc p hd.cls i :: H).Perm (plc p hd.cls i :: (homes s ++ H)) := List.perm_middle
 have hN := List.nodup_cons.1 (hP.nodup_iff.1 h.ob.nod)
 have hnl := ((h.ob.hom _).1 (List.mem_append_right _ List.mem_cons_self)).2
 have hS : ∀ x c, Slot { s with sp := setSp s.sp p { hd with tk := outI hd.tk i } } x c ↔ Slot s x c ∧ x ≠ plc p hd.cls i := fun x c => by
  rw [slot_set h.fr hp]
  constructor
  ·rintro (⟨k, k1, k2, k3, k4⟩ | ⟨hx, hne⟩)
   ·rw [out_bit, Bool.and_eq_true, Bool.not_eq_true', decide_eq_false_iff_not] at k3
    refine ⟨⟨p, hd, k, hp, k1, k2, k3.1, k4⟩, fun e => k3.2 ?_⟩
    exact (h.fr.one hp hp hi k1 (e.symm.trans k2)).2
   ·exact ⟨hx, hne i hi⟩
  ·rintro ⟨hx, hne⟩
   by_cases hq : ∃ k, k < clN hd.cls ∧ x = plc p hd.cls k
   ·obtain ⟨k, k1, k2⟩ := hq
    obtain ⟨q, hq, m, m1, m2, m3, m4, m5⟩ := hx
    obtain ⟨rfl, rfl⟩ := h.fr.one m1 hp m2 k1 (m3.symm.trans k2)
    rw [hp] at m1
    obtain rfl := Option.some.inj m1
    refine .inl ⟨m, k1, k2, ?_, m5⟩
    rw [out_bit, m4]
    simp only [Bool.true_and, Bool.not_eq_true', decide_eq_false_iff_not]
    exact fun e => hne (by rw [k2, e])
   ·exact .inr ⟨hx, fun k k1 k2 => hq ⟨k, k1, k2⟩⟩
 refine ⟨⟨h.co.n1, h.co.n8, h.co.f2, h.co.chk, h.co.c16, h.co.cpl, h.co.cpu, h.co.mn, h.co.ql, h.co.pn, h.co.sn, h.co.ln, h.co.ev, h.co.t1, h.co.top⟩, h.fr.tkd hp _, ⟨fun q hq hh => ?_, fun y sz hy => ?_, fun q m hq hs => ?_, hN.2, fun y => ?_, fun j c k x hc hk hx => ?_, h.ob.clen, h.ob.qlen, fun q pol hq => ?_⟩⟩
 ·simp only [setSp] at hh
  split at hh
  ·obtain rfl := Option.some.inj hh
   exact out_fits (h.ob.tk p hd hp)
  ·exact h.ob.tk q hq hh
 ·obtain ⟨h1, h2, h3, h4⟩ := h.ob.live y sz hy
  refine ⟨h1, h2, fun hz => (hS _ _).2 ⟨h3 hz, fun e => by rw [e, hnl] at hy; cases hy⟩, fun hz => ?_⟩
  obtain ⟨q, e1, e2, e3⟩ := h4 hz
  refine ⟨q, e1, e2, ?_⟩
  show setSp s.sp p _ q = none
  unfold setSp
  rw [if_neg (fun e => by rw [e, hp] at e3; cases e3)]
  exact e3
 ·refine h.ob.runs q m hq ?_
  have hs' : setSp s.sp p { hd with tk := outI hd.tk i } q.toNat = none := hs
  unfold setSp at hs'
  split at hs'
  ·cases hs'
  ·exact hs'
 ·show y ∈ homes s ++ H ↔ _
  have hy := h.ob.hom y
  rw [hP.mem_iff, List.mem_cons] at hy
  simp only [hS]
  constructor
  ·intro hm
   have hne : y ≠ plc p hd.cls i := fun e => hN.1 (e ▸ hm)
   obtain ⟨⟨c, hc⟩, hl⟩ := hy.1 (.inr hm)
   exact ⟨⟨c, hc, hne⟩, hl⟩
  ·rintro ⟨⟨c, hc, hne⟩, hl⟩
   exact (hy.2 ⟨⟨c, hc⟩, hl⟩).resolve_left hne
 ·refine (hS x k).2 ⟨h.ob.cch j c k x hc hk hx, fun e => hN.1 (List.mem_append_left _ ?_)⟩
  subst e
  unfold homes
  refine List.mem_append_left _ (List.mem_flatMap.2 ⟨c, List.mem_of_getElem? hc, ?_⟩)
  unfold cpuL
  simp only [List.mem_append]
  match k, hk with
  | 0, _ => exact .inl hx
  | 1, _ => exact .inr (.inl hx)
  | 2, _ => exact .inr (.inr (.inl hx))
  | 3, _ => exact .inr (.inr (.inr hx))
 ·obtain ⟨k1, a, b, k2, k3, k4, k5⟩ := h.ob.book q pol hq
  refine ⟨k1, a, b, k2, k3, k4, ?_⟩
  show setSp s.sp p _ a.toNat = none
  unfold setSp
  rw [if_neg (fun e => by rw [e, hp] at k5; cases k5)]
  exact k5
end Go.Proofs.YtenkdmloolbdaaaGreatDoor.T
end
