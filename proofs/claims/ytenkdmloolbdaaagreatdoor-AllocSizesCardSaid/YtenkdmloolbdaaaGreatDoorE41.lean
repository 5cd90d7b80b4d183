import Derived.Test.YtenkdmloolbdaaaGreatDoorE39
import Derived.Test.YtenkdmloolbdaaaGreatDoorE40
set_option linter.unusedVariables false
set_option linter.unusedSimpArgs false
set_option maxHeartbeats 8000000
set_option maxRecDepth 100000
section
namespace Go.Proofs.YtenkdmloolbdaaaGreatDoor.T
open Go.RowKit Go.Maps Go.WideShapes Go.Proofs.YtenkdmloolbdaaaGreatDoorW.PrintWords Go.Proofs.YtenkdmloolbdaaaGreatDoorW.PrintLast Go.Proofs.YtenkdmloolbdaaaGreatDoorW.PrintMore
theorem large_own (m : Nat) (a : Ad) (s : St) (n page : Nat) (l : List (Int × Int)) (h1 : 1 ≤ n) (h2 : n ≤ 1024) (hpg : page ≤ 4096) (ht : TS.takeR (pgs n) s.rs = ((page : Int), 0, l)) :
 Do 63 #[.pointer (some ⟨m, 0, none⟩), .int .i64 n] m a s { s with rs := l } (.tuple #[.int .i64 ((64 * page : Nat) : Int), .int .i64 0]) := by
 intro κ w hg h
 have HPO := ak (fun W => pages_own n h1 h2 W)
 obtain ⟨q, hq⟩ : ∃ q, (n + 63) / 64 = q := ⟨_, rfl⟩
 have hpq : pgs n = (q : Int) := by unfold pgs; omega
 rw [hq] at HPO
 rw [hpq] at ht
 have HST := ak (space_take (q : Int) (by omega) (by omega) h.spc)
 rw [ht] at HST
 have c6 := h.c6
 have HM := ak h
 have hp0 : (0 : Int) ≤ (page : Int) := by omega
 have hp1 : (page : Int) ≤ 4096 := by omega
 clear h hg hq ht hpq
 go_enter Tryz.func63, Tryz.ntmps63
 go_wp2_with (first | (go_at_call 104; (with_reducible refine (HPO.1 _).mono ?_); rintro e_ w1 ⟨rfl, hw1⟩; have hw1 := hw1.symm; subst hw1) | (go_at_call 120; (with_reducible refine HST.1.mono ?_); rintro e_ w2 ⟨κ2, rfl, q1, q2⟩; have HM2 := ak (HM.1.putSpc _ q1 q2); have HU2 := ak q2; clear q1 q2 c6))
 go_ret2
 refine ⟨?_, κ2, HM2.1, HU2.1.mono (fun c e => by omega)⟩
 rw [show ((64 * page : Nat) : Int) = (page : Int) * 64 from by omega]
 rfl
theorem Mi.large {E t : Nat} {s : St} {H : List Int} (h : Mi E t s H) {n page : Nat} {l : List (Int × Int)} (h1 : 64 < n) (h2 : n ≤ 1024) (ht : TS.takeR (pgs n) s.rs = ((page : Int), 0, l)) (hpt : page ≤ t) : Mi E (t + 16) { s with rs := l, live := putF s.live ((64 * page : Nat) : Int) n } H := by
 obtain ⟨g1, g2, g3, g4, g5, g6⟩ := TS.take_ok h.fr.run ht
 have hF := h.fr.runs ht
 have hpn : 2 ≤ pgs n ∧ pgs n ≤ 16 := by unfold pgs; omega
 have hnsp : s.sp page = none := h.fr.nosp (by omega) g6 page (Int.le_refl _) (by omega)
 have hnl : s.live ((64 * page : Nat) : Int) = none ∧ ∀ c, ¬ Slot s ((64 * page : Nat) : Int) c := by
  have key : ∀ c, ¬ Slot s ((64 * page : Nat) : Int) c := fun c ⟨p, hd, i, k1, k2, k3, _⟩ => by
   obtain ⟨a1, a2, a3, a4, _⟩ := h.fr.spn p hd k1
   have c1 := plc_in (p := p) a1 k2
   have d1 := (cls_mul _ a1).2.1
   have := g6 _ a4
   unfold plc at k3
   simp only at this
   omega
  refine ⟨?_, key⟩
  cases hl : s.live ((64 * page : Nat) : Int) with
  | none => rfl
  | some sz =>
   exfalso
   obtain ⟨k1, k2, k3, k4⟩ := h.ob.live _ sz hl
   by_cases hs : sz ≤ 64
   ·exact key _ (k3 hs)
   ·obtain ⟨p, e1, e2, _⟩ := k4 (by omega)
    have := g6 _ e2
    have := h.fr.run.behind _ e2
    simp only at *
    omega
 have hkeep : ∀ q m, (q, m) ∈ s.rs → (q, m) ∈ l := fun q m hq => (g5 _).2 (.inl hq)
 refine ⟨⟨h.co.n1, h.co.n8, h.co.f2, h.co.chk, h.co.c16, h.co.cpl, h.co.cpu, h.co.mn, h.co.ql, h.co.pn, h.co.sn, h.co.ln, h.co.ev, by have := h.co.t1; omega, fun q hq => ?_⟩, hF.like rfl rfl rfl rfl rfl rfl rfl rfl, ⟨h.ob.tk, fun z sz hz => ?_, fun q m hq hs => ?_, h.ob.nod, fun z => ?_, h.ob.cch, h.ob.clen, h.ob.qlen, fun q pol hq => ?_⟩⟩
 ·rcases (g5 q).1 hq with hq | rfl
  ·have := h.co.top q hq
   omega
  ·simp only; omega
 ·have hz' : putF s.live ((64 * page : Nat) : Int) n z = some sz := hz
  unfold putF at hz'
  split at hz'
  ·rename_i e
   subst e
   obtain rfl := Option.some.inj hz'
   exact ⟨by omega, by omega, fun hh => by omega, fun _ => ⟨page, rfl, (g5 _).2 (.inr rfl), hnsp⟩⟩
  ·obtain ⟨k1, k2, k3, k4⟩ := h.ob.live z sz hz'
   refine ⟨k1, k2, k3, fun hh => ?_⟩
   obtain ⟨p, e1, e2, e3⟩ := k4 hh
   exact ⟨p, e1, hkeep _ _ e2, e3⟩
 ·show ∃ sz, putF s.live ((64 * page : Nat) : Int) n (64 * q) = some sz ∧ _
  rcases (g5 _).1 hq with hq | e
  ·obtain ⟨sz, k1, k2, k3⟩ := h.ob.runs q m hq hs
   refine ⟨sz, ?_, k2, k3⟩
   unfold putF
   rw [if_neg (fun e => by rw [e, hnl.1] at k1; cases k1)]
   exact k1
  ·injection e with e1 e2
   subst e1; subst e2
   refine ⟨n, ?_, by omega, rfl⟩
   unfold putF
   rw [if_pos (by omega)]
 ·show z ∈ homes s ++ H ↔ (∃ c, Slot s z c) ∧ putF s.live ((64 * page : Nat) : Int) n z = none
  unfold putF
  by_cases e : z = ((64 * page : Nat) : Int)
  ·rw [if_pos e]
   refine ⟨fun hm => ?_, fun hm => by cases hm.2⟩
   obtain ⟨⟨c, hc⟩, _⟩ := (h.ob.hom z).1 hm
   rw [e] at hc
   exact absurd hc (hnl.2 c)
  ·rw [if_neg e]
   exact h.ob.hom z
 ·obtain ⟨k1, a, b, k2, k3⟩ := h.ob.book q pol hq
  exact ⟨k1, a, b, hkeep _ _ k2, k3⟩
theorem malloc_large (m : Nat) (a : Ad) (s s1 : St) (j p n x : Nat) (h1 : 64 < n) (h2 : n ≤ 1024) (hx : x ≤ 1000000) (hp : a.cps[j]? = some p) (hln : s1.ln < 1000000) (hD : Do 63 #[.pointer (some ⟨m, 0, none⟩), .int .i64 n] m a s s1 (.tuple #[.int .i64 x, .int .i64 0])) :
 Do 21 #[.pointer (some ⟨m, 0, none⟩), .int .i64 j, .int .i64 n] m a s (liveS s1 x n) (.tuple #[.int .i64 x, .int .i64 0]) := by
 intro κ w hg h
 have HC := ak (cpu_own κ m a s j p hp w h)
 have HS := ak (hD κ w hg h)
 have HLN := ak hln
 have n1 : (1 : Int) ≤ (n : Int) := by omega
 have n2 : ¬ (n : Int) ≤ 64 := by omega
 have d0 : decide ((n : Int) < 1) = false := decide_eq_false (by omega)
 have d1 : decide (1024 < (n : Int)) = false := decide_eq_false (by omega)
 have d2 : decide ((n : Int) ≤ 64) = false := decide_eq_false (by omega)
 have HI := ak (And.intro (i64o (x : Int) (by omega) (by omega)) (i64o (n : Int) (by omega) (by omega)))
 clear h hg hD hln hp
 go_enter Tryz.func21, Tryz.ntmps21
 go_upto_region 12 with (first | (go_at_call 61; (with_reducible refine HC.1.mono ?_); rintro e_ w1 ⟨rfl, hw1⟩; have hw1 := hw1.symm; subst hw1) | (go_at_call 63; (with_reducible refine HS.1.mono ?_); rintro e_ w2 ⟨rfl, κ1, q1, q2⟩; have HM := ak q1; have HU := ak q2; clear q1 q2))
 have c12 := HM.1.c12
 obtain ⟨hk, D, hown, hv⟩ := HM.1.live
 have HO := ak hown
 have HV := ak (And.intro hk hv)
 clear hk hown hv
 go_wp2_with (at_mapUpdate; refine wpList_mapUpdate_own _ rfl _ _ _ 127 rfl 3 3 int_law Tryz.underlying127 (plainElem Tryz.prog 3) a.lb s1.ln D rfl HO.1 (by have := HLN.1; simp only [maxLen]; omega) _ (.int .i64 (n : Int)) (.int .i64 (x : Int)) rfl rfl (keyOf_int_mk Tryz.underlying3 HI.1.1) (.lit (.int .i64 (n : Int))) [] (plainElem_int Tryz.underlying3 HI.1.2) ?_; intro w9 hown1 hg1; have HW := ak (And.intro hown1 hg1); clear hown1 hg1)
 go_ret2
 have hU9 := Upd.of_grown HW.1.2 HV.1.1
 exact ⟨rfl, κ1, HM.1.putLive _ _ ⟨HV.1.1, _, HW.1.1, HV.1.2.put (HO.1.tidy int_law).isMap _ _⟩ hU9, HU.1.then hU9 (fun c e => by omega)⟩
theorem malloc_none (m : Nat) (a : Ad) (s s1 : St) (j p n : Nat) (h1 : 1 ≤ n) (h64 : n ≤ 64) (hp : a.cps[j]? = some p) (hD : Do 62 #[.pointer (some ⟨m, 0, none⟩), .int .i64 j, .pointer (some ⟨p, 0, none⟩), .int .i64 n] m a s s1 (.tuple #[.int .i64 0, .int .i64 5])) :
 Do 21 #[.pointer (some ⟨m, 0, none⟩), .int .i64 j, .int .i64 n] m a s s1 (.tuple #[.int .i64 0, .int .i64 5]) := by
 intro κ w hg h
 have HC := ak (cpu_own κ m a s j p hp w h)
 have HS := ak (hD κ w hg h)
 have n1 : (1 : Int) ≤ (n : Int) := by omega
 have n2 : (n : Int) ≤ 64 := by omega
 have d0 : decide ((n : Int) < 1) = false := decide_eq_false (by omega)
 have d1 : decide (1024 < (n : Int)) = false := decide_eq_false (by omega)
 clear h hg hD hp
 go_enter Tryz.func21, Tryz.ntmps21
 go_wp2_with (first | (go_at_call 61; (with_reducible refine HC.1.mono ?_); rintro e_ w1 ⟨rfl, hw1⟩; have hw1 := hw1.symm; subst hw1) | (go_at_call 62; (with_reducible refine HS.1.mono ?_); rintro e_ w2 ⟨rfl, κ1, q1, q2⟩; have HM := ak q1; have HU := ak q2; clear q1 q2))
 go_ret2
 exact ⟨rfl, κ1, HM.1, HU.1⟩
inductive MallocR (s : St) (j : Nat) (c : Cpu) (n : Nat) : Option Nat → St → Prop
 | small (x : Nat) (s1 : St) : n ≤ 64 → SmallR s j c (clOf n) (some x) s1 → MallocR s j c n (some x) { zS s1 x (clS (clOf n)) with live := putF s1.live (x : Int) n }
 | fail (s1 : St) : n ≤ 64 → SmallR s j c (clOf n) none s1 → MallocR s j c n none s1
 | large (page : Nat) (l : List (Int × Int)) : 64 < n → TS.takeR (pgs n) s.rs = ((page : Int), 0, l) → MallocR s j c n (some (64 * page)) { s with rs := l, live := putF s.live ((64 * page : Nat) : Int) n }
theorem Do.fix {f : Nat} {xs : Array Value} {m : Nat} {a : Ad} {s s1 s' : St} {r : Value} (h : Do f xs m a s s1 r) {E t : Nat} {H : List Int} (hI : Mi E t s' H) (e : s' = { s1 with pn := s'.pn, sn := s'.sn, ln := s'.ln, bs := s'.bs }) (hb : s'.bs = s1.bs) : Do f xs m a s s' r := fun κ w hg hm => by
 refine (h κ w hg hm).mono ?_
 rintro e_ w' ⟨rfl, κ', q1, q2⟩
 exact ⟨rfl, κ', q1.fix hI e (by rw [hb]) (fun i b b' hb1 hb2 => by rw [hb, hb1] at hb2; obtain rfl := Option.some.inj hb2; exact ⟨rfl, rfl⟩), q2⟩
theorem malloc_any [SortI] (E t : Nat) (H : List Int) (m : Nat) (a : Ad) (s : St) (j p : Nat) (c : Cpu) (n : Nat) (h1 : 1 ≤ n) (h2 : n ≤ 1024) (hE : E ≤ 100000) (ht : t + 16 ≤ 4096) (hp : a.cps[j]? = some p) (hc : s.cpus[j]? = some c) (hI : Mi E t s H) :
 ∃ res s', MallocR s j c n res s' ∧ Mi (E + 1) (t + 16) s' H ∧ Do 21 #[.pointer (some ⟨m, 0, none⟩), .int .i64 j, .int .i64 n] m a s s' (takV res) := by
 by_cases h64 : n ≤ 64
 ·obtain ⟨res, s1, hR, hM, hS, hD⟩ := small_any E t H m a s j p c n h1 h64 hE (by omega) hp hc hI
  cases res with
  | none => exact ⟨none, s1, MallocR.fail s1 h64 hR, hM.more (Nat.le_refl _) (by omega), malloc_none m a s s1 j p n h1 h64 hp hD⟩
  | some x =>
   have hs := hS x rfl
   have ho := hM.onPage hs
   have hz := hM.zero ho rfl
   have hb := Mi.born (x := (x : Int)) (n := (n : Int)) (c := 0) hz (by omega) (by omega) (by rw [Int.toNat_natCast]; exact zS_slot.2 hs)
   have hln : (zS s1 x (clS (clOf n))).ln < 1000000 := by have := hz.co.ln; omega
   have hDD : Do 21 #[.pointer (some ⟨m, 0, none⟩), .int .i64 j, .int .i64 n] m a s (liveS (zS s1 x (clS (clOf n))) x n) (takV (some x)) := fun κ w hg h => malloc_small κ m a s (zS s1 x (clS (clOf n))) j p n x h1 h64 (by have := ho.max; omega) hp hln w hg h (hD κ w hg h)
   exact ⟨some x, _, MallocR.small x s1 h64 hR, hb.more (Nat.le_refl _) (by omega), hDD.fix hb rfl rfl⟩
 ·have hpn : 1 ≤ pgs n ∧ pgs n ≤ 16 := by unfold pgs; omega
  obtain ⟨page, l, g1, g2, g3, g4, g5, g6, g7⟩ := TS.take_mem hI.fr.run (pgs n) (t : Int) hpn.1 (by have := hI.co.t1; omega) hI.co.top (by omega)
  have hM := hI.large (by omega) h2 g1 (by omega)
  have hD := large_own m a s n page l h1 h2 (by omega) g1
  have hDD := malloc_large m a s { s with rs := l } j p n (64 * page) (by omega) h2 (by omega) hp (by have := hI.co.ln; show s.ln < _; omega) hD
  exact ⟨some (64 * page), _, MallocR.large page l (by omega) g1, hM.more (by omega) (Nat.le_refl _), hDD.fix hM rfl rfl⟩
theorem book_of (κ : Kol) (b nodes : Nat) (bm : Int → Option Pol) (x : Int) (hx : I64 x) (w : World) (h : BookK κ w b nodes bm) :
 Calls Tryz.prog 154 #[.pointer (some ⟨b, 0, none⟩), .int .i64 x] w fun e w' => e = .returned (.tuple #[((bm x).getD pol0).val, .bool (bm x).isSome]) ∧ RowKit.Below w.heap.size w w' := by
 obtain ⟨mm, h1, h2⟩ := h
 have hb := below_alloc (RowKit.Below.refl w.heap.size w) (.cells #[.int .i64 0, .int .u8 0, .int .i64 0] 40)
 have hlk := (h2.below hb).look x hx
 have c1 := (h1.blk.below hb).at 1 (.map (some mm)) rfl
 obtain ⟨⟨mo, se, nd⟩, hpo⟩ : ∃ po, (bm x).getD pol0 = po := ⟨_, rfl⟩
 obtain ⟨ok, hok⟩ : ∃ ok, (bm x).isSome = ok := ⟨_, rfl⟩
 rw [hpo, hok] at hlk
 rw [hpo, hok]
 simp only [Pol.val] at hlk ⊢
 clear h1 h2 hpo hok hb
 go_enter Tryz.func154, Tryz.ntmps154
 go_wp2_with fail
 refine bodyPost_ret (results_ct rfl _ _ w.heap.size 40 #[.int .i64 mo, .int .u8 se, .int .i64 nd] (0, 0) _ rfl ((Blk.new w _ _).alloc _) Tryz.underlying40 rfl (by kernel_rfl)) rfl ?_
 exact ⟨rfl, below_alloc (below_alloc (RowKit.Below.refl _ _) _) _⟩
section
variable {κ : Kol} {w : World} {m : Nat} {a : Ad} {s : St}
theorem mach_store (h : MachK κ w m a s) : ∃ fb, (Calls Tryz.prog 78 #[.pointer (some ⟨a.mem, 0, none⟩)] w fun e w' => e = .returned (.pointer (some ⟨fb, 0, none⟩)) ∧ w' = w) ∧ ∀ n, n < s.n * s.f → s.n * s.f ≤ 100000 → Calls Tryz.prog 174 #[.pointer (some ⟨fb, 0, none⟩), .int .i64 ((n : Nat) : Int)] w fun e w' => e = .returned (.int .i64 0) ∧ MachK κ w' m a { s with l := spliceB s.l (n * 64) (List.replicate 64 0), pn := s.pn, pf := s.pf, pg := s.pg } ∧ Upd (· = 4) κ w κ w' := by
 obtain ⟨fb, tb, h1, h2, h3⟩ := h.mem
 refine ⟨fb, mem_store κ 3 a.mem s.f (s.n * s.f) s.pn s.l s.pf s.pg fb _ w h1, fun n hn hN => ?_⟩
 refine (clear_own κ (3 + 1) fb s.f (s.n * s.f) n s.l hn hN w h2).mono ?_
 rintro e w' ⟨rfl, q1, q2⟩
 exact ⟨rfl, h.putMem _ _ _ _ ⟨fb, tb, h1.upd q2 (by omega), q1, h3.upd q2 (fun c hc => by omega)⟩ (q2.mono (fun c e => by omega)), q2⟩
theorem mach_map (h : MachK κ w m a s) (hN : s.n * s.f ≤ 100000) (x y : Nat) (h1 : x < 4096) (hy : y < s.n * s.f) (hf : s.pf (x : Int) = none) (hg : s.pg (y : Int) = none) (hn : s.pn < 1000000) : Calls Tryz.prog 175 #[.pointer (some ⟨a.mem, 0, none⟩), .int .i64 (x : Int), .int .i64 (y : Int)] w fun e w' => e = .returned (.int .i64 0) ∧ MachK κ w' m a { s with l := s.l, pn := s.pn + 1, pf := putF s.pf x y, pg := putF s.pg y x } ∧ Upd (fun z => 3 ≤ z ∧ z < 8) κ w κ w' := by
 refine (mem_map κ 3 a.mem s.f (s.n * s.f) s.pn s.l s.pf s.pg hN (x : Int) (by omega) (by omega) y hy hf hg hn w h.mem).mono ?_
 rintro e w' ⟨rfl, q1, q2⟩
 have q3 : Upd (fun z => 3 ≤ z ∧ z < 8) κ w κ w' := q2.mono (fun c e => by omega)
 exact ⟨rfl, h.putMem _ _ _ _ q1 q3, q3⟩
end
def polOf (s : St) (c : Cpu) (q : Int) : Pol := (s.bm q).getD ⟨c.mode, c.set, c.nd⟩
def touchT (s : St) (j : Nat) (c : Cpu) (k st ow : Nat) (cur' : Int) (x : Bud) (K y q : Nat) (po : Int) : St :=
 { s with bs := s.bs.set k (takeB x K y 0), ev := s.ev ++ [⟨k, st, ow, po == 2⟩], cn := addC s.cn ⟨k, st, ow, po == 2⟩, cpus := s.cpus.set j { c with cur := cur' }, l := spliceB s.l ((k * s.f + y) * 64) (List.replicate 64 0), pf := putF s.pf q ((k * s.f + y : Nat) : Int), pg := putF s.pg ((k * s.f + y : Nat) : Int) q }
abbrev relT (s : St) (j : Nat) (c : Cpu) (cur0 : Int) : St := relvS (curT s j c cur0) j { c with cur := cur0 }
abbrev relC (c : Cpu) (cur0 : Int) : Cpu := { c with cur := cur0, L := upL c.L 4 }
inductive TouchR (s : St) (j : Nat) (c : Cpu) (q : Nat) : Bool → St → Prop
 | had (f : Int) : s.pf q = some f → TouchR s j c q true s
 | got (k st ow : Nat) (cur' : Int) (x : Bud) (K y : Nat) (r : List Nat) : s.pf q = none → AcqR s j c (polOf s c q).mode (polOf s c q).set (polOf s c q).nd 0 k st ow cur' x K y r → TouchR s j c q true (touchT s j c k st ow cur' x K y q (polOf s c q).mode)
 | again (st0 : Nat) (cur0 : Int) (k st ow : Nat) (cur' : Int) (x : Bud) (K y : Nat) (r : List Nat) : s.pf q = none → acqV s j c (polOf s c q).mode (polOf s c q).set (polOf s c q).nd 0 = (0, (st0 : Int), cur0, 5) → AcqR (relT s j c cur0) j (relC c cur0) (polOf s c q).mode (polOf s c q).set (polOf s c q).nd 0 k st ow cur' x K y r → TouchR s j c q true (touchT (relT s j c cur0) j (relC c cur0) k st ow cur' x K y q (polOf s c q).mode)
 | fail (st0 : Nat) (cur0 : Int) (st1 : Nat) (cur1 : Int) : s.pf q = none → acqV s j c (polOf s c q).mode (polOf s c q).set (polOf s c q).nd 0 = (0, (st0 : Int), cur0, 5) → acqV (relT s j c cur0) j (relC c cur0) (polOf s c q).mode (polOf s c q).set (polOf s c q).nd 0 = (0, (st1 : Int), cur1, 5) → TouchR s j c q false (curT (relT s j c cur0) j (relC c cur0) cur1)
structure Keep (s s' : St) : Prop where
 live : s'.live = s.live
 bm : s'.bm = s.bm
 big : ∀ q, Big s' q ↔ Big s q
 pf : ∀ q, Big s q → s'.pf q = s.pf q
theorem Keep.refl (s : St) : Keep s s := ⟨rfl, rfl, fun _ => Iff.rfl, fun _ _ => rfl⟩
theorem Keep.then {s s1 s2 : St} (h : Keep s s1) (k : Keep s1 s2) : Keep s s2 := ⟨k.live.trans h.live, k.bm.trans h.bm, fun q => (k.big q).trans (h.big q), fun q hq => (k.pf q ((h.big q).2 hq)).trans (h.pf q hq)⟩
theorem keep_back (s : St) (x : Int) : Keep s (backA s x) := by
 unfold backA findP
 split
 ·rename_i p hd hh
  split at hh
  ·rename_i p' _ _
   cases hs : s.sp p'.toNat with
   | none => rw [hs] at hh; cases hh
   | some h0 =>
    rw [hs] at hh
    simp only [Option.map_some, Option.some.injEq, Prod.mk.injEq] at hh
    obtain ⟨rfl, rfl⟩ := hh
    refine ⟨rfl, rfl, fun q => ?_, fun _ _ => rfl⟩
    have hn : ∀ r : Nat, setSp s.sp p'.toNat { h0 with tk := outI h0.tk ((x - 64 * ((p'.toNat : Nat) : Int)).toNat / clS h0.cls) } r = none ↔ s.sp r = none := fun r => by
     unfold setSp
     split
     ·rename_i e; subst e; rw [hs]; simp
     ·rfl
    exact ⟨fun ⟨a, b, h1, h2, h3, h4⟩ => ⟨a, b, h1, h2, h3, (hn _).1 h4⟩, fun ⟨a, b, h1, h2, h3, h4⟩ => ⟨a, b, h1, h2, h3, (hn _).2 h4⟩⟩
  ·cases hh
 ·exact Keep.refl s
theorem keep_backs : ∀ (l : List Int) (s : St), Keep s (l.foldl backA s)
 | [], s => Keep.refl s
 | x :: l, s => (keep_back s x).then (keep_backs l (backA s x))
theorem keep_rel1 {E t : Nat} {s : St} {H : List Int} (h : Mi E t s H) {p : Nat} {hd : Held} (hp : s.sp p = some hd) : Keep s (rel1 s p) := by
 obtain ⟨a1, a2, a3, a4, _⟩ := h.fr.spn p hd hp
 rw [rel1_at hp]
 refine ⟨rfl, rfl, fun q => ?_, fun q hq => ?_⟩
 ·constructor
  ·rintro ⟨a, b, k1, k2, k3, k4⟩
   obtain ⟨k1, k5⟩ := List.mem_filter.1 k1
   have k4' : (if a.toNat = p then none else s.sp a.toNat) = none := k4
   have := h.fr.run.all _ k1
   simp only [decide_eq_true_eq] at this k5
   rw [if_neg (by omega)] at k4'
   exact ⟨a, b, k1, k2, k3, k4'⟩
  ·rintro ⟨a, b, k1, k2, k3, k4⟩
   have hne : a.toNat ≠ p := fun e => by rw [e, hp] at k4; cases k4
   have := h.fr.run.all _ k1
   simp only at this
   exact ⟨a, b, List.mem_filter.2 ⟨k1, by simp only [decide_eq_true_eq]; omega⟩, k2, k3, (if_neg hne).trans k4⟩
 ·obtain ⟨a, b, k1, k2, k3, k4⟩ := hq
  show unF s.pf p _ q = s.pf q
  unfold unF
  rw [if_neg (fun e => ?_)]
  obtain ⟨e1, _⟩ := h.fr.run.one a4 k1 (x := q) e.1 (by have := e.2; simpa using this) k2 k3
  rw [← e1, Int.toNat_natCast, hp] at k4
  cases k4
theorem keep_fold {E t : Nat} {H : List Int} : ∀ {l : List Nat} {s : St}, l.Nodup → (∀ p ∈ l, ∃ hd, s.sp p = some hd ∧ hd.tk = 0) → Mi E t s H → Keep s (l.foldl rel1 s)
 | [], s, _, _, _ => Keep.refl s
 | p :: l, s, hn, hl, h => by
  obtain ⟨hd, h1, h2⟩ := hl p List.mem_cons_self
  have hn' := List.nodup_cons.1 hn
  refine (keep_rel1 h h1).then (keep_fold (s := rel1 s p) hn'.2 (fun q hq => ?_) (h.rel h1 h2))
  obtain ⟨hd', g1, g2⟩ := hl q (List.mem_cons_of_mem _ hq)
  refine ⟨hd', ?_, g2⟩
  rw [rel1_at h1]
  exact (if_neg (fun e => hn'.1 (by rw [← e]; exact hq))).trans g1
theorem keep_relv {E t : Nat} {s : St} {H : List Int} (h : Mi E t s H) {j : Nat} {c : Cpu} (hc : s.cpus[j]? = some c) : Keep s (relvS s j c) :=
 (show Keep s (emptS s j c) from ⟨rfl, rfl, fun _ => Iff.rfl, fun _ _ => rfl⟩).then ((keep_backs _ _).then (keep_fold (dead_nodup _) (fun p hp => (dead_mem.1 hp).2) (h.flush hc)))
theorem keep_cur (s : St) (j : Nat) (c : Cpu) (cur' : Int) : Keep s (curT s j c cur') := ⟨rfl, rfl, fun _ => Iff.rfl, fun _ _ => rfl⟩
theorem keep_relT {E t : Nat} {s : St} {H : List Int} (h : Mi E t s H) {j : Nat} {c : Cpu} (hc : s.cpus[j]? = some c) (cur0 : Int) : Keep s (relT s j c cur0) := (keep_cur s j c cur0).then (keep_relv (h.cur hc cur0) (get_set hc))
section
variable {E t : Nat} {s : St} {H : List Int} {j : Nat} {c : Cpu}
theorem Mi.pol (h : Mi E t s H) (hc : s.cpus[j]? = some c) (q : Int) : PolI s.n (polOf s c q).mode (polOf s c q).set (polOf s c q).nd := by
 unfold polOf
 cases hb : s.bm q with
 | none => exact (h.co.cpu j c hc).2
 | some pol => exact (h.ob.book q pol hb).1
theorem Mi.touch (h : Mi E t s H) (hc : s.cpus[j]? = some c) {po : Int} {ps : Nat} {pn : Int} {k st ow : Nat} {cur' : Int} {x : Bud} {K y : Nat} {r : List Nat} (hR : AcqR s j c po ps pn 0 k st ow cur' x K y r) {q : Nat} (hb : Big s q) (hq : s.pf q = none) : Mi (E + 1) t (touchT s j c k st ow cur' x K y q po) H := by
 have hF := h.fr.map1 hR.run hb hq
 have hC := (h.cur hc cur').co
 have hO := (h.cur hc cur').ob
 have hy : k * s.f + y + 1 ≤ s.n * s.f := (h.fr.fit1 hR.run).2.2
 refine ⟨⟨hC.n1, hC.n8, hC.f2, hC.chk, hC.c16, hC.cpl, hC.cpu, hC.mn, hC.ql, hC.pn, hC.sn, hC.ln, by show (s.ev ++ _).length ≤ _; have := h.co.ev; simp; omega, hC.t1, hC.top⟩, hF.like rfl rfl rfl (splice_len _ _ _ ?_) rfl rfl rfl rfl, ⟨hO.tk, hO.live, hO.runs, hO.nod, hO.hom, hO.cch, hO.clen, hO.qlen, hO.book⟩⟩
 rw [List.length_replicate, h.fr.len]
 have h1 : (k * s.f + y + 1) * 64 ≤ s.n * s.f * 64 := Nat.mul_le_mul_right _ hy
 omega
variable {m : Nat} {a : Ad} {p : Nat}
theorem acq_got [SortI] (h : Mi E t s H) (hE : E ≤ 100000) (hp : a.cps[j]? = some p) (hc : s.cpus[j]? = some c) {po : Int} {ps : Nat} {pn : Int} (hs8 : ps < 256) {k st ow : Nat} {cur' : Int} {x : Bud} {K y : Nat} {r : List Nat} (hR : AcqR s j c po ps pn 0 k st ow cur' x K y r) (κ : Kol) (w : World) (hm : MachK κ w m a s) :
 Calls Tryz.prog 173 #[.pointer (some ⟨m, 0, none⟩), .int .i64 j, .pointer (some ⟨p, 0, none⟩), .agg #[.int .i64 po, .int .u8 ps, .int .i64 pn], .int .i64 (0 : Int)] w fun e w' => e = .returned (.tuple #[.int .i64 ((k * s.f + y : Nat) : Int), .int .i64 k, .int .i64 0]) ∧ ∃ κ', MachK κ' w' m a (acqS s j c k st ow cur' x K y 0 po) ∧ Upd (fun z => 1 ≤ z) κ w κ' w' := by
 refine (acquire_gen κ m a s j p c 0 (by omega) po ps pn hs8 hp hc k st ow cur' 0 hR.v x K y r (fun _ => ⟨hR.run.hx, hR.can, hR.hk⟩) (fun b hb i _ => ?_) (by have := h.co.mn; omega) hR.hnode hR.how (fun _ => hR.hst) h.co.n8 (by have := h.co.ev; omega) w hm).mono ?_
 ·obtain ⟨i', hi⟩ := List.getElem?_of_mem hb
  exact (h.fr.bud i' b hi).len i
 ·rintro e w' ⟨h2, _⟩
  obtain ⟨e1, κ', e2, e3⟩ := h2 rfl
  exact ⟨e1, κ', e2, e3.mono (fun z hz => by omega)⟩
theorem acq_no [SortI] (h : Mi E t s H) (hE : E ≤ 100000) (hp : a.cps[j]? = some p) (hc : s.cpus[j]? = some c) {po : Int} {ps : Nat} {pn : Int} (hs8 : ps < 256) {st : Nat} {cur' : Int} (hv : acqV s j c po ps pn 0 = (0, (st : Int), cur', 5)) (κ : Kol) (w : World) (hm : MachK κ w m a s) :
 Calls Tryz.prog 173 #[.pointer (some ⟨m, 0, none⟩), .int .i64 j, .pointer (some ⟨p, 0, none⟩), .agg #[.int .i64 po, .int .u8 ps, .int .i64 pn], .int .i64 (0 : Int)] w fun e w' => e = .returned (.tuple #[.int .i64 0, .int .i64 0, .int .i64 5]) ∧ ∃ κ', MachK κ' w' m a (curT s j c cur') ∧ Upd (fun z => 1 ≤ z) κ w κ' w' := by
 obtain ⟨hcs, _⟩ := h.co.cpu j c hc
 have hnd := TZ.chk_cpus h.co.chk c.node (List.mem_of_getElem? hcs)
 refine (acquire_gen κ m a s j p c 0 (by omega) po ps pn hs8 hp hc 0 st c.node.toNat cur' 5 hv ⟨0, fun _ => [], fun _ => none⟩ 0 0 [] (fun e => by omega) (fun b hb i _ => ?_) (by have := h.co.mn; omega) (by omega) (by omega) (fun e => by omega) h.co.n8 (by have := h.co.ev; omega) w hm).mono ?_
 ·obtain ⟨i', hi⟩ := List.getElem?_of_mem hb
  exact (h.fr.bud i' b hi).len i
 ·rintro e w' ⟨_, h2⟩
  obtain ⟨e1, κ', e2, e3⟩ := h2 (by omega)
  exact ⟨e1, κ', e2, e3.mono (fun z hz => by omega)⟩
end
theorem same_bud {bs : List Bud} {k i : Nat} {X X' b b' : Bud} (hX : X'.fr = X.fr ∧ X'.tk = X.tk) (h1 : (bs.set k X)[i]? = some b) (h2 : (bs.set k X')[i]? = some b') : b'.fr = b.fr ∧ b'.tk = b.tk := by
 rcases mem_set h1 with ⟨rfl, rfl⟩ | ⟨e, h1⟩
 ·have := (List.getElem?_eq_some_iff.1 h2).1
  rw [List.length_set] at this
  rw [List.getElem?_set, if_pos rfl, if_pos this] at h2
  obtain rfl := Option.some.inj h2
  exact hX
 ·rw [List.getElem?_set, if_neg (fun h => e h.symm), h1] at h2
  obtain rfl := Option.some.inj h2
  exact ⟨rfl, rfl⟩
theorem backs_n : ∀ (l : List Int) (s : St), (l.foldl backA s).n = s.n
 | [], _ => rfl
 | x :: l, s => by
  rw [List.foldl_cons, backs_n l]
  unfold backA
  split <;> rfl
theorem rels_n : ∀ (l : List Nat) (s : St), (l.foldl rel1 s).n = s.n
 | [], _ => rfl
 | x :: l, s => by
  rw [List.foldl_cons, rels_n l]
  unfold rel1
  split <;> rfl
theorem keep_n {E t : Nat} {s : St} {H : List Int} (h : Mi E t s H) {j : Nat} {c : Cpu} (hc : s.cpus[j]? = some c) (cur0 : Int) : (relT s j c cur0).n = s.n := by
 show (relvS (curT s j c cur0) j _).n = _
 unfold relvS relS flushS
 rw [rels_n, backs_n]
 rfl
theorem touch_got_none [SortI] (E t : Nat) (H : List Int) (m : Nat) (a : Ad) (s : St) (j p q : Nat) (c : Cpu) (hE : E ≤ 100000) (hp : a.cps[j]? = some p) (hc : s.cpus[j]? = some c) (hI : Mi E t s H) (hb : Big s q) (hq : s.pf q = none) (hq4 : q < 4096) (hbm : s.bm q = none) (k st ow : Nat) (cur' : Int) (x : Bud) (K y : Nat) (r : List Nat) (hR : AcqR s j c c.mode c.set c.nd 0 k st ow cur' x K y r) :
 Do 121 #[.pointer (some ⟨m, 0, none⟩), .int .i64 j, .pointer (some ⟨p, 0, none⟩), .int .i64 q] m a s (touchT s j c k st ow cur' x K y q c.mode) (.int .i64 0) := by
 intro κ w hg h
 have hs8 := (hI.co.cpu j c hc).2.lt
 have hM := hI.touch hc hR hb hq
 have hN : s.n * s.f ≤ 100000 := by have : s.n * s.f ≤ 8 * 1024 := Nat.mul_le_mul hI.co.n8 (p2_le _ hI.co.f2).2; show s.n * s.f ≤ 100000; omega
 have hyN : k * s.f + y + 1 ≤ s.n * s.f := (hI.fr.fit1 hR.run).2.2
 have hpg : s.pg ((k * s.f + y : Nat) : Int) = none := hI.fr.bare1 hR.run 0 (by decide)
 have HAQ := ak (acq_got (m := m) (a := a) hI hE hp hc hs8 hR)
 have HMX := ak hM
 obtain ⟨fr, hfr⟩ : ∃ fr, k * s.f + y = fr := ⟨_, rfl⟩
 replace hyN : fr + 1 ≤ s.n * s.f := by omega
 replace hpg : s.pg (fr : Int) = none := by rw [← hfr]; exact hpg
 replace HAQ := ak (by have := HAQ.1; rw [show k * s.f + y = fr from hfr] at this; exact this)
 have HFR := ak hfr
 have HX := ak (And.intro hN (And.intro hyN (And.intro hq4 (And.intro hpg (And.intro hq hI.co.pn)))))
 have HM := ak h
 have HG := ak hg
 have HPC := ak (And.intro hp hc)
 have HF := ak (mem_frame κ 3 a.mem s.f (s.n * s.f) s.pn s.l s.pf s.pg (q : Int) (i64o _ (by omega) (by omega)) w h.mem)
 have HB := ak (book_of κ a.bk s.n s.bm (q : Int) (i64o _ (by omega) (by omega)) w h.bk)
 rw [hq] at HF
 rw [hbm] at HB
 replace HB := ak (show Calls Tryz.prog 154 #[.pointer (some ⟨a.bk, 0, none⟩), .int .i64 q] w (fun e w' => e = .returned (.tuple #[.agg #[.int .i64 0, .int .u8 0, .int .i64 0], .bool false]) ∧ RowKit.Below w.heap.size w w') from HB.1)
 have c7 := h.c7
 have c4 := h.c4
 clear h hg hp hc hI hb hq hs8 hbm hM hR hN hyN hpg hfr
 go_enter Tryz.func121, Tryz.ntmps121
 go_upto_region 5 with (first | (go_at_call 77; (with_reducible refine HF.1.mono ?_); rintro e_ w1 ⟨rfl, hw1⟩; have hw1 := hw1.symm; subst hw1) | (go_at_call 154; (with_reducible refine HB.1.mono ?_); rintro e_ w2 ⟨rfl, hb⟩; have HB2 := ak hb; clear hb))
 clear c7 c4
 have hm2 := (HM.1.below HB2.1).below (below_alloc (RowKit.Below.refl _ _) (.cells #[.int .i64 0, .int .u8 0, .int .i64 0] 40))
 have k1 := (hm2.cpuK HPC.1.1 HPC.1.2).k1
 have k2 := (hm2.cpuK HPC.1.1 HPC.1.2).k2
 have k3 := (hm2.cpuK HPC.1.1 HPC.1.2).k3
 clear hm2
 go_upto_region 7 with fail
 clear k1 k2 k3
 obtain ⟨κ1, hκ1⟩ : ∃ κ1, κ.ext w.heap.size 0 = κ1 := ⟨_, rfl⟩
 have hU1 : Upd (fun _ => False) κ w κ1 (w2.alloc (.cells #[.int .i64 c.mode, .int .u8 c.set, .int .i64 c.nd] 40)) := by rw [← hκ1]; exact (Upd.of_below κ (below_alloc HB2.1 _)).paint _ _ (Nat.le_refl _)
 have h0 : κ1 w2.heap.size = 0 := by rw [← hκ1]; exact Kol.ext_new κ HB2.1.size
 have HT1 := ak (show BlkK κ1 0 (w2.alloc (.cells #[.int .i64 c.mode, .int .u8 c.set, .int .i64 c.nd] 40)) w2.heap.size #[.int .i64 c.mode, .int .u8 c.set, .int .i64 c.nd] 40 from ⟨h0, Blk.new _ _ _⟩)
 have HM1 := ak (HM.1.upd hU1 (fun _ _ h => h))
 have HU1 : Aside0 (Upd (fun z => 1 ≤ z) κ w κ1 _) := ak (hU1.mono (fun _ h => h.elim))
 clear hU1 h0 hκ1
 generalize w2.alloc (.cells #[.int .i64 c.mode, .int .u8 c.set, .int .i64 c.nd] 40) = wc at *
 have t0 := HT1.1.blk.at 0 (.int .i64 c.mode) rfl
 have t1 := HT1.1.blk.at 1 (.int .u8 c.set) rfl
 have t2 := HT1.1.blk.at 2 (.int .i64 c.nd) rfl
 go_upto_region 13 with (go_at_call 173; (with_reducible refine (HAQ.1 _ _ HM1.1).mono ?_); rintro e_ w3 ⟨rfl, κ3, q1, q2⟩; have HM3 := ak q1; have HU3 := ak (HU1.1.then q2 (fun _ e => e)); have HT3 := ak (HT1.1.upd q2 (by omega)); clear q1 q2)
 clear t0 t1 t2
 obtain ⟨fb, st1, st2⟩ := mach_store HM3.1
 have HST := ak st1
 have HCL := ak (st2 fr (by have := HX.1.2.1; show fr < s.n * s.f; omega) HX.1.1)
 clear st1 st2
 have c4 := HM3.1.c4
 go_upto_region 14 with (first | (go_at_call 78; (with_reducible refine HST.1.mono ?_); rintro e_ w6 ⟨rfl, hw6⟩; have hw6 := hw6.symm; subst hw6) | (go_at_call 174; (with_reducible refine HCL.1.mono ?_); rintro e_ w7 ⟨rfl, q1, q2⟩; have HM7 := ak q1; have HU7 := ak (HU3.1.then q2 (fun c e => by have e : c = 4 := e; show 1 ≤ c; omega)); clear q1 q2))
 clear c4 HST HCL
 have c4 := HM7.1.c4
 have HMP := ak (mach_map HM7.1 HX.1.1 q fr HX.1.2.2.1 (by have := HX.1.2.1; show fr < s.n * s.f; omega) HX.1.2.2.2.2.1 HX.1.2.2.2.1 (by have e := HX.1.2.2.2.2.2; show s.pn < 1000000; omega))
 go_wp2_with (go_at_call 175; (with_reducible refine HMP.1.mono ?_); rintro e_ w8 ⟨rfl, q1, q2⟩; have HM8 := ak q1; have HU8 := ak (HU7.1.then q2 (fun c e => by omega)); clear q1 q2)
 go_ret
 obtain rfl := HFR.1
 refine ⟨rfl, _, HM8.1.fix HMX.1 rfl (by simp [touchT, acqS]) (fun i b b' h1 h2 => ?_), HU8.1⟩
 exact same_bud (bs := s.bs) (k := k) (X := ⟨x.c + 1, frAt x.fr K y 0, putF x.tk y 0⟩) (X' := takeB x K y 0) ⟨rfl, rfl⟩ h1 h2
theorem touch_again_none [SortI] (E t : Nat) (H : List Int) (m : Nat) (a : Ad) (s : St) (j p q : Nat) (c : Cpu) (hE : E ≤ 100000) (hp : a.cps[j]? = some p) (hc : s.cpus[j]? = some c) (hI : Mi E t s H) (hb : Big s q) (hq : s.pf q = none) (hq4 : q < 4096) (hbm : s.bm q = none) (st0 : Nat) (cur0 : Int) (hv0 : acqV s j c c.mode c.set c.nd 0 = (0, (st0 : Int), cur0, 5)) (k st ow : Nat) (cur' : Int) (x : Bud) (K y : Nat) (r : List Nat) (hR : AcqR (relT s j c cur0) j (relC c cur0) c.mode c.set c.nd 0 k st ow cur' x K y r) :
 Do 121 #[.pointer (some ⟨m, 0, none⟩), .int .i64 j, .pointer (some ⟨p, 0, none⟩), .int .i64 q] m a s (touchT (relT s j c cur0) j (relC c cur0) k st ow cur' x K y q c.mode) (.int .i64 0) := by
 intro κ w hg h
 have hs8 := (hI.co.cpu j c hc).2.lt
 have hI1 := hI.cur hc cur0
 have hc1 : (curT s j c cur0).cpus[j]? = some { c with cur := cur0 } := get_set hc
 have hI2 : Mi E t (relT s j c cur0) H := hI1.relieve hc1
 have hc2 : (relT s j c cur0).cpus[j]? = some (relC c cur0) := relv_cpu hc1
 have HA0 := ak (acq_no (m := m) (a := a) hI hE hp hc hs8 hv0)
 have HRV := ak (relieve_own E t H m a (curT s j c cur0) j p _ hp hc1 hI1)
 have hkp := keep_relT hI hc cur0
 have hM := hI2.touch hc2 hR ((hkp.big q).2 hb) ((hkp.pf q hb).trans hq)
 have hN : (relT s j c cur0).n * (relT s j c cur0).f ≤ 100000 := by have : (relT s j c cur0).n * (relT s j c cur0).f ≤ 8 * 1024 := Nat.mul_le_mul hI2.co.n8 (p2_le _ hI2.co.f2).2; omega
 have hyN : k * (relT s j c cur0).f + y + 1 ≤ (relT s j c cur0).n * (relT s j c cur0).f := (hI2.fr.fit1 hR.run).2.2
 have hpg : (relT s j c cur0).pg ((k * (relT s j c cur0).f + y : Nat) : Int) = none := hI2.fr.bare1 hR.run 0 (by decide)
 have HAQ := ak (acq_got (m := m) (a := a) hI2 hE hp hc2 hs8 hR)
 have HMX := ak hM
 obtain ⟨fr, hfr⟩ : ∃ fr, k * (relT s j c cur0).f + y = fr := ⟨_, rfl⟩
 replace hyN : fr + 1 ≤ (relT s j c cur0).n * (relT s j c cur0).f := by omega
 replace hpg : (relT s j c cur0).pg (fr : Int) = none := by rw [← hfr]; exact hpg
 replace HAQ := ak (by have := HAQ.1; rw [show k * (relT s j c cur0).f + y = fr from hfr] at this; exact this)
 have HFR := ak hfr
 have HX := ak (And.intro hN (And.intro hyN (And.intro hq4 (And.intro hpg (And.intro ((hkp.pf q hb).trans hq) hI2.co.pn)))))
 have HM := ak h
 have HG := ak hg
 have HPC := ak (And.intro hp hc)
 have HF := ak (mem_frame κ 3 a.mem s.f (s.n * s.f) s.pn s.l s.pf s.pg (q : Int) (i64o _ (by omega) (by omega)) w h.mem)
 have HB := ak (book_of κ a.bk s.n s.bm (q : Int) (i64o _ (by omega) (by omega)) w h.bk)
 rw [hq] at HF
 rw [hbm] at HB
 replace HB := ak (show Calls Tryz.prog 154 #[.pointer (some ⟨a.bk, 0, none⟩), .int .i64 q] w (fun e w' => e = .returned (.tuple #[.agg #[.int .i64 0, .int .u8 0, .int .i64 0], .bool false]) ∧ RowKit.Below w.heap.size w w') from HB.1)
 have c7 := h.c7
 have c4 := h.c4
 clear h hg hp hc hI hb hq hs8 hbm hM hR hN hyN hpg hfr hI1 hc1 hI2 hc2 hv0 hkp
 go_enter Tryz.func121, Tryz.ntmps121
 go_upto_region 5 with (first | (go_at_call 77; (with_reducible refine HF.1.mono ?_); rintro e_ w1 ⟨rfl, hw1⟩; have hw1 := hw1.symm; subst hw1) | (go_at_call 154; (with_reducible refine HB.1.mono ?_); rintro e_ w2 ⟨rfl, hb⟩; have HB2 := ak hb; clear hb))
 clear c7 c4
 have hm2 := (HM.1.below HB2.1).below (below_alloc (RowKit.Below.refl _ _) (.cells #[.int .i64 0, .int .u8 0, .int .i64 0] 40))
 have k1 := (hm2.cpuK HPC.1.1 HPC.1.2).k1
 have k2 := (hm2.cpuK HPC.1.1 HPC.1.2).k2
 have k3 := (hm2.cpuK HPC.1.1 HPC.1.2).k3
 clear hm2
 go_upto_region 7 with fail
 clear k1 k2 k3
 obtain ⟨κ1, hκ1⟩ : ∃ κ1, κ.ext w.heap.size 0 = κ1 := ⟨_, rfl⟩
 have hU1 : Upd (fun _ => False) κ w κ1 (w2.alloc (.cells #[.int .i64 c.mode, .int .u8 c.set, .int .i64 c.nd] 40)) := by rw [← hκ1]; exact (Upd.of_below κ (below_alloc HB2.1 _)).paint _ _ (Nat.le_refl _)
 have h0 : κ1 w2.heap.size = 0 := by rw [← hκ1]; exact Kol.ext_new κ HB2.1.size
 have HT1 := ak (show BlkK κ1 0 (w2.alloc (.cells #[.int .i64 c.mode, .int .u8 c.set, .int .i64 c.nd] 40)) w2.heap.size #[.int .i64 c.mode, .int .u8 c.set, .int .i64 c.nd] 40 from ⟨h0, Blk.new _ _ _⟩)
 have HM1 := ak (HM.1.upd hU1 (fun _ _ h => h))
 have HU1 : Aside0 (Upd (fun z => 1 ≤ z) κ w κ1 _) := ak (hU1.mono (fun _ h => h.elim))
 clear hU1 h0 hκ1
 generalize w2.alloc (.cells #[.int .i64 c.mode, .int .u8 c.set, .int .i64 c.nd] 40) = wc at *
 have t0 := HT1.1.blk.at 0 (.int .i64 c.mode) rfl
 have t1 := HT1.1.blk.at 1 (.int .u8 c.set) rfl
 have t2 := HT1.1.blk.at 2 (.int .i64 c.nd) rfl
 go_upto_region 9 with (go_at_call 173; (with_reducible refine (HA0.1 _ _ HM1.1).mono ?_); rintro e_ w3 ⟨rfl, κ3, q1, q2⟩; have HM3 := ak q1; have HU3 := ak (HU1.1.then q2 (fun _ e => e)); have HT3 := ak (HT1.1.upd q2 (by omega)); clear q1 q2)
 clear t0 t1 t2
 go_upto_region 10 with (go_at_call 118; (with_reducible refine (HRV.1.run κ3 _ (HG.1.upd HU3.1 (by omega)) HM3.1).mono ?_); rintro e_ w4 ⟨rfl, κ4, q1, q2⟩; have HM4 := ak (show MachK κ4 w4 m a (relT s j c cur0) from q1); have HU4 := ak (HU3.1.then q2 (fun _ e => e)); have HT4 := ak (HT3.1.upd q2 (by omega)); clear q1 q2)
 have t0 := HT4.1.blk.at 0 (.int .i64 c.mode) rfl
 have t1 := HT4.1.blk.at 1 (.int .u8 c.set) rfl
 have t2 := HT4.1.blk.at 2 (.int .i64 c.nd) rfl
 go_upto_region 13 with (go_at_call 173; (with_reducible refine (HAQ.1 _ _ HM4.1).mono ?_); rintro e_ w5 ⟨rfl, κ5, q1, q2⟩; have HM5 := ak q1; have HU5 := ak (HU4.1.then q2 (fun _ e => e)); have HT5 := ak (HT4.1.upd q2 (by omega)); clear q1 q2)
 clear t0 t1 t2
 obtain ⟨fb, st1, st2⟩ := mach_store HM5.1
 have HST := ak st1
 have HCL := ak (st2 fr (by have := HX.1.2.1; show fr < (relT s j c cur0).n * (relT s j c cur0).f; omega) HX.1.1)
 clear st1 st2
 have c4 := HM5.1.c4
 go_upto_region 14 with (first | (go_at_call 78; (with_reducible refine HST.1.mono ?_); rintro e_ w6 ⟨rfl, hw6⟩; have hw6 := hw6.symm; subst hw6) | (go_at_call 174; (with_reducible refine HCL.1.mono ?_); rintro e_ w7 ⟨rfl, q1, q2⟩; have HM7 := ak q1; have HU7 := ak (HU5.1.then q2 (fun c e => by have e : c = 4 := e; show 1 ≤ c; omega)); clear q1 q2))
 clear c4 HST HCL
 have c4 := HM7.1.c4
 have HMP := ak (mach_map HM7.1 HX.1.1 q fr HX.1.2.2.1 (by have := HX.1.2.1; show fr < (relT s j c cur0).n * (relT s j c cur0).f; omega) HX.1.2.2.2.2.1 HX.1.2.2.2.1 (by have e := HX.1.2.2.2.2.2; show (relT s j c cur0).pn < 1000000; omega))
 go_wp2_with (go_at_call 175; (with_reducible refine HMP.1.mono ?_); rintro e_ w8 ⟨rfl, q1, q2⟩; have HM8 := ak q1; have HU8 := ak (HU7.1.then q2 (fun c e => by omega)); clear q1 q2)
 go_ret
 obtain rfl := HFR.1
 refine ⟨rfl, _, HM8.1.fix HMX.1 rfl (by simp [touchT, acqS]) (fun i b b' h1 h2 => ?_), HU8.1⟩
 exact same_bud (bs := (relT s j c cur0).bs) (k := k) (X := ⟨x.c + 1, frAt x.fr K y 0, putF x.tk y 0⟩) (X' := takeB x K y 0) ⟨rfl, rfl⟩ h1 h2
theorem touch_fail_none [SortI] (E t : Nat) (H : List Int) (m : Nat) (a : Ad) (s : St) (j p q : Nat) (c : Cpu) (hE : E ≤ 100000) (hp : a.cps[j]? = some p) (hc : s.cpus[j]? = some c) (hI : Mi E t s H) (hb : Big s q) (hq : s.pf q = none) (hq4 : q < 4096) (hbm : s.bm q = none) (st0 : Nat) (cur0 : Int) (hv0 : acqV s j c c.mode c.set c.nd 0 = (0, (st0 : Int), cur0, 5)) (st1 : Nat) (cur1 : Int) (hv1 : acqV (relT s j c cur0) j (relC c cur0) c.mode c.set c.nd 0 = (0, (st1 : Int), cur1, 5)) :
 Do 121 #[.pointer (some ⟨m, 0, none⟩), .int .i64 j, .pointer (some ⟨p, 0, none⟩), .int .i64 q] m a s (curT (relT s j c cur0) j (relC c cur0) cur1) (.int .i64 5) := by
 intro κ w hg h
 have hs8 := (hI.co.cpu j c hc).2.lt
 have hI1 := hI.cur hc cur0
 have hc1 : (curT s j c cur0).cpus[j]? = some { c with cur := cur0 } := get_set hc
 have hI2 : Mi E t (relT s j c cur0) H := hI1.relieve hc1
 have hc2 : (relT s j c cur0).cpus[j]? = some (relC c cur0) := relv_cpu hc1
 have HA0 := ak (acq_no (m := m) (a := a) hI hE hp hc hs8 hv0)
 have HRV := ak (relieve_own E t H m a (curT s j c cur0) j p _ hp hc1 hI1)
 have HA1 := ak (acq_no (m := m) (a := a) hI2 hE hp hc2 hs8 hv1)
 have HM := ak h
 have HG := ak hg
 have HPC := ak (And.intro hp hc)
 have HF := ak (mem_frame κ 3 a.mem s.f (s.n * s.f) s.pn s.l s.pf s.pg (q : Int) (i64o _ (by omega) (by omega)) w h.mem)
 have HB := ak (book_of κ a.bk s.n s.bm (q : Int) (i64o _ (by omega) (by omega)) w h.bk)
 rw [hq] at HF
 rw [hbm] at HB
 replace HB := ak (show Calls Tryz.prog 154 #[.pointer (some ⟨a.bk, 0, none⟩), .int .i64 q] w (fun e w' => e = .returned (.tuple #[.agg #[.int .i64 0, .int .u8 0, .int .i64 0], .bool false]) ∧ RowKit.Below w.heap.size w w') from HB.1)
 have c7 := h.c7
 have c4 := h.c4
 clear h hg hp hc hI hb hq hs8 hbm hI1 hc1 hI2 hc2 hv0 hv1
 go_enter Tryz.func121, Tryz.ntmps121
 go_upto_region 5 with (first | (go_at_call 77; (with_reducible refine HF.1.mono ?_); rintro e_ w1 ⟨rfl, hw1⟩; have hw1 := hw1.symm; subst hw1) | (go_at_call 154; (with_reducible refine HB.1.mono ?_); rintro e_ w2 ⟨rfl, hb⟩; have HB2 := ak hb; clear hb))
 clear c7 c4
 have hm2 := (HM.1.below HB2.1).below (below_alloc (RowKit.Below.refl _ _) (.cells #[.int .i64 0, .int .u8 0, .int .i64 0] 40))
 have k1 := (hm2.cpuK HPC.1.1 HPC.1.2).k1
 have k2 := (hm2.cpuK HPC.1.1 HPC.1.2).k2
 have k3 := (hm2.cpuK HPC.1.1 HPC.1.2).k3
 clear hm2
 go_upto_region 7 with fail
 clear k1 k2 k3
 obtain ⟨κ1, hκ1⟩ : ∃ κ1, κ.ext w.heap.size 0 = κ1 := ⟨_, rfl⟩
 have hU1 : Upd (fun _ => False) κ w κ1 (w2.alloc (.cells #[.int .i64 c.mode, .int .u8 c.set, .int .i64 c.nd] 40)) := by rw [← hκ1]; exact (Upd.of_below κ (below_alloc HB2.1 _)).paint _ _ (Nat.le_refl _)
 have h0 : κ1 w2.heap.size = 0 := by rw [← hκ1]; exact Kol.ext_new κ HB2.1.size
 have HT1 := ak (show BlkK κ1 0 (w2.alloc (.cells #[.int .i64 c.mode, .int .u8 c.set, .int .i64 c.nd] 40)) w2.heap.size #[.int .i64 c.mode, .int .u8 c.set, .int .i64 c.nd] 40 from ⟨h0, Blk.new _ _ _⟩)
 have HM1 := ak (HM.1.upd hU1 (fun _ _ h => h))
 have HU1 : Aside0 (Upd (fun z => 1 ≤ z) κ w κ1 _) := ak (hU1.mono (fun _ h => h.elim))
 clear hU1 h0 hκ1
 generalize w2.alloc (.cells #[.int .i64 c.mode, .int .u8 c.set, .int .i64 c.nd] 40) = wc at *
 have t0 := HT1.1.blk.at 0 (.int .i64 c.mode) rfl
 have t1 := HT1.1.blk.at 1 (.int .u8 c.set) rfl
 have t2 := HT1.1.blk.at 2 (.int .i64 c.nd) rfl
 go_upto_region 9 with (go_at_call 173; (with_reducible refine (HA0.1 _ _ HM1.1).mono ?_); rintro e_ w3 ⟨rfl, κ3, q1, q2⟩; have HM3 := ak q1; have HU3 := ak (HU1.1.then q2 (fun _ e => e)); have HT3 := ak (HT1.1.upd q2 (by omega)); clear q1 q2)
 clear t0 t1 t2
 go_upto_region 10 with (go_at_call 118; (with_reducible refine (HRV.1.run κ3 _ (HG.1.upd HU3.1 (by omega)) HM3.1).mono ?_); rintro e_ w4 ⟨rfl, κ4, q1, q2⟩; have HM4 := ak (show MachK κ4 w4 m a (relT s j c cur0) from q1); have HU4 := ak (HU3.1.then q2 (fun _ e => e)); have HT4 := ak (HT3.1.upd q2 (by omega)); clear q1 q2)
 have t0 := HT4.1.blk.at 0 (.int .i64 c.mode) rfl
 have t1 := HT4.1.blk.at 1 (.int .u8 c.set) rfl
 have t2 := HT4.1.blk.at 2 (.int .i64 c.nd) rfl
 go_wp2_with (go_at_call 173; (with_reducible refine (HA1.1 _ _ HM4.1).mono ?_); rintro e_ w5 ⟨rfl, κ5, q1, q2⟩; have HM5 := ak q1; have HU5 := ak (HU4.1.then q2 (fun _ e => e)); have HT5 := ak (HT4.1.upd q2 (by omega)); clear q1 q2)
 go_ret
 exact ⟨rfl, κ5, HM5.1, HU5.1⟩
theorem touch_got_some [SortI] (E t : Nat) (H : List Int) (m : Nat) (a : Ad) (s : St) (j p q : Nat) (c : Cpu) (hE : E ≤ 100000) (hp : a.cps[j]? = some p) (hc : s.cpus[j]? = some c) (hI : Mi E t s H) (hb : Big s q) (hq : s.pf q = none) (hq4 : q < 4096) (mo : Int) (se : Nat) (nd : Int) (hbm : s.bm q = some ⟨mo, se, nd⟩) (k st ow : Nat) (cur' : Int) (x : Bud) (K y : Nat) (r : List Nat) (hR : AcqR s j c mo se nd 0 k st ow cur' x K y r) :
 Do 121 #[.pointer (some ⟨m, 0, none⟩), .int .i64 j, .pointer (some ⟨p, 0, none⟩), .int .i64 q] m a s (touchT s j c k st ow cur' x K y q mo) (.int .i64 0) := by
 intro κ w hg h
 have hs8 : se < 256 := (hI.ob.book _ _ hbm).1.lt
 have hM := hI.touch hc hR hb hq
 have hN : s.n * s.f ≤ 100000 := by have : s.n * s.f ≤ 8 * 1024 := Nat.mul_le_mul hI.co.n8 (p2_le _ hI.co.f2).2; show s.n * s.f ≤ 100000; omega
 have hyN : k * s.f + y + 1 ≤ s.n * s.f := (hI.fr.fit1 hR.run).2.2
 have hpg : s.pg ((k * s.f + y : Nat) : Int) = none := hI.fr.bare1 hR.run 0 (by decide)
 have HAQ := ak (acq_got (m := m) (a := a) hI hE hp hc hs8 hR)
 have HMX := ak hM
 obtain ⟨fr, hfr⟩ : ∃ fr, k * s.f + y = fr := ⟨_, rfl⟩
 replace hyN : fr + 1 ≤ s.n * s.f := by omega
 replace hpg : s.pg (fr : Int) = none := by rw [← hfr]; exact hpg
 replace HAQ := ak (by have := HAQ.1; rw [show k * s.f + y = fr from hfr] at this; exact this)
 have HFR := ak hfr
 have HX := ak (And.intro hN (And.intro hyN (And.intro hq4 (And.intro hpg (And.intro hq hI.co.pn)))))
 have HM := ak h
 have HG := ak hg
 have HPC := ak (And.intro hp hc)
 have HF := ak (mem_frame κ 3 a.mem s.f (s.n * s.f) s.pn s.l s.pf s.pg (q : Int) (i64o _ (by omega) (by omega)) w h.mem)
 have HB := ak (book_of κ a.bk s.n s.bm (q : Int) (i64o _ (by omega) (by omega)) w h.bk)
 rw [hq] at HF
 rw [hbm] at HB
 replace HB := ak (show Calls Tryz.prog 154 #[.pointer (some ⟨a.bk, 0, none⟩), .int .i64 q] w (fun e w' => e = .returned (.tuple #[.agg #[.int .i64 mo, .int .u8 se, .int .i64 nd], .bool true]) ∧ RowKit.Below w.heap.size w w') from HB.1)
 have c7 := h.c7
 have c4 := h.c4
 clear h hg hp hc hI hb hq hs8 hbm hM hR hN hyN hpg hfr
 go_enter Tryz.func121, Tryz.ntmps121
 go_upto_region 5 with (first | (go_at_call 77; (with_reducible refine HF.1.mono ?_); rintro e_ w1 ⟨rfl, hw1⟩; have hw1 := hw1.symm; subst hw1) | (go_at_call 154; (with_reducible refine HB.1.mono ?_); rintro e_ w2 ⟨rfl, hb⟩; have HB2 := ak hb; clear hb))
 clear c7 c4
 go_upto_region 7 with fail
 obtain ⟨κ1, hκ1⟩ : ∃ κ1, κ.ext w.heap.size 0 = κ1 := ⟨_, rfl⟩
 have hU1 : Upd (fun _ => False) κ w κ1 (w2.alloc (.cells #[.int .i64 mo, .int .u8 se, .int .i64 nd] 40)) := by rw [← hκ1]; exact (Upd.of_below κ (below_alloc HB2.1 _)).paint _ _ (Nat.le_refl _)
 have h0 : κ1 w2.heap.size = 0 := by rw [← hκ1]; exact Kol.ext_new κ HB2.1.size
 have HT1 := ak (show BlkK κ1 0 (w2.alloc (.cells #[.int .i64 mo, .int .u8 se, .int .i64 nd] 40)) w2.heap.size #[.int .i64 mo, .int .u8 se, .int .i64 nd] 40 from ⟨h0, Blk.new _ _ _⟩)
 have HM1 := ak (HM.1.upd hU1 (fun _ _ h => h))
 have HU1 : Aside0 (Upd (fun z => 1 ≤ z) κ w κ1 _) := ak (hU1.mono (fun _ h => h.elim))
 clear hU1 h0 hκ1
 generalize w2.alloc (.cells #[.int .i64 mo, .int .u8 se, .int .i64 nd] 40) = wc at *
 have t0 := HT1.1.blk.at 0 (.int .i64 mo) rfl
 have t1 := HT1.1.blk.at 1 (.int .u8 se) rfl
 have t2 := HT1.1.blk.at 2 (.int .i64 nd) rfl
 go_upto_region 13 with (go_at_call 173; (with_reducible refine (HAQ.1 _ _ HM1.1).mono ?_); rintro e_ w3 ⟨rfl, κ3, q1, q2⟩; have HM3 := ak q1; have HU3 := ak (HU1.1.then q2 (fun _ e => e)); have HT3 := ak (HT1.1.upd q2 (by omega)); clear q1 q2)
 clear t0 t1 t2
 obtain ⟨fb, st1, st2⟩ := mach_store HM3.1
 have HST := ak st1
 have HCL := ak (st2 fr (by have := HX.1.2.1; show fr < s.n * s.f; omega) HX.1.1)
 clear st1 st2
 have c4 := HM3.1.c4
 go_upto_region 14 with (first | (go_at_call 78; (with_reducible refine HST.1.mono ?_); rintro e_ w6 ⟨rfl, hw6⟩; have hw6 := hw6.symm; subst hw6) | (go_at_call 174; (with_reducible refine HCL.1.mono ?_); rintro e_ w7 ⟨rfl, q1, q2⟩; have HM7 := ak q1; have HU7 := ak (HU3.1.then q2 (fun c e => by have e : c = 4 := e; show 1 ≤ c; omega)); clear q1 q2))
 clear c4 HST HCL
 have c4 := HM7.1.c4
 have HMP := ak (mach_map HM7.1 HX.1.1 q fr HX.1.2.2.1 (by have := HX.1.2.1; show fr < s.n * s.f; omega) HX.1.2.2.2.2.1 HX.1.2.2.2.1 (by have e := HX.1.2.2.2.2.2; show s.pn < 1000000; omega))
 go_wp2_with (go_at_call 175; (with_reducible refine HMP.1.mono ?_); rintro e_ w8 ⟨rfl, q1, q2⟩; have HM8 := ak q1; have HU8 := ak (HU7.1.then q2 (fun c e => by omega)); clear q1 q2)
 go_ret
 obtain rfl := HFR.1
 refine ⟨rfl, _, HM8.1.fix HMX.1 rfl (by simp [touchT, acqS]) (fun i b b' h1 h2 => ?_), HU8.1⟩
 exact same_bud (bs := s.bs) (k := k) (X := ⟨x.c + 1, frAt x.fr K y 0, putF x.tk y 0⟩) (X' := takeB x K y 0) ⟨rfl, rfl⟩ h1 h2
theorem touch_again_some [SortI] (E t : Nat) (H : List Int) (m : Nat) (a : Ad) (s : St) (j p q : Nat) (c : Cpu) (hE : E ≤ 100000) (hp : a.cps[j]? = some p) (hc : s.cpus[j]? = some c) (hI : Mi E t s H) (hb : Big s q) (hq : s.pf q = none) (hq4 : q < 4096) (mo : Int) (se : Nat) (nd : Int) (hbm : s.bm q = some ⟨mo, se, nd⟩) (st0 : Nat) (cur0 : Int) (hv0 : acqV s j c mo se nd 0 = (0, (st0 : Int), cur0, 5)) (k st ow : Nat) (cur' : Int) (x : Bud) (K y : Nat) (r : List Nat) (hR : AcqR (relT s j c cur0) j (relC c cur0) mo se nd 0 k st ow cur' x K y r) :
 Do 121 #[.pointer (some ⟨m, 0, none⟩), .int .i64 j, .pointer (some ⟨p, 0, none⟩), .int .i64 q] m a s (touchT (relT s j c cur0) j (relC c cur0) k st ow cur' x K y q mo) (.int .i64 0) := by
 intro κ w hg h
 have hs8 : se < 256 := (hI.ob.book _ _ hbm).1.lt
 have hI1 := hI.cur hc cur0
 have hc1 : (curT s j c cur0).cpus[j]? = some { c with cur := cur0 } := get_set hc
 have hI2 : Mi E t (relT s j c cur0) H := hI1.relieve hc1
 have hc2 : (relT s j c cur0).cpus[j]? = some (relC c cur0) := relv_cpu hc1
 have HA0 := ak (acq_no (m := m) (a := a) hI hE hp hc hs8 hv0)
 have HRV := ak (relieve_own E t H m a (curT s j c cur0) j p _ hp hc1 hI1)
 have hkp := keep_relT hI hc cur0
 have hM := hI2.touch hc2 hR ((hkp.big q).2 hb) ((hkp.pf q hb).trans hq)
 have hN : (relT s j c cur0).n * (relT s j c cur0).f ≤ 100000 := by have : (relT s j c cur0).n * (relT s j c cur0).f ≤ 8 * 1024 := Nat.mul_le_mul hI2.co.n8 (p2_le _ hI2.co.f2).2; omega
 have hyN : k * (relT s j c cur0).f + y + 1 ≤ (relT s j c cur0).n * (relT s j c cur0).f := (hI2.fr.fit1 hR.run).2.2
 have hpg : (relT s j c cur0).pg ((k * (relT s j c cur0).f + y : Nat) : Int) = none := hI2.fr.bare1 hR.run 0 (by decide)
 have HAQ := ak (acq_got (m := m) (a := a) hI2 hE hp hc2 hs8 hR)
 have HMX := ak hM
 obtain ⟨fr, hfr⟩ : ∃ fr, k * (relT s j c cur0).f + y = fr := ⟨_, rfl⟩
 replace hyN : fr + 1 ≤ (relT s j c cur0).n * (relT s j c cur0).f := by omega
 replace hpg : (relT s j c cur0).pg (fr : Int) = none := by rw [← hfr]; exact hpg
 replace HAQ := ak (by have := HAQ.1; rw [show k * (relT s j c cur0).f + y = fr from hfr] at this; exact this)
 have HFR := ak hfr
 have HX := ak (And.intro hN (And.intro hyN (And.intro hq4 (And.intro hpg (And.intro ((hkp.pf q hb).trans hq) hI2.co.pn)))))
 have HM := ak h
 have HG := ak hg
 have HPC := ak (And.intro hp hc)
 have HF := ak (mem_frame κ 3 a.mem s.f (s.n * s.f) s.pn s.l s.pf s.pg (q : Int) (i64o _ (by omega) (by omega)) w h.mem)
 have HB := ak (book_of κ a.bk s.n s.bm (q : Int) (i64o _ (by omega) (by omega)) w h.bk)
 rw [hq] at HF
 rw [hbm] at HB
 replace HB := ak (show Calls Tryz.prog 154 #[.pointer (some ⟨a.bk, 0, none⟩), .int .i64 q] w (fun e w' => e = .returned (.tuple #[.agg #[.int .i64 mo, .int .u8 se, .int .i64 nd], .bool true]) ∧ RowKit.Below w.heap.size w w') from HB.1)
 have c7 := h.c7
 have c4 := h.c4
 clear h hg hp hc hI hb hq hs8 hbm hM hR hN hyN hpg hfr hI1 hc1 hI2 hc2 hv0 hkp
 go_enter Tryz.func121, Tryz.ntmps121
 go_upto_region 5 with (first | (go_at_call 77; (with_reducible refine HF.1.mono ?_); rintro e_ w1 ⟨rfl, hw1⟩; have hw1 := hw1.symm; subst hw1) | (go_at_call 154; (with_reducible refine HB.1.mono ?_); rintro e_ w2 ⟨rfl, hb⟩; have HB2 := ak hb; clear hb))
 clear c7 c4
 go_upto_region 7 with fail
 obtain ⟨κ1, hκ1⟩ : ∃ κ1, κ.ext w.heap.size 0 = κ1 := ⟨_, rfl⟩
 have hU1 : Upd (fun _ => False) κ w κ1 (w2.alloc (.cells #[.int .i64 mo, .int .u8 se, .int .i64 nd] 40)) := by rw [← hκ1]; exact (Upd.of_below κ (below_alloc HB2.1 _)).paint _ _ (Nat.le_refl _)
 have h0 : κ1 w2.heap.size = 0 := by rw [← hκ1]; exact Kol.ext_new κ HB2.1.size
 have HT1 := ak (show BlkK κ1 0 (w2.alloc (.cells #[.int .i64 mo, .int .u8 se, .int .i64 nd] 40)) w2.heap.size #[.int .i64 mo, .int .u8 se, .int .i64 nd] 40 from ⟨h0, Blk.new _ _ _⟩)
 have HM1 := ak (HM.1.upd hU1 (fun _ _ h => h))
 have HU1 : Aside0 (Upd (fun z => 1 ≤ z) κ w κ1 _) := ak (hU1.mono (fun _ h => h.elim))
 clear hU1 h0 hκ1
 generalize w2.alloc (.cells #[.int .i64 mo, .int .u8 se, .int .i64 nd] 40) = wc at *
 have t0 := HT1.1.blk.at 0 (.int .i64 mo) rfl
 have t1 := HT1.1.blk.at 1 (.int .u8 se) rfl
 have t2 := HT1.1.blk.at 2 (.int .i64 nd) rfl
 go_upto_region 9 with (go_at_call 173; (with_reducible refine (HA0.1 _ _ HM1.1).mono ?_); rintro e_ w3 ⟨rfl, κ3, q1, q2⟩; have HM3 := ak q1; have HU3 := ak (HU1.1.then q2 (fun _ e => e)); have HT3 := ak (HT1.1.upd q2 (by omega)); clear q1 q2)
 clear t0 t1 t2
 go_upto_region 10 with (go_at_call 118; (with_reducible refine (HRV.1.run κ3 _ (HG.1.upd HU3.1 (by omega)) HM3.1).mono ?_); rintro e_ w4 ⟨rfl, κ4, q1, q2⟩; have HM4 := ak (show MachK κ4 w4 m a (relT s j c cur0) from q1); have HU4 := ak (HU3.1.then q2 (fun _ e => e)); have HT4 := ak (HT3.1.upd q2 (by omega)); clear q1 q2)
 have t0 := HT4.1.blk.at 0 (.int .i64 mo) rfl
 have t1 := HT4.1.blk.at 1 (.int .u8 se) rfl
 have t2 := HT4.1.blk.at 2 (.int .i64 nd) rfl
 go_upto_region 13 with (go_at_call 173; (with_reducible refine (HAQ.1 _ _ HM4.1).mono ?_); rintro e_ w5 ⟨rfl, κ5, q1, q2⟩; have HM5 := ak q1; have HU5 := ak (HU4.1.then q2 (fun _ e => e)); have HT5 := ak (HT4.1.upd q2 (by omega)); clear q1 q2)
 clear t0 t1 t2
 obtain ⟨fb, st1, st2⟩ := mach_store HM5.1
 have HST := ak st1
 have HCL := ak (st2 fr (by have := HX.1.2.1; show fr < (relT s j c cur0).n * (relT s j c cur0).f; omega) HX.1.1)
 clear st1 st2
 have c4 := HM5.1.c4
 go_upto_region 14 with (first | (go_at_call 78; (with_reducible refine HST.1.mono ?_); rintro e_ w6 ⟨rfl, hw6⟩; have hw6 := hw6.symm; subst hw6) | (go_at_call 174; (with_reducible refine HCL.1.mono ?_); rintro e_ w7 ⟨rfl, q1, q2⟩; have HM7 := ak q1; have HU7 := ak (HU5.1.then q2 (fun c e => by have e : c = 4 := e; show 1 ≤ c; omega)); clear q1 q2))
 clear c4 HST HCL
 have c4 := HM7.1.c4
 have HMP := ak (mach_map HM7.1 HX.1.1 q fr HX.1.2.2.1 (by have := HX.1.2.1; show fr < (relT s j c cur0).n * (relT s j c cur0).f; omega) HX.1.2.2.2.2.1 HX.1.2.2.2.1 (by have e := HX.1.2.2.2.2.2; show (relT s j c cur0).pn < 1000000; omega))
 go_wp2_with (go_at_call 175; (with_reducible refine HMP.1.mono ?_); rintro e_ w8 ⟨rfl, q1, q2⟩; have HM8 := ak q1; have HU8 := ak (HU7.1.then q2 (fun c e => by omega)); clear q1 q2)
 go_ret
 obtain rfl := HFR.1
 refine ⟨rfl, _, HM8.1.fix HMX.1 rfl (by simp [touchT, acqS]) (fun i b b' h1 h2 => ?_), HU8.1⟩
 exact same_bud (bs := (relT s j c cur0).bs) (k := k) (X := ⟨x.c + 1, frAt x.fr K y 0, putF x.tk y 0⟩) (X' := takeB x K y 0) ⟨rfl, rfl⟩ h1 h2
theorem touch_fail_some [SortI] (E t : Nat) (H : List Int) (m : Nat) (a : Ad) (s : St) (j p q : Nat) (c : Cpu) (hE : E ≤ 100000) (hp : a.cps[j]? = some p) (hc : s.cpus[j]? = some c) (hI : Mi E t s H) (hb : Big s q) (hq : s.pf q = none) (hq4 : q < 4096) (mo : Int) (se : Nat) (nd : Int) (hbm : s.bm q = some ⟨mo, se, nd⟩) (st0 : Nat) (cur0 : Int) (hv0 : acqV s j c mo se nd 0 = (0, (st0 : Int), cur0, 5)) (st1 : Nat) (cur1 : Int) (hv1 : acqV (relT s j c cur0) j (relC c cur0) mo se nd 0 = (0, (st1 : Int), cur1, 5)) :
 Do 121 #[.pointer (some ⟨m, 0, none⟩), .int .i64 j, .pointer (some ⟨p, 0, none⟩), .int .i64 q] m a s (curT (relT s j c cur0) j (relC c cur0) cur1) (.int .i64 5) := by
 intro κ w hg h
 have hs8 : se < 256 := (hI.ob.book _ _ hbm).1.lt
 have hI1 := hI.cur hc cur0
 have hc1 : (curT s j c cur0).cpus[j]? = some { c with cur := cur0 } := get_set hc
 have hI2 : Mi E t (relT s j c cur0) H := hI1.relieve hc1
 have hc2 : (relT s j c cur0).cpus[j]? = some (relC c cur0) := relv_cpu hc1
 have HA0 := ak (acq_no (m := m) (a := a) hI hE hp hc hs8 hv0)
 have HRV := ak (relieve_own E t H m a (curT s j c cur0) j p _ hp hc1 hI1)
 have HA1 := ak (acq_no (m := m) (a := a) hI2 hE hp hc2 hs8 hv1)
 have HM := ak h
 have HG := ak hg
 have HPC := ak (And.intro hp hc)
 have HF := ak (mem_frame κ 3 a.mem s.f (s.n * s.f) s.pn s.l s.pf s.pg (q : Int) (i64o _ (by omega) (by omega)) w h.mem)
 have HB := ak (book_of κ a.bk s.n s.bm (q : Int) (i64o _ (by omega) (by omega)) w h.bk)
 rw [hq] at HF
 rw [hbm] at HB
 replace HB := ak (show Calls Tryz.prog 154 #[.pointer (some ⟨a.bk, 0, none⟩), .int .i64 q] w (fun e w' => e = .returned (.tuple #[.agg #[.int .i64 mo, .int .u8 se, .int .i64 nd], .bool true]) ∧ RowKit.Below w.heap.size w w') from HB.1)
 have c7 := h.c7
 have c4 := h.c4
 clear h hg hp hc hI hb hq hs8 hbm hI1 hc1 hI2 hc2 hv0 hv1
 go_enter Tryz.func121, Tryz.ntmps121
 go_upto_region 5 with (first | (go_at_call 77; (with_reducible refine HF.1.mono ?_); rintro e_ w1 ⟨rfl, hw1⟩; have hw1 := hw1.symm; subst hw1) | (go_at_call 154; (with_reducible refine HB.1.mono ?_); rintro e_ w2 ⟨rfl, hb⟩; have HB2 := ak hb; clear hb))
 clear c7 c4
 go_upto_region 7 with fail
 obtain ⟨κ1, hκ1⟩ : ∃ κ1, κ.ext w.heap.size 0 = κ1 := ⟨_, rfl⟩
 have hU1 : Upd (fun _ => False) κ w κ1 (w2.alloc (.cells #[.int .i64 mo, .int .u8 se, .int .i64 nd] 40)) := by rw [← hκ1]; exact (Upd.of_below κ (below_alloc HB2.1 _)).paint _ _ (Nat.le_refl _)
 have h0 : κ1 w2.heap.size = 0 := by rw [← hκ1]; exact Kol.ext_new κ HB2.1.size
 have HT1 := ak (show BlkK κ1 0 (w2.alloc (.cells #[.int .i64 mo, .int .u8 se, .int .i64 nd] 40)) w2.heap.size #[.int .i64 mo, .int .u8 se, .int .i64 nd] 40 from ⟨h0, Blk.new _ _ _⟩)
 have HM1 := ak (HM.1.upd hU1 (fun _ _ h => h))
 have HU1 : Aside0 (Upd (fun z => 1 ≤ z) κ w κ1 _) := ak (hU1.mono (fun _ h => h.elim))
 clear hU1 h0 hκ1
 generalize w2.alloc (.cells #[.int .i64 mo, .int .u8 se, .int .i64 nd] 40) = wc at *
 have t0 := HT1.1.blk.at 0 (.int .i64 mo) rfl
 have t1 := HT1.1.blk.at 1 (.int .u8 se) rfl
 have t2 := HT1.1.blk.at 2 (.int .i64 nd) rfl
 go_upto_region 9 with (go_at_call 173; (with_reducible refine (HA0.1 _ _ HM1.1).mono ?_); rintro e_ w3 ⟨rfl, κ3, q1, q2⟩; have HM3 := ak q1; have HU3 := ak (HU1.1.then q2 (fun _ e => e)); have HT3 := ak (HT1.1.upd q2 (by omega)); clear q1 q2)
 clear t0 t1 t2
 go_upto_region 10 with (go_at_call 118; (with_reducible refine (HRV.1.run κ3 _ (HG.1.upd HU3.1 (by omega)) HM3.1).mono ?_); rintro e_ w4 ⟨rfl, κ4, q1, q2⟩; have HM4 := ak (show MachK κ4 w4 m a (relT s j c cur0) from q1); have HU4 := ak (HU3.1.then q2 (fun _ e => e)); have HT4 := ak (HT3.1.upd q2 (by omega)); clear q1 q2)
 have t0 := HT4.1.blk.at 0 (.int .i64 mo) rfl
 have t1 := HT4.1.blk.at 1 (.int .u8 se) rfl
 have t2 := HT4.1.blk.at 2 (.int .i64 nd) rfl
 go_wp2_with (go_at_call 173; (with_reducible refine (HA1.1 _ _ HM4.1).mono ?_); rintro e_ w5 ⟨rfl, κ5, q1, q2⟩; have HM5 := ak q1; have HU5 := ak (HU4.1.then q2 (fun _ e => e)); have HT5 := ak (HT4.1.upd q2 (by omega)); clear q1 q2)
 go_ret
 exact ⟨rfl, κ5, HM5.1, HU5.1⟩
theorem touch_any [SortI] (E t : Nat) (H : List Int) (m : Nat) (a : Ad) (s : St) (j p q : Nat) (c : Cpu) (hE : E ≤ 100000) (hp : a.cps[j]? = some p) (hc : s.cpus[j]? = some c) (hI : Mi E t s H) (hb : Big s q) (hq4 : q < 4096) :
 ∃ ok s', TouchR s j c q ok s' ∧ Mi (E + 1) t s' H ∧ Do 121 #[.pointer (some ⟨m, 0, none⟩), .int .i64 j, .pointer (some ⟨p, 0, none⟩), .int .i64 q] m a s s' (.int .i64 (if ok then 0 else 5)) := by
 cases hq : s.pf q with
 | some f => exact ⟨true, s, TouchR.had f hq, hI.more (by omega) (Nat.le_refl _), fun κ w hg h => (touch_ok κ m a s j p q f (by omega) hq w h).mono fun e w' ⟨h1, h2⟩ => ⟨h1, κ, by rw [h2]; exact h, by rw [h2]; exact Upd.refl _ _ _⟩⟩
 | none =>
  have hP := hI.pol hc q
  have hI2 : ∀ cur0, Mi E t (relT s j c cur0) H := fun cur0 => (hI.cur hc cur0).relieve (get_set hc)
  have hc2 : ∀ cur0, (relT s j c cur0).cpus[j]? = some (relC c cur0) := fun cur0 => relv_cpu (get_set hc)
  have hn2 : ∀ cur0, (relT s j c cur0).n = s.n := fun cur0 => keep_n hI hc cur0
  have hkp := fun cur0 => keep_relT hI hc cur0
  rcases hI.acq hc hP (o := 0) (by decide) with ⟨st0, cur0, _, hv0⟩ | ⟨k, st, ow, cur', x, K, y, r, hR⟩
  ·rcases (hI2 cur0).acq (hc2 cur0) (by rw [hn2]; exact hP) (o := 0) (by decide) with ⟨st1, cur1, _, hv1⟩ | ⟨k, st, ow, cur', x, K, y, r, hR⟩
   ·refine ⟨false, _, TouchR.fail st0 cur0 st1 cur1 hq hv0 hv1, ((hI2 cur0).cur (hc2 cur0) cur1).more (by omega) (Nat.le_refl _), ?_⟩
    cases hbm : s.bm q with
    | none =>
     have e : polOf s c q = ⟨c.mode, c.set, c.nd⟩ := by unfold polOf; rw [hbm]; rfl
     rw [e] at hv0 hv1
     exact touch_fail_none E t H m a s j p q c hE hp hc hI hb hq hq4 hbm st0 cur0 hv0 st1 cur1 hv1
    | some po =>
     obtain ⟨mo, se, nd⟩ := po
     have e : polOf s c q = ⟨mo, se, nd⟩ := by unfold polOf; rw [hbm]; rfl
     rw [e] at hv0 hv1
     exact touch_fail_some E t H m a s j p q c hE hp hc hI hb hq hq4 mo se nd hbm st0 cur0 hv0 st1 cur1 hv1
   ·refine ⟨true, _, TouchR.again st0 cur0 k st ow cur' x K y r hq hv0 hR, (hI2 cur0).touch (hc2 cur0) hR (((hkp cur0).big q).2 hb) (((hkp cur0).pf q hb).trans hq), ?_⟩
    cases hbm : s.bm q with
    | none =>
     have e : polOf s c q = ⟨c.mode, c.set, c.nd⟩ := by unfold polOf; rw [hbm]; rfl
     rw [e] at hv0 hR ⊢
     exact touch_again_none E t H m a s j p q c hE hp hc hI hb hq hq4 hbm st0 cur0 hv0 k st ow cur' x K y r hR
    | some po =>
     obtain ⟨mo, se, nd⟩ := po
     have e : polOf s c q = ⟨mo, se, nd⟩ := by unfold polOf; rw [hbm]; rfl
     rw [e] at hv0 hR ⊢
     exact touch_again_some E t H m a s j p q c hE hp hc hI hb hq hq4 mo se nd hbm st0 cur0 hv0 k st ow cur' x K y r hR
  ·refine ⟨true, _, TouchR.got k st ow cur' x K y r hq hR, hI.touch hc hR hb hq, ?_⟩
   cases hbm : s.bm q with
   | none =>
    have e : polOf s c q = ⟨c.mode, c.set, c.nd⟩ := by unfold polOf; rw [hbm]; rfl
    rw [e] at hR ⊢
    exact touch_got_none E t H m a s j p q c hE hp hc hI hb hq hq4 hbm k st ow cur' x K y r hR
   | some po =>
    obtain ⟨mo, se, nd⟩ := po
    have e : polOf s c q = ⟨mo, se, nd⟩ := by unfold polOf; rw [hbm]; rfl
    rw [e] at hR ⊢
    exact touch_got_some E t H m a s j p q c hE hp hc hI hb hq hq4 mo se nd hbm k st ow cur' x K y r hR
inductive Touches (j : Nat) : Nat → Nat → St → Bool → St → Prop
 | nil (q : Nat) (s : St) : Touches j q 0 s true s
 | cons (q k : Nat) (s : St) (c : Cpu) (s1 : St) (ok : Bool) (s2 : St) : s.cpus[j]? = some c → TouchR s j c q true s1 → Touches j (q + 1) k s1 ok s2 → Touches j q (k + 1) s ok s2
 | stop (q k : Nat) (s : St) (c : Cpu) (s1 : St) : s.cpus[j]? = some c → TouchR s j c q false s1 → Touches j q (k + 1) s false s1
inductive TDo (m : Nat) (a : Ad) (j p : Nat) : Nat → Nat → St → Bool → St → Prop
 | nil (q : Nat) (s : St) : TDo m a j p q 0 s true s
 | cons (q k : Nat) (s s1 : St) (ok : Bool) (s2 : St) : Do 121 #[.pointer (some ⟨m, 0, none⟩), .int .i64 j, .pointer (some ⟨p, 0, none⟩), .int .i64 q] m a s s1 (.int .i64 0) → TDo m a j p (q + 1) k s1 ok s2 → TDo m a j p q (k + 1) s ok s2
 | stop (q k : Nat) (s s1 : St) : Do 121 #[.pointer (some ⟨m, 0, none⟩), .int .i64 j, .pointer (some ⟨p, 0, none⟩), .int .i64 q] m a s s1 (.int .i64 5) → TDo m a j p q (k + 1) s false s1
theorem touch_cpu {s : St} {j : Nat} {c c' : Cpu} (hc : s.cpus[j]? = some c) : (s.cpus.set j c')[j]? = some c' := get_set hc
theorem cur_at {s : St} {j : Nat} {c c0 : Cpu} (hc : s.cpus[j]? = some c0) {cur' : Int} : (curT s j c cur').cpus[j]? = some { c with cur := cur' } := touch_cpu hc
theorem touch_big {s : St} {j : Nat} {c : Cpu} {k st ow : Nat} {cur' : Int} {x : Bud} {K y q : Nat} {po : Int} (z : Int) : Big (touchT s j c k st ow cur' x K y q po) z ↔ Big s z := Iff.rfl
theorem touch_at {s : St} {j : Nat} {c c0 : Cpu} (hc : s.cpus[j]? = some c0) {k st ow : Nat} {cur' : Int} {x : Bud} {K y q : Nat} {po : Int} : (touchT s j c k st ow cur' x K y q po).cpus[j]? = some { c with cur := cur' } := touch_cpu hc
theorem TouchR.big {E t : Nat} {s : St} {H : List Int} (h : Mi E t s H) {j : Nat} {c : Cpu} (hc : s.cpus[j]? = some c) {q : Nat} {ok : Bool} {s' : St} (hT : TouchR s j c q ok s') : (∀ y, Big s' y ↔ Big s y) ∧ ∃ c', s'.cpus[j]? = some c' := by
 cases hT with
 | had f hf => exact ⟨fun _ => Iff.rfl, c, hc⟩
 | got k st ow cur' x K y r hf hR => exact ⟨fun _ => Iff.rfl, _, get_set hc⟩
 | again st0 cur0 k st ow cur' x K y r hf hv hR =>
  have hc1 : (curT s j c cur0).cpus[j]? = some { c with cur := cur0 } := get_set hc
  have hc2 : (relT s j c cur0).cpus[j]? = some (relC c cur0) := relv_cpu hc1
  exact ⟨fun z => (touch_big z).trans ((keep_relT h hc cur0).big z), _, touch_at hc2⟩
 | fail st0 cur0 st1 cur1 hf hv hR =>
  have hc1 : (curT s j c cur0).cpus[j]? = some { c with cur := cur0 } := get_set hc
  have hc2 : (relT s j c cur0).cpus[j]? = some (relC c cur0) := relv_cpu hc1
  exact ⟨fun z => ((keep_cur _ j _ cur1).big z).trans ((keep_relT h hc cur0).big z), _, cur_at hc2⟩
theorem touches_any [SortI] (t : Nat) (H : List Int) (m : Nat) (a : Ad) (j p : Nat) (hp : a.cps[j]? = some p) : ∀ (k E : Nat) (s : St) (q : Nat) (c : Cpu), E + k ≤ 100000 → s.cpus[j]? = some c → Mi E t s H → (∀ y, q ≤ y → y < q + k → Big s y) → q + k ≤ 4096 →
 ∃ ok s', Touches j q k s ok s' ∧ Mi (E + k) t s' H ∧ TDo m a j p q k s ok s'
 | 0, E, s, q, c, hE, hc, hI, hb, hq => ⟨true, s, Touches.nil q s, hI, TDo.nil q s⟩
 | k + 1, E, s, q, c, hE, hc, hI, hb, hq => by
  obtain ⟨ok, s1, h1, h2, h3⟩ := touch_any E t H m a s j p q c (by omega) hp hc hI (hb q (Nat.le_refl _) (by omega)) (by omega)
  cases ok with
  | false => exact ⟨false, s1, Touches.stop q k s c s1 hc h1, h2.more (by omega) (Nat.le_refl _), TDo.stop q k s s1 h3⟩
  | true =>
   obtain ⟨g1, c', g2⟩ := h1.big hI hc
   obtain ⟨ok, s2, k1, k2, k3⟩ := touches_any t H m a j p hp k (E + 1) s1 (q + 1) c' (by omega) g2 h2 (fun y h4 h5 => (g1 y).2 (hb y (by omega) (by omega))) (by omega)
   exact ⟨ok, s2, Touches.cons q k s c s1 ok s2 hc h1 k1, k2.more (by omega) (Nat.le_refl _), TDo.cons q k s s1 ok s2 h3 k3⟩
theorem touches_had {m : Nat} {a : Ad} {j p : Nat} {c : Cpu} : ∀ (k : Nat) (s : St) (q : Nat), s.cpus[j]? = some c → (∀ y : Nat, q ≤ y → y < q + k → ∃ f, s.pf (y : Int) = some f) → q + k ≤ 1000000 → Touches j q k s true s ∧ TDo m a j p q k s true s
 | 0, s, q, hc, hf, hq => ⟨Touches.nil q s, TDo.nil q s⟩
 | k + 1, s, q, hc, hf, hq => by
  obtain ⟨f, h1⟩ := hf q (Nat.le_refl _) (by omega)
  obtain ⟨g1, g2⟩ := touches_had (m := m) (a := a) (p := p) k s (q + 1) hc (fun y h2 h3 => hf y (by omega) (by omega)) (by omega)
  exact ⟨Touches.cons q k s c s true s hc (TouchR.had f h1) g1, TDo.cons q k s s true s (fun κ w hg h => (touch_ok κ m a s j p q f (by omega) h1 w h).mono fun e w' ⟨h1, h2⟩ => ⟨h1, κ, by rw [h2]; exact h, by rw [h2]; exact Upd.refl _ _ _⟩) g2⟩
structure RelTc (m : Nat) (a : Ad) (j p q1 : Nat) (ok : Bool) (s' : St) (κ : Kol) (w : World) (v14 : Value) (wr : World) : Prop where
 out : ∃ (q k : Nat) (sr : St) (κr : Kol), v14 = .int .i64 q ∧ q + k = q1 + 1 ∧ TDo m a j p q k sr ok s' ∧ MachK κr wr m a sr ∧ Upd (fun z => 1 ≤ z) κ w κr wr
theorem reach_run (m : Nat) (a : Ad) (s s' : St) (j p x o n sz : Nat) (ok : Bool) (hp : a.cps[j]? = some p) (hx : x + o + n ≤ 262144) (hlv : s.live (x : Int) = some ((sz : Nat) : Int)) (hn : 1 ≤ n) (hfit : o + n ≤ sz) (hsz : sz ≤ 1000000) (hT : TDo m a j p ((x + o) / 64) ((x + o + n - 1) / 64 + 1 - (x + o) / 64) s ok s') :
 Do 65 #[.pointer (some ⟨m, 0, none⟩), .int .i64 j, .int .i64 x, .int .i64 o, .int .i64 n] m a s s' (.int .i64 (if ok then 0 else 5)) := by
 intro κ w hg h
 have HC := ak (cpu_own κ m a s j p hp w h)
 have HO := ak (object_own κ m a s (x : Int) (i64o _ (by omega) (by omega)) w h)
 rw [hlv] at HO
 have HM := ak h
 have HGK := ak hg
 have b0 : decide ((o : Int) < 0) = false := decide_eq_false (by omega)
 have b1 : decide ((n : Int) < 0) = false := decide_eq_false (by omega)
 have b2 : decide (sz < o) = false := decide_eq_false (by omega)
 have b2' : decide ((sz : Int) < (o : Int)) = false := decide_eq_false (by omega)
 have b3 : decide ((sz : Int) - (o : Int) < (n : Int)) = false := decide_eq_false (by omega)
 have b4 : ((n : Int) == 0) = false := beq_eq_false_iff_ne.mpr (by omega)
 have b5 : (n == 0) = false := beq_eq_false_iff_ne.mpr (by omega)
 obtain ⟨q0, hq0⟩ : ∃ q, (x + o) / 64 = q := ⟨_, rfl⟩
 obtain ⟨q1, hq1⟩ : ∃ q, (x + o + n - 1) / 64 = q := ⟨_, rfl⟩
 have hq01 : q0 ≤ q1 := by omega
 have hq1m : q1 ≤ 5000 := by omega
 rw [hq0, hq1] at hT
 have g0 : ((x : Int) + (o : Int)) / 64 = (q0 : Int) := by omega
 have g1 : ((x : Int) + (o : Int) + (n : Int) - 1) / 64 = (q1 : Int) := by omega
 have HG := ak (And.intro g0 g1)
 have G1 := ak (show (0 : Int) ≤ (x : Int) + (o : Int) ∧ (x : Int) + (o : Int) ≤ 1000000 by omega)
 have G2 := ak (show (0 : Int) ≤ (x : Int) + (o : Int) + (n : Int) ∧ (x : Int) + (o : Int) + (n : Int) ≤ 1000000 by omega)
 have G3 := ak (show (0 : Int) ≤ (x : Int) + (o : Int) + (n : Int) - 1 ∧ (x : Int) + (o : Int) + (n : Int) - 1 ≤ 1000000 by omega)
 have H0 := ak (show RelTc m a j p q1 ok s' κ w (.int .i64 q0) w from ⟨⟨q0, q1 + 1 - q0, s, κ, rfl, by omega, hT, h, Upd.refl _ _ _⟩⟩)
 obtain ⟨er, her⟩ : ∃ er : Int, (if ok then 0 else 5) = er := ⟨_, rfl⟩
 have HER := ak her
 rw [her]
 clear h hp hlv hT hq0 hq1 g0 g1 hg her
 go_enter Tryz.func65, Tryz.ntmps65
 go_upto_region 11 with (first | (go_at_call 61; (with_reducible refine HC.1.mono ?_); rintro e_ w1 ⟨rfl, hw1⟩; have hw1 := hw1.symm; subst hw1) | (go_at_call 64; (with_reducible refine HO.1.mono ?_); rintro e_ w2 ⟨rfl, hw2⟩; have hw2 := hw2.symm; subst hw2))
 have e1 := w64 _ G1.out
 have hp0 : (0 : Int) ≤ (x : Int) + (o : Int) := G1.out.1
 have g0 := HG.1.1
 have g0' : Int.tdiv ((x : Int) + (o : Int)) 64 = (q0 : Int) := by rw [Int.tdiv_eq_ediv_of_nonneg G1.out.1]; exact HG.1.1
 go_wp2_with fail
 clear e1 hp0 g0 g0'
 go_loopw [14, 15] (fun v14 _ wr => RelTc m a j p q1 ok s' κ w v14 wr) (fun v14 _ _ => q1 + 1 - (RowKit.intOf v14).toNat)
 case atStart => exact H0.1
 case round =>
  clear H0
  obtain ⟨⟨q, k, sr, κr, rfl, hqk, hTD, hmr, hur⟩⟩ := hrel
  have HMR := ak hmr
  have HUR := ak hur
  have HGR := ak (HGK.1.upd hur (by omega))
  clear hmr hur
  have hqm : (0 : Int) ≤ (q : Int) + 1 ∧ (q : Int) + 1 ≤ 1000000 := by omega
  have e1 := w64 _ G1.out
  have e2 := w64 _ G2.out
  have e3 := w64 _ G3.out
  have hp0 : (0 : Int) ≤ (x : Int) + (o : Int) + (n : Int) - 1 := G3.out.1
  have g0 := HG.1.2
  have g0' : Int.tdiv ((x : Int) + (o : Int) + (n : Int) - 1) 64 = (q1 : Int) := by rw [Int.tdiv_eq_ediv_of_nonneg G3.out.1]; exact HG.1.2
  cases hTD with
  | nil =>
   have hle : ¬ ((q : Int) ≤ (q1 : Int)) := by omega
   have he : er = 0 := by rw [← HER.1]; rfl
   subst he
   clear HER
   go_wp2_with fail
   go_ret
   exact ⟨rfl, κr, HMR.1, HUR.1⟩
  | cons _ k _ s1 _ _ hD hTD =>
   have HD := ak (hD.run κr _ HGR.1 HMR.1)
   have HTD := ak hTD
   have hle : (q : Int) ≤ (q1 : Int) := by omega
   have FF := ak (show q + 1 + k = q1 + 1 ∧ q1 + 1 - ((q : Int) + 1).toNat < q1 + 1 - ((q : Nat) : Int).toNat by omega)
   clear hTD hD HER
   go_upto_region 14 with fail
   clear e1 e2 e3 hp0 g0 g0'
   go_wp2_with (go_at_call 121; (with_reducible refine HD.1.mono ?_); rintro e_ w5 ⟨rfl, κ5, r1, r2⟩; have HM5 := ak r1; have HU5 := ak (HUR.1.then r2 (fun _ e => e)); clear r1 r2)
   exact ⟨⟨⟨q + 1, k, s1, κ5, by rw [Int.natCast_add]; rfl, FF.out.1, HTD.1, HM5.1, HU5.1⟩⟩, FF.out.2⟩
  | stop _ k _ _ hD =>
   have HD := ak (hD.run κr _ HGR.1 HMR.1)
   have hle : (q : Int) ≤ (q1 : Int) := by omega
   have he : er = 5 := by rw [← HER.1]; rfl
   subst he
   clear hD HER
   go_upto_region 14 with fail
   clear e1 e2 e3 hp0 g0 g0'
   go_wp2_with (go_at_call 121; (with_reducible refine HD.1.mono ?_); rintro e_ w5 ⟨rfl, κ5, r1, r2⟩; have HM5 := ak r1; have HU5 := ak (HUR.1.then r2 (fun _ e => e)); clear r1 r2)
   go_ret
   exact ⟨rfl, κ5, HM5.1, HU5.1⟩
theorem clof_ge : ∀ n : Nat, n ≤ 64 → n ≤ clS (clOf n) := by decide
theorem pages_le (x o n sz : Nat) (h : o + n ≤ sz) (hs : sz ≤ 1024) (hn : 1 ≤ n) : (x + o + n - 1) / 64 + 1 - (x + o) / 64 ≤ 17 := by omega
theorem reach_any [SortI] (E t : Nat) (H : List Int) (m : Nat) (a : Ad) (s : St) (j p : Nat) (c : Cpu) (x o n sz : Nat) (hE : E + 17 ≤ 100000) (ht : t ≤ 4096) (hp : a.cps[j]? = some p) (hc : s.cpus[j]? = some c) (hI : Mi E t s H) (hlv : s.live (x : Int) = some ((sz : Nat) : Int)) (hn : 1 ≤ n) (hfit : o + n ≤ sz) :
 ∃ ok s', Touches j ((x + o) / 64) ((x + o + n - 1) / 64 + 1 - (x + o) / 64) s ok s' ∧ Mi (E + 17) t s' H ∧ Do 65 #[.pointer (some ⟨m, 0, none⟩), .int .i64 j, .int .i64 x, .int .i64 o, .int .i64 n] m a s s' (.int .i64 (if ok then 0 else 5)) := by
 obtain ⟨k1, k2, k3, k4⟩ := hI.ob.live _ _ hlv
 have hx := hI.lives (x : Int) (by rw [hlv]; rfl)
 have hpg := pages_le x o n sz hfit (by omega) hn
 by_cases h64 : sz ≤ 64
 ·have hs := k3 (by omega)
  rw [Int.toNat_natCast] at hs
  have ho := hI.onPage hs
  have h1 := clof_ge sz h64
  have h2 := ho.fit
  have h3 := ho.max
  obtain ⟨g1, g2⟩ := touches_had (m := m) (a := a) (p := p) ((x + o + n - 1) / 64 + 1 - (x + o) / 64) s ((x + o) / 64) hc (fun y h4 h5 => by
   obtain rfl : y = x / 64 := by omega
   exact ⟨_, ho.f⟩) (by omega)
  exact ⟨true, s, g1, hI.more (by omega) (Nat.le_refl _), reach_run m a s s j p x o n sz true hp (by omega) hlv hn hfit (by omega) g2⟩
 ·obtain ⟨q, e1, e2, e3⟩ := k4 (by omega)
  have htop := hI.co.top _ e2
  simp only at htop
  have hq : pgs ((sz : Nat) : Int) = ((sz : Int) + 63) / 64 := rfl
  obtain ⟨ok, s', g1, g2, g3⟩ := touches_any t H m a j p hp ((x + o + n - 1) / 64 + 1 - (x + o) / 64) E s ((x + o) / 64) c (by omega) hc hI (fun y h4 h5 => ⟨q, pgs sz, e2, by omega, by omega, by rw [Int.toNat_natCast]; exact e3⟩) (by omega)
  exact ⟨ok, s', g1, g2.more (by omega) (Nat.le_refl _), reach_run m a s s' j p x o n sz ok hp (by omega) hlv hn hfit (by omega) g3⟩
theorem reach_bad (κ : Kol) (m : Nat) (a : Ad) (s : St) (j p : Nat) (x o n : Int) (hp : a.cps[j]? = some p) (hx : I64 x) (hlv : s.live x = none) (w : World) (h : MachK κ w m a s) :
 Calls Tryz.prog 65 #[.pointer (some ⟨m, 0, none⟩), .int .i64 j, .int .i64 x, .int .i64 o, .int .i64 n] w fun e w' => e = .returned (.int .i64 6) ∧ w' = w := by
 have HC := ak (cpu_own κ m a s j p hp w h)
 have HO := ak (object_own κ m a s x hx w h)
 rw [hlv] at HO
 clear h hp hlv hx
 go_enter Tryz.func65, Tryz.ntmps65
 go_wp2_with (first | (go_at_call 61; (with_reducible refine HC.1.mono ?_); rintro e_ w1 ⟨rfl, hw1⟩; have hw1 := hw1.symm; subst hw1) | (go_at_call 64; (with_reducible refine HO.1.mono ?_); rintro e_ w2 ⟨rfl, hw2⟩; have hw2 := hw2.symm; subst hw2))
 go_ret
 exact ⟨rfl, rfl⟩
theorem reach_bound (κ : Kol) (m : Nat) (a : Ad) (s : St) (j p : Nat) (x o n : Int) (sz : Nat) (hp : a.cps[j]? = some p) (hx : I64 x) (hsz : sz ≤ 1000000) (hlv : s.live x = some ((sz : Nat) : Int)) (ho : I64 o) (hn : I64 n) (hb : o < 0 ∨ n < 0 ∨ (sz : Int) < o ∨ (sz : Int) - o < n) (w : World) (h : MachK κ w m a s) :
 Calls Tryz.prog 65 #[.pointer (some ⟨m, 0, none⟩), .int .i64 j, .int .i64 x, .int .i64 o, .int .i64 n] w fun e w' => e = .returned (.int .i64 7) ∧ w' = w := by
 have HC := ak (cpu_own κ m a s j p hp w h)
 have HO := ak (object_own κ m a s x hx w h)
 rw [hlv] at HO
 have HB := ak hb
 clear h hp hlv hx hb ho hn
 by_cases h0 : o < 0
 ·have b0 : decide (o < 0) = true := decide_eq_true h0
  clear h0 HB
  go_enter Tryz.func65, Tryz.ntmps65
  go_wp2_with (first | (go_at_call 61; (with_reducible refine HC.1.mono ?_); rintro e_ w1 ⟨rfl, hw1⟩; have hw1 := hw1.symm; subst hw1) | (go_at_call 64; (with_reducible refine HO.1.mono ?_); rintro e_ w2 ⟨rfl, hw2⟩; have hw2 := hw2.symm; subst hw2))
  go_ret
  exact ⟨rfl, rfl⟩
 have b0 : decide (o < 0) = false := decide_eq_false h0
 by_cases h1 : n < 0
 ·have b1 : decide (n < 0) = true := decide_eq_true h1
  clear h0 h1 HB
  go_enter Tryz.func65, Tryz.ntmps65
  go_wp2_with (first | (go_at_call 61; (with_reducible refine HC.1.mono ?_); rintro e_ w1 ⟨rfl, hw1⟩; have hw1 := hw1.symm; subst hw1) | (go_at_call 64; (with_reducible refine HO.1.mono ?_); rintro e_ w2 ⟨rfl, hw2⟩; have hw2 := hw2.symm; subst hw2))
  go_ret
  exact ⟨rfl, rfl⟩
 have b1 : decide (n < 0) = false := decide_eq_false h1
 by_cases h2 : (sz : Int) < o
 ·have b2 : decide ((sz : Int) < o) = true := decide_eq_true h2
  clear h0 h1 h2 HB
  go_enter Tryz.func65, Tryz.ntmps65
  go_wp2_with (first | (go_at_call 61; (with_reducible refine HC.1.mono ?_); rintro e_ w1 ⟨rfl, hw1⟩; have hw1 := hw1.symm; subst hw1) | (go_at_call 64; (with_reducible refine HO.1.mono ?_); rintro e_ w2 ⟨rfl, hw2⟩; have hw2 := hw2.symm; subst hw2))
  go_ret
  exact ⟨rfl, rfl⟩
 have b2 : decide ((sz : Int) < o) = false := decide_eq_false h2
 have h3 : (sz : Int) - o < n := by have := HB.1; omega
 have b3 : decide ((sz : Int) - o < n) = true := decide_eq_true h3
 have e1 : wrap64 ((sz : Int) - o) = (sz : Int) - o := w64 _ (by omega)
 clear h0 h1 h2 h3 HB
 go_enter Tryz.func65, Tryz.ntmps65
 go_wp2_with (first | (go_at_call 61; (with_reducible refine HC.1.mono ?_); rintro e_ w1 ⟨rfl, hw1⟩; have hw1 := hw1.symm; subst hw1) | (go_at_call 64; (with_reducible refine HO.1.mono ?_); rintro e_ w2 ⟨rfl, hw2⟩; have hw2 := hw2.symm; subst hw2))
 go_ret
 exact ⟨rfl, rfl⟩
end Go.Proofs.YtenkdmloolbdaaaGreatDoor.T
end
