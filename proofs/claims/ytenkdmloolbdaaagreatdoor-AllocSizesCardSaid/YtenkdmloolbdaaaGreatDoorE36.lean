import Derived.Test.YtenkdmloolbdaaaGreatDoorE24
import Derived.Test.YtenkdmloolbdaaaGreatDoorE35
import Derived.Lib.Slices
import Derived.Test.YtenkdmloolbdaaaGreatDoorE04
import Derived.Test.YtenkdmloolbdaaaGreatDoorE34
set_option linter.unusedVariables false
set_option linter.unusedSimpArgs false
set_option maxHeartbeats 8000000
set_option maxRecDepth 100000
section
namespace Go.Proofs.YtenkdmloolbdaaaGreatDoor.T
open Go.RowKit Go.Maps Go.WideShapes Go.Proofs.YtenkdmloolbdaaaGreatDoorW.PrintWords Go.Proofs.YtenkdmloolbdaaaGreatDoorW.PrintLast Go.Proofs.YtenkdmloolbdaaaGreatDoorW.PrintMore
def RelIx (w : World) (xs : List Int) (x : Int) (n : Nat) (v8 : Value) (wr : World) : Prop := wr = w ∧ ∃ i : Nat, i ≤ n ∧ v8 = .int .i64 i ∧ ∀ j, j < i → xs.getD j 0 ≠ x
theorem index_ints (A : Option Addr) (n c : Nat) (xs : List Int) (x : Int) (hl : xs.length = n) (hn : n ≤ 1000) (w : World) (h : ReadsInt w .i64 A n xs) :
 Calls Tryz.prog 206 #[.slice A n c, .int .i64 x] w fun e w' => e = .returned (.int .i64 (Lib.idxOf xs x)) ∧ w' = w := by
 have HL := ak hl
 have HR := ak h
 clear h hl
 go_enter Tryz.func206, Tryz.ntmps206
 go_wp2_with fail
 go_loopw [5, 8] (fun _ v8 wr => RelIx w xs x n v8 wr) (fun _ v8 _ => n - (RowKit.intOf v8).toNat)
 case atStart => exact ⟨rfl, 0, Nat.zero_le _, rfl, fun j hj => absurd hj (Nat.not_lt_zero _)⟩
 case round =>
  obtain ⟨rfl, i, hi, rfl, hno⟩ := hrel
  have HN := ak hno
  clear hno
  by_cases hlt : i < n
  ·have jI : (i : Int) < (n : Int) := by omega
   have j0 : (0 : Int) ≤ (i : Int) := by omega
   obtain ⟨ad, rfl, q0⟩ := HR.1.at_ (i : Int) j0 jI
   rw [Int.toNat_natCast] at q0
   obtain ⟨y, hy⟩ : ∃ y, rd xs (i : Int) = y := ⟨_, rfl⟩
   have hy2 : xs.getD i 0 = y := by rw [← hy]; unfold rd; simp
   rw [hy] at q0
   have HY := ak hy2
   clear hy hy2
   by_cases hxy : x = y
   ·subst hxy
    have hb : (x == x) = true := beq_self_eq_true x
    go_wp2_with fail
    go_ret
    have := Lib.idxOf_hit xs n i x hlt (by rw [HL.1]; exact Nat.le_refl _) HY.1 HN.1
    rw [List.take_of_length_le (by rw [HL.1]; exact Nat.le_refl _)] at this
    exact ⟨by rw [this]; rfl, rfl⟩
   ·have hb : (x == y) = false := beq_eq_false_iff_ne.mpr hxy
    go_wp2_with fail
    refine ⟨⟨rfl, i + 1, by omega, by simp, fun j hj => ?_⟩, by simp only [RowKit.intOf]; omega⟩
    by_cases e : j = i
    ·subst e; rw [HY.1]; exact fun e => hxy e.symm
    ·exact HN.1 j (by omega)
  ·obtain rfl : i = n := by omega
   go_wp2_with fail
   go_ret
   have := Lib.idxOf_miss xs i x HN.1
   rw [List.take_of_length_le (by rw [HL.1]; exact Nat.le_refl _)] at this
   exact ⟨by rw [this]; rfl, rfl⟩
theorem idx_from (x : Int) : ∀ (l : List Int) (i : Nat), Lib.idxFrom l x i = -1 ∨ ((i : Int) ≤ Lib.idxFrom l x i ∧ Lib.idxFrom l x i < i + l.length)
 | [], _ => .inl rfl
 | z :: l, i => by
  unfold Lib.idxFrom
  split
  ·exact .inr ⟨Int.le_refl _, by simp only [List.length_cons]; omega⟩
  ·rcases idx_from x l (i + 1) with h | h
   ·exact .inl h
   ·exact .inr ⟨by omega, by simp only [List.length_cons]; omega⟩
theorem idx_lt (l : List Int) (x : Int) (h : 0 ≤ Lib.idxOf l x) : Lib.idxOf l x < l.length := by
 rcases idx_from x l 0 with h1 | h1
 ·unfold Lib.idxOf at h; omega
 ·unfold Lib.idxOf; omega
theorem own_uniq {w : World} {k : TypeId} {R : Value → Option (DataW Unit × List MemPlace)} {b n n' : Nat} {D D' : DataW Unit} (h : w.ownsMap Tryz.prog k R b n D) (h' : w.ownsMap Tryz.prog k R b n' D') : D = D' := by
 obtain ⟨es, clock, hb, _, _, e⟩ := h
 obtain ⟨es', clock', hb', _, _, e'⟩ := h'
 rw [hb] at hb'
 injection hb' with hb'
 injection hb' with hb' _
 subst hb'
 rw [e, e']
theorem ranges_upd {I : Nat → Prop} {κ κ1 : Kol} {w w1 : World} {k : TypeId} {R : Value → Option (DataW Unit × List MemPlace)} {b r n cnt : Nat} {D : DataW Unit} {left : Lit → Bool} (h : w.ranges Tryz.prog k R b r n D left cnt) (hU : Upd I κ w κ1 w1) (hb : ¬ I (κ b)) (hr : ¬ I (κ r)) : w1.ranges Tryz.prog k R b r n D left cnt := by
 have h1 := h.owns.lt
 have h2 := h.lt
 obtain ⟨es, clock, since, seen, c0, hB, F, hs, hD, hR, rest⟩ := h
 exact ⟨es, clock, since, seen, c0, (hU.chg.block b h1 hb).trans hB, F, hs, hD, (hU.chg.block r h2 hr).trans hR, rest⟩
theorem span_came {κ : Kol} {w2 w : World} {m : Nat} {a : Ad} {s : St} (h : MachK κ w2 m a s) (hb : RowKit.Below w2.heap.size w2 w) {it n cnt : Nat} {D : DataW Unit} {left : Lit → Bool} (hr : w.ranges Tryz.prog 3 ptrElem a.sb it n D left cnt) {x : Int} (hx : I64 x) (hD : Maps.has D (.int .i64 x) = true) {o : Option Nat} {y : DataW Unit × List MemPlace} (hR : ptrElem (ptrV o) = some y) (hat : ∀ zd, D.atKey (.int .i64 x) zd = y.1) :
 ∃ (p : Nat) (hd : Held) (q : Nat), x = (p : Int) ∧ p < 4096 ∧ s.sp p = some hd ∧ o = some q ∧ HeldK κ w2 q p hd ∧ SpAt κ w2 a.sb q p := by
 obtain ⟨f, hP, hdom, hall⟩ := h.sp
 obtain ⟨hk, D', ho, hv⟩ := hP.below hb
 obtain rfl := own_uniq ho hr.owns
 rw [(hv x hx).1] at hD
 obtain ⟨q, hq⟩ := Option.isSome_iff_exists.1 hD
 have hx0 := hdom x hD
 have hp : ((x.toNat : Nat) : Int) = x := Int.toNat_of_nonneg hx0.1
 cases hs : s.sp x.toNat with
 | none =>
  have := (hall x.toNat).1 hs
  rw [hp, hq] at this
  cases this
 | some hd =>
  obtain ⟨q', hq', hh⟩ := (hall x.toNat).2 hd hs
  rw [hp, hq] at hq'
  obtain rfl := Option.some.inj hq'
  refine ⟨x.toNat, hd, q, hp.symm, by omega, hs, ?_, hh, ⟨_, f, hP, by rw [hp]; exact hq⟩⟩
  have h1 := hat (.lit (.int .i64 (-1)))
  rw [(hv x hx).2, hq] at h1
  obtain ⟨y1, y2⟩ := y
  simp only at h1
  subst h1
  cases o with
  | none => simp [ptrElem, ptrV, ptrI] at hR
  | some q' =>
   simp only [ptrElem, ptrV, ptrI, Option.map_some, Option.some.injEq, Prod.mk.injEq, DataW.lit.injEq, Lit.int.injEq, true_and] at hR
   congr 1
   omega
theorem ranges_below {κ : Kol} {w w1 : World} {k : TypeId} {R : Value → Option (DataW Unit × List MemPlace)} {b r n cnt : Nat} {D : DataW Unit} {left : Lit → Bool} (h : w.ranges Tryz.prog k R b r n D left cnt) (hb : RowKit.Below w.heap.size w w1) : w1.ranges Tryz.prog k R b r n D left cnt := ranges_upd (κ := κ) h (Upd.of_below (I := fun _ => False) κ hb) (fun h => h) (fun h => h)
theorem left_out {left : Lit → Bool} {p q : Nat} (h : (left (.int .i64 (q : Int)) && !(Lit.int .i64 (q : Int)).sameKey (.int .i64 (p : Int))) = false) : left (.int .i64 (q : Int)) = false ∨ q = p := by
 cases hl : left (.int .i64 (q : Int)) with
 | false => exact .inl rfl
 | true =>
  rw [hl, Bool.true_and, Bool.not_eq_false'] at h
  have := WideAt.sameKey_eq h
  injection this with _ this
  exact .inr (by omega)
def ordO (s : St) (c : Cpu) : List Int := TZ.inL (TZ.permR c.mode c.set s.n) (TZ.lstN s.n s.f s.cs s.ds c.node)
def Cand (O : List Int) (k : Nat) (hd : Held) : Prop := hd.cls = k ∧ Lib.onesCount hd.tk ≠ clN k ∧ 0 ≤ Lib.idxOf O hd.node
def lexLe (O : List Int) (hd : Held) (p : Nat) (hd' : Held) (p' : Nat) : Prop := Lib.idxOf O hd.node < Lib.idxOf O hd'.node ∨ (Lib.idxOf O hd.node = Lib.idxOf O hd'.node ∧ p ≤ p')
def NearV (s : St) (O : List Int) (k : Nat) (V : Nat → Prop) (r : Option Nat) : Prop := match r with
 | none => ∀ p hd, s.sp p = some hd → V p → ¬ Cand O k hd
 | some p => ∃ hd, s.sp p = some hd ∧ Cand O k hd ∧ ∀ p' hd', s.sp p' = some hd' → V p' → Cand O k hd' → lexLe O hd p hd' p'
theorem NearV.skip {s : St} {O : List Int} {k : Nat} {V V' : Nat → Prop} {r : Option Nat} (h : NearV s O k V r) {p : Nat} {hd : Held} (hp : s.sp p = some hd) (hV : ∀ q, V' q → V q ∨ q = p) (hn : Cand O k hd → ∃ pb hb, r = some pb ∧ s.sp pb = some hb ∧ lexLe O hb pb hd p) : NearV s O k V' r := by
 cases r with
 | none =>
  intro q hq h1 h2 h3
  rcases hV q h2 with h2 | rfl
  ·exact h q hq h1 h2 h3
  ·rw [hp] at h1
   obtain rfl := Option.some.inj h1
   obtain ⟨_, _, e, _⟩ := hn h3
   cases e
 | some pb =>
  obtain ⟨hb, h1, h2, h3⟩ := h
  refine ⟨hb, h1, h2, fun q hq g1 g2 g3 => ?_⟩
  rcases hV q g2 with g2 | rfl
  ·exact h3 q hq g1 g2 g3
  ·rw [hp] at g1
   obtain rfl := Option.some.inj g1
   obtain ⟨pb', hb', e, e1, e2⟩ := hn g3
   obtain rfl := Option.some.inj e
   rw [h1] at e1
   obtain rfl := Option.some.inj e1
   exact e2
theorem NearV.best {s : St} {O : List Int} {k : Nat} {V V' : Nat → Prop} {r : Option Nat} (h : NearV s O k V r) {p : Nat} {hd : Held} (hp : s.sp p = some hd) (hV : ∀ q, V' q → V q ∨ q = p) (hc : Cand O k hd) (hn : ∀ pb hb, r = some pb → s.sp pb = some hb → lexLe O hd p hb pb) : NearV s O k V' (some p) := by
 refine ⟨hd, hp, hc, fun q hq g1 g2 g3 => ?_⟩
 rcases hV q g2 with g2 | rfl
 ·cases r with
  | none => exact absurd g3 (h q hq g1 g2)
  | some pb =>
   obtain ⟨hb, h1, h2, h3⟩ := h
   have k1 := hn pb hb rfl h1
   have k2 := h3 q hq g1 g2 g3
   unfold lexLe at *
   omega
 ·rw [hp] at g1
  obtain rfl := Option.some.inj g1
  exact .inr ⟨rfl, Nat.le_refl _⟩
def BestV (κ : Kol) (a : Ad) (s : St) (O : List Int) (w : World) (r : Option Nat) (v10 v11 : Value) : Prop := match r with
 | none => v10 = .pointer none ∧ v11 = .int .i64 (O.length : Int)
 | some pb => ∃ q hb, s.sp pb = some hb ∧ v10 = .pointer (some ⟨q, 0, none⟩) ∧ v11 = .int .i64 (Lib.idxOf O hb.node) ∧ HeldK κ w q pb hb ∧ SpAt κ w a.sb q pb
theorem BestV.upd {κ κ1 : Kol} {a : Ad} {s : St} {O : List Int} {w w1 : World} {r : Option Nat} {v10 v11 : Value} (h : BestV κ a s O w r v10 v11) (hU : Upd (fun _ => False) κ w κ1 w1) : BestV κ1 a s O w1 r v10 v11 := by
 cases r with
 | none => exact h
 | some pb =>
  obtain ⟨q, hb, h1, h2, h3, h4, h5⟩ := h
  exact ⟨q, hb, h1, h2, h3, h4.upd hU (fun h => h) (fun h => h), h5.upd hU (fun h => h)⟩
theorem NearV.mono {s : St} {O : List Int} {k : Nat} {V V' : Nat → Prop} {r : Option Nat} (h : NearV s O k V r) (hV : ∀ p, V' p → V p) : NearV s O k V' r := by
 cases r with
 | none => exact fun p hd h1 h2 => h p hd h1 (hV p h2)
 | some p =>
  obtain ⟨hd, h1, h2, h3⟩ := h
  exact ⟨hd, h1, h2, fun q hq g1 g2 => h3 q hq g1 (hV q g2)⟩
def RelNe (κ : Kol) (m : Nat) (a : Ad) (s : St) (O : List Int) (k : Nat) (w2 : World) (it n : Nat) (D : DataW Unit) (v10 v11 : Value) (wr : World) : Prop :=
 ∃ left cnt r, wr.ranges Tryz.prog 3 ptrElem a.sb it n D left cnt ∧ (∀ kl, left kl = true → Maps.has D kl = true) ∧ NearV s O k (fun p => left (.int .i64 (p : Int)) = false) r ∧ BestV κ a s O w2 r v10 v11 ∧ RowKit.Below w2.heap.size w2 wr
theorem nearest_own (κ : Kol) (m : Nat) (a : Ad) (s : St) (j p : Nat) (c : Cpu) (cls : Nat) (hp : a.cps[j]? = some p) (hc : s.cpus[j]? = some c) (h1 : 1 ≤ s.n) (h8 : s.n ≤ 8) (hpol : TZ.polR c.mode c.set c.nd s.n = 0) (her : TZ.erN s.n s.f s.cs s.ds c.node = 0) (htk : ∀ p hd, s.sp p = some hd → hd.cls < 4 ∧ hd.tk < 256) (w : World) (h : MachK κ w m a s) :
 Calls Tryz.prog 168 #[.pointer (some ⟨m, 0, none⟩), .pointer (some ⟨p, 0, none⟩), .int .i64 cls] w fun e w' => ∃ r v10 v11, e = .returned v10 ∧ NearV s (ordO s c) cls (fun _ => True) r ∧ BestV κ a s (ordO s c) w' r v10 v11 ∧ RowKit.Below w.heap.size w w' := by
 have HM := ak h
 have HC := ak (show ∀ W, MachK κ W m a s → CpuK κ (150 + 6 * j) W p c from fun W hW => hW.cpuK hp hc)
 obtain ⟨pm, hpm⟩ : ∃ pm, TZ.permR c.mode c.set s.n = pm := ⟨_, rfl⟩
 have HPE := ak (show ∀ W : World, Calls Tryz.prog 49 #[.agg #[.int .i64 c.mode, .int .u8 c.set, .int .i64 c.nd], .int .i64 s.n] W (fun e w' => e = .returned (.tuple #[.int .u8 pm, .int .i64 0]) ∧ RowKit.Below W.heap.size W w') from fun W => by
  rw [← hpm]
  exact PH.policy_Permitted.calls 20 c.mode c.set c.nd s.n _ 0 W (by rw [TZ.pperm_f c.mode c.set c.nd s.n h1 h8, hpol, if_pos rfl]))
 obtain ⟨q, hq⟩ : ∃ q, (TZ.inL pm (TZ.lstN s.n s.f s.cs s.ds c.node)).length = q := ⟨_, rfl⟩
 have HWI := ak (show ∀ W, MachK κ W m a s → Calls Tryz.prog 162 #[.agg #[.int .i64 s.n, .int .i64 s.f, .slice a.A s.cs.length a.ca, .slice a.B s.ds.length a.cb], .int .i64 c.node, .int .u8 pm] W (fun e w' => ∃ A1 c1, e = .returned (.tuple #[.slice A1 q c1, .int .i64 0]) ∧ ReadsInt w' .i64 A1 q (ordO s c) ∧ RowKit.Below W.heap.size W w') from fun W hW => by
  obtain ⟨A1, c1, e1, l1, r1⟩ := hW.cs.reads
  injection e1 with e1 _ e2
  obtain ⟨A2, c2, e3, l2, r2⟩ := hW.ds.reads
  injection e3 with e3 _ e4
  subst e1; subst e2; subst e3; subst e4
  refine (TZ.within_own s.n s.f a.A a.ca s.cs a.B a.cb s.ds c.node pm W r1 l1 r2 l2).mono ?_
  rintro e w' ⟨v, rfl, ho, hb⟩
  obtain ⟨A3, c3, rfl, hri⟩ := own_reads ho
  rw [hq, her]
  rw [hq, ← hpm] at hri
  exact ⟨A3, c3, rfl, hri, hb⟩)
 have HB0 := ak (RowKit.Below.refl w.heap.size w)
 have c0 := h.c0
 have k1 := (HC.1 _ h).k1
 have k2 := (HC.1 _ h).k2
 have k3 := (HC.1 _ h).k3
 have HTK := ak htk
 have HQL := ak (show (ordO s c).length = q from by unfold ordO; rw [hpm]; exact hq)
 have HQ8 := ak (show q ≤ 8 from by rw [← hq]; exact Nat.le_trans (List.length_filter_le _ _) (TZ.lstN_len _ _ _ _ _))
 clear h hpm hq hpol her htk hp hc
 go_enter Tryz.func168, Tryz.ntmps168
 go_upto_region 1 with fail
 refine st_ 15 (fun w' => w'.cell? ⟨m, 0, none⟩ = some (.int .i64 s.n) ∧ w'.cell? ⟨p, 1, none⟩ = some (.int .i64 c.mode) ∧ w'.cell? ⟨p, 2, none⟩ = some (.int .u8 c.set) ∧ w'.cell? ⟨p, 3, none⟩ = some (.int .i64 c.nd)) [9] ⟨c0, k1, k2, k3⟩ (fun hHeld => ?_)
 have hd_ := below_drew (RowKit.Below.refl w.heap.size w)
 have n0_ := ak (HM.1.below hd_)
 have n1_ := ak (below_then HB0.1 HB0.1.size hd_)
 clear HM HB0 c0 k1 k2 k3 hd_
 have HM := n0_
 have HB0 := n1_
 clear n0_ n1_
 have c0 := HM.1.c0
 have k1 := (HC.1 _ HM.1).k1
 have k2 := (HC.1 _ HM.1).k2
 have k3 := (HC.1 _ HM.1).k3
 generalize w.drew = wd at *
 refine pu_ 0 16 1 ?_
 refine pu_ 1 17 3 ?_
 refine pu_ 2 18 7 ?_
 refine pu_ 4 20 23 ?_
 refine pu_ 5 21 55 ?_
 refine pu_ 6 22 119 ?_
 refine pu_ 7 23 247 ?_
 refine ta_ 3 19 255 hHeld ?_
 refine ta_ 8 24 511 hHeld ?_
 refine last_ (i := 9) (N := some 25) (bz 15 1023) rfl rfl (by kernel_rfl) (by decide) (fun K hK => ?_)
 refine goes_ Tryz.func49 (by kernel_rfl) rfl #[.agg #[.int .i64 c.mode, .int .u8 c.set, .int .i64 c.nd], .int .i64 s.n] (by rfl) rfl rfl (by simp only [List.map_toArray, List.map_cons, List.map_nil]; rfl) ?_
 with_reducible refine (HPE.1 _).mono ?_
 rintro e_ w1 ⟨rfl, hb⟩
 refine ⟨_, rfl, ?_⟩
 have n0_ := ak (HM.1.below hb)
 have n1_ := ak (below_then HB0.1 HB0.1.size hb)
 clear HM HB0 c0 k1 k2 k3 hb
 have HM := n0_
 have HB0 := n1_
 clear n0_ n1_
 have c0 := HM.1.c0
 have k1 := (HC.1 _ HM.1).k1
 have k2 := (HC.1 _ HM.1).k2
 have k3 := (HC.1 _ HM.1).k3
 clear hHeld
 clear c0 k1 k2 k3
 refine hK.out _ _ ?_
 clear hK K
 refine no_ 25 ?_
 refine pu_ 10 15 2047 ?_
 refine pu_ 11 26 4095 ?_
 refine pu_ 12 27 8191 ?_
 refine pu_ 13 7 16383 ?_
 refine pu_ 14 8 32767 ?_
 refine done_ (by kernel_rfl) ?_
 go_upto_region 4 with fail
 have c0 := HM.1.c0
 have c1 := HM.1.c1
 have c2 := HM.1.c2
 have c3 := HM.1.c3
 have k0 := (HC.1 _ HM.1).k0
 refine st_ 15 (fun w' => w'.cell? ⟨m, 0, none⟩ = some (.int .i64 s.n) ∧ w'.cell? ⟨m, 1, none⟩ = some (.int .i64 s.f) ∧ w'.cell? ⟨m, 2, none⟩ = some (.slice a.A s.cs.length a.ca) ∧ w'.cell? ⟨m, 3, none⟩ = some (.slice a.B s.ds.length a.cb) ∧ w'.cell? ⟨p, 0, none⟩ = some (.int .i64 c.node)) [9] ⟨c0, c1, c2, c3, k0⟩ (fun hHeld => ?_)
 have hd_ := below_drew (RowKit.Below.refl w1.heap.size w1)
 have n0_ := ak (HM.1.below hd_)
 have n1_ := ak (below_then HB0.1 HB0.1.size hd_)
 clear HM HB0 c0 c1 c2 c3 k0 hd_
 have HM := n0_
 have HB0 := n1_
 clear n0_ n1_
 have c0 := HM.1.c0
 have c1 := HM.1.c1
 have c2 := HM.1.c2
 have c3 := HM.1.c3
 have k0 := (HC.1 _ HM.1).k0
 generalize w1.drew = wd at *
 refine pu_ 0 31 1 ?_
 refine pu_ 1 32 3 ?_
 refine pu_ 2 33 7 ?_
 refine pu_ 4 35 23 ?_
 refine pu_ 5 36 55 ?_
 refine pu_ 6 37 119 ?_
 refine pu_ 8 39 375 ?_
 refine ta_ 3 34 383 hHeld ?_
 refine ta_ 7 38 511 hHeld ?_
 refine last_ (i := 9) (N := some 40) (bz 15 1023) rfl rfl (by kernel_rfl) (by decide) (fun K hK => ?_)
 refine goes_ Tryz.func162 (by kernel_rfl) rfl #[.agg #[.int .i64 s.n, .int .i64 s.f, .slice a.A s.cs.length a.ca, .slice a.B s.ds.length a.cb], .int .i64 c.node, .int .u8 pm] (by rfl) rfl rfl (by simp only [List.map_toArray, List.map_cons, List.map_nil]; rfl) ?_
 with_reducible refine (HWI.1 _ HM.1).mono ?_
 rintro e_ w2 ⟨A9, c9, rfl, hri9, hb⟩
 refine ⟨_, rfl, ?_⟩
 have n0_ := ak (HM.1.below hb)
 have n1_ := ak (below_then HB0.1 HB0.1.size hb)
 clear HM HB0 c0 c1 c2 c3 k0 hb
 have HM := n0_
 have HB0 := n1_
 clear n0_ n1_
 have c0 := HM.1.c0
 have c1 := HM.1.c1
 have c2 := HM.1.c2
 have c3 := HM.1.c3
 have k0 := (HC.1 _ HM.1).k0
 clear hHeld
 clear c0 c1 c2 c3 k0
 refine hK.out _ _ ?_
 clear hK K
 refine no_ 40 ?_
 refine pu_ 10 30 2047 ?_
 refine pu_ 11 41 4095 ?_
 refine pu_ 12 42 8191 ?_
 refine pu_ 13 9 16383 ?_
 refine pu_ 14 8 32767 ?_
 refine done_ (by kernel_rfl) ?_
 have c11 := HM.1.c11
 obtain ⟨f, ⟨hk, D, hown, hv⟩, hf2, hf3⟩ := HM.1.sp
 have HOW := ak hown
 have HV0 := ak (show ∀ q hd, s.sp q = some hd → Maps.has D (.int .i64 ((q : Nat) : Int)) = true from fun q hd hq => by
  obtain ⟨b, hb, _⟩ := (hf3 q).2 hd hq
  have hI := hf2 (q : Int) (by rw [hb]; rfl)
  rw [(hv (q : Int) (i64o _ (by omega) (by omega))).1, hb]
  rfl)
 have HRI := ak hri9
 clear hk hown hv hf2 hf3 hri9
 go_wp2_with (at_range; refine wpList_range_own _ rfl _ 126 rfl 3 139 int_law Tryz.underlying126 _ a.sb s.sn D rfl HOW.1 ?_; intro w0 hrg0 hg0 hs0; have HRG := ak hrg0; have HG0 := ak hg0; clear hrg0 hg0 hs0)
 have HB2 := ak (show RowKit.Below w2.heap.size w2 w0 from ⟨HG0.1.os, HG0.1.tape, HG0.1.output, HG0.1.size, fun k hk => HG0.1.block k hk (by simp)⟩)
 have H0 := ak (show RelNe κ m a s (ordO s c) cls w2 w2.heap.size s.sn D (.pointer none) (.int .i64 (q : Int)) w0 from ⟨_, _, none, HRG.1, fun _ h => h, (show NearV s (ordO s c) cls (fun p => Maps.has D (.int .i64 (p : Int)) = false) none from fun p hd hp hl => by have hl' : Maps.has D (.int .i64 (p : Int)) = false := hl; rw [HV0.1 p hd hp] at hl'; cases hl'), ⟨rfl, by rw [HQL.1]⟩, HB2.1⟩)
 clear HG0 HRG HB2
 go_frame
 go_loopw [10, 11, 13, 14] (fun v10 v11 _ _ wr => RelNe κ m a s (ordO s c) cls w2 w2.heap.size s.sn D v10 v11 wr) (fun _ _ _ _ wr => wr.rangeLeft a.sb w2.heap.size)
 case atStart => exact H0.1
 case round =>
  clear H0
  obtain ⟨left, cnt, r, hrg, hl, hnv, hbv, hb⟩ := hrel
  have HR := ak hrg
  have HL := ak hl
  have HNV := ak hnv
  have HBV := ak hbv
  have HB := ak hb
  clear hrg hl hnv hbv hb c11
  go_upto_region 12 with (at_next; refine wpList_next_ranges _ rfl _ rfl 3 int_law ptrElem (Value.int .i64) ptrV (fun key kl hk => by obtain ⟨x, rfl, _⟩ := Maps.keyOf_int_inv Tryz.underlying3 hk; exact ⟨x, rfl⟩) (fun v y hv => ptr_shape hv) a.sb w2.heap.size s.sn D left cnt rfl HR.1 ?_ ?_; all_goals (first | (intro (hc0 : cnt = 0) hl0; have HL0 := ak hl0; clear hc0 hl0) | (intro x o kl y w5 cnt2 hk hlk hR hat hrg5 hlt5 hg5 hs5 hen; obtain ⟨x', ex, rfl, hwx⟩ := Maps.keyOf_int_inv Tryz.underlying3 hk; cases ex; have hb5 := HB.1.grown hg5 (by have := HB.1.size; omega) (fun b e => by injection e with e; omega); obtain ⟨pg, hd, qx, rfl, hp4, hsp, rfl, hhk, hsa⟩ := span_came HM.1 hb5 hrg5 hwx (HL.1 _ hlk) hR hat; have H5 := ak (And.intro hrg5 (And.intro hlt5 hb5)); have HS5 := ak (And.intro hp4 (And.intro hsp hlk)); have HHK := ak hhk; have HSA := ak hsa; change (Instr.entry (.pointer (some ⟨w2.heap.size, 0, none⟩))).run Tryz.prog w5 = .ok (.tuple #[.int .i64 (pg : Int), .pointer (some ⟨qx, 0, none⟩)]) w5 at hen; clear hk hlk hR hat hrg5 hlt5 hg5 hs5 hwx hb5 hp4 hsp hhk hsa)))
  ·go_ret
   exact ⟨r, u10, u11, rfl, HNV.1.mono (fun p _ => HL0.1 _), HBV.1.upd (Upd.of_below κ HB.1), below_then HB0.1 HB0.1.size HB.1⟩
  ·have HLE := ak HR.1.left_eq
   obtain ⟨hc4, ht⟩ := HTK.1 pg hd HS5.1.2.1
   obtain ⟨sb, k1, k2⟩ := HHK.1
   have HK1 := ak (k1.below H5.1.2.2)
   have HK2 := ak (k2.below H5.1.2.2)
   have s0 := HK1.1.blk.at 0 (.pointer (some ⟨sb, 0, none⟩)) rfl
   have HCL := ak (span_class sb hd.cls hd.tk w5 HK2.1.blk)
   have HFU := ak (span_full sb hd.cls hd.tk ht w5 HK2.1.blk)
   have HHT := ak (And.intro hc4 ht)
   clear k1 k2 hc4 ht
   by_cases hcc : hd.cls = cls
   ·subst hcc
    by_cases hfu : Lib.onesCount hd.tk = clN hd.cls
    ·have d1 : decide (Lib.onesCount hd.tk = clN hd.cls) = true := decide_eq_true hfu
     rw [d1] at HFU
     have HNC := ak (show ¬ Cand (ordO s c) hd.cls hd from fun h => h.2.1 hfu)
     clear hfu d1
     go_wp2_with (first | (go_at_call 72; (with_reducible refine HCL.1.mono ?_); rintro e_ w6 ⟨rfl, hw6⟩; have hw6 := hw6.symm; subst hw6) | (go_at_call 205; (with_reducible refine HFU.1.mono ?_); rintro e_ w6 ⟨rfl, hb6⟩; have HB6 := ak hb6; clear hb6 s0))
     refine ⟨⟨_, cnt2, r, ranges_below (κ := κ) H5.1.1 HB6.1, fun kl hkl => HL.1 kl (by simp only [Bool.and_eq_true] at hkl; exact hkl.1), HNV.1.skip HS5.1.2.1 (fun q h => left_out h) (fun h => absurd h HNC.1), HBV.1, below_then H5.1.2.2 H5.1.2.2.size HB6.1⟩, ?_⟩
     rw [(ranges_below (κ := κ) H5.1.1 HB6.1).left_eq, HLE.1]
     exact H5.1.2.1
    ·have d1 : decide (Lib.onesCount hd.tk = clN hd.cls) = false := decide_eq_false hfu
     rw [d1] at HFU
     have HNF := ak hfu
     clear hfu d1
     obtain ⟨z, hz⟩ : ∃ z, Lib.idxOf (ordO s c) (hd.node : Int) = z := ⟨_, rfl⟩
     have HIX := ak (fun (W : World) (hW : RowKit.Below w5.heap.size w5 W) => index_ints A9 q c9 (ordO s c) (hd.node : Int) HQL.1 (by have := HQ8.1; omega) W ((HRI.1.below H5.1.2.2).below hW))
     rw [hz] at HIX
     have HZ := ak hz
     have HZQ := ak (show 0 ≤ z → z < (q : Int) from fun h0 => by rw [← hz, ← HQL.1]; exact idx_lt _ _ (by rw [hz]; exact h0))
     clear hz
     obtain ⟨u, hu⟩ : ∃ u : Int, u11 = .int .i64 u := by
      cases r with
      | none => exact ⟨_, HBV.1.2⟩
      | some pb => obtain ⟨_, _, _, _, h, _⟩ := HBV.1; exact ⟨_, h⟩
     subst hu
     go_upto_region 14 with (first | (go_at_call 72; (with_reducible refine HCL.1.mono ?_); rintro e_ w6 ⟨rfl, hw6⟩; have hw6 := hw6.symm; subst hw6) | (go_at_call 205; (with_reducible refine HFU.1.mono ?_); rintro e_ w6 ⟨rfl, hb6⟩; have HB6 := ak hb6; have s2 := (HK1.1.below hb6).blk.at 2 (.int .i64 (hd.node : Int)) rfl; clear hb6 s0) | (go_at_call 206; (with_reducible refine (HIX.1 _ HB6.1).mono ?_); rintro e_ w7 ⟨rfl, hw7⟩; have hw7 := hw7.symm; subst hw7; clear s2))
     by_cases hz0 : z < 0
     ·have d0 : decide (z < 0) = true := decide_eq_true hz0
      refine st_ 27 (fun w' => True) [] trivial (fun hHeld => ?_)
      refine pu_ 0 76 1 ?_
      refine pu_ 1 77 3 ?_
      refine pu_ 2 78 7 ?_
      refine po_ 3 79 15 ?_
      refine po_ 4 80 31 ?_
      refine po_ 5 81 63 ?_
      refine pu_ 6 82 127 ?_
      refine pu_ 7 83 255 ?_
      refine po_ 8 84 511 ?_
      refine po_ 9 85 1023 ?_
      refine po_ 10 86 2047 ?_
      refine po_ 11 87 4095 ?_
      refine po_ 12 88 8191 ?_
      refine po_ 13 89 16383 ?_
      refine po_ 14 90 32767 ?_
      refine po_ 15 91 65535 ?_
      refine po_ 16 92 131071 ?_
      refine po_ 17 93 262143 ?_
      refine po_ 18 94 524287 ?_
      refine po_ 19 95 1048575 ?_
      refine po_ 20 96 2097151 ?_
      refine po_ 21 97 4194303 ?_
      refine po_ 22 98 8388607 ?_
      refine po_ 23 99 16777215 ?_
      refine po_ 24 100 33554431 ?_
      refine po_ 25 101 67108863 ?_
      refine pu_ 26 102 134217727 ?_
      refine done_ (by kernel_rfl) ?_
      go_wp2_with fail
      have HB7 := below_then HB6.1 HB6.1.size (below_drew (RowKit.Below.refl w6.heap.size w6))
      refine ⟨⟨_, cnt2, r, ranges_below (κ := κ) H5.1.1 HB7, fun kl hkl => HL.1 kl (by simp only [Bool.and_eq_true] at hkl; exact hkl.1), HNV.1.skip HS5.1.2.1 (fun q h => left_out h) (fun h => absurd h.2.2 (by rw [HZ.1]; omega)), HBV.1, below_then H5.1.2.2 H5.1.2.2.size HB7⟩, ?_⟩
      rw [(ranges_below (κ := κ) H5.1.1 HB7).left_eq, HLE.1]
      exact H5.1.2.1
     ·have d0 : decide (z < 0) = false := decide_eq_false hz0
      have hzq := HZQ.1 (by omega)
      by_cases hgt : u < z
      ·have d1 : decide (u < z) = true := decide_eq_true hgt
       have hns : ∃ pb hb, r = some pb ∧ s.sp pb = some hb ∧ lexLe (ordO s c) hb pb hd pg := by
        cases r with
        | none => have := HBV.1.2; injection this with _ this; rw [HQL.1] at this; omega
        | some pb => obtain ⟨_, hb, h1, _, h3, _⟩ := HBV.1; injection h3 with _ h3; exact ⟨pb, hb, rfl, h1, .inl (by rw [← h3, HZ.1]; exact hgt)⟩
       have HNS := ak hns
       clear hns hzq
       refine st_ 27 (fun w' => True) [] trivial (fun hHeld => ?_)
       refine pu_ 0 76 1 ?_
       refine pu_ 1 77 3 ?_
       refine pu_ 2 78 7 ?_
       refine pu_ 3 79 15 ?_
       refine pu_ 4 80 31 ?_
       refine pu_ 5 81 63 ?_
       refine pu_ 6 82 127 ?_
       refine pu_ 7 83 255 ?_
       refine po_ 8 84 511 ?_
       refine po_ 9 85 1023 ?_
       refine po_ 10 86 2047 ?_
       refine po_ 11 87 4095 ?_
       refine po_ 12 88 8191 ?_
       refine po_ 13 89 16383 ?_
       refine po_ 14 90 32767 ?_
       refine po_ 15 91 65535 ?_
       refine po_ 16 92 131071 ?_
       refine po_ 17 93 262143 ?_
       refine po_ 18 94 524287 ?_
       refine po_ 19 95 1048575 ?_
       refine po_ 20 96 2097151 ?_
       refine po_ 21 97 4194303 ?_
       refine po_ 22 98 8388607 ?_
       refine po_ 23 99 16777215 ?_
       refine po_ 24 100 33554431 ?_
       refine po_ 25 101 67108863 ?_
       refine pu_ 26 102 134217727 ?_
       refine done_ (by kernel_rfl) ?_
       go_wp2_with fail
       have HB7 := below_then HB6.1 HB6.1.size (below_drew (RowKit.Below.refl w6.heap.size w6))
       refine ⟨⟨_, cnt2, r, ranges_below (κ := κ) H5.1.1 HB7, fun kl hkl => HL.1 kl (by simp only [Bool.and_eq_true] at hkl; exact hkl.1), HNV.1.skip HS5.1.2.1 (fun q h => left_out h) (fun _ => HNS.1), HBV.1, below_then H5.1.2.2 H5.1.2.2.size HB7⟩, ?_⟩
       rw [(ranges_below (κ := κ) H5.1.1 HB7).left_eq, HLE.1]
       exact H5.1.2.1
      ·have d1 : decide (u < z) = false := decide_eq_false hgt
       by_cases heq : z = u
       ·subst heq
        have hz1 : (z == z) = true := beq_self_eq_true z
        obtain ⟨pb, hb, hrb⟩ : ∃ pb hb, r = some pb ∧ s.sp pb = some hb ∧ Lib.idxOf (ordO s c) hb.node = z ∧ ∃ qb, u10 = .pointer (some ⟨qb, 0, none⟩) ∧ HeldK κ w2 qb pb hb := by
         cases r with
         | none => have := HBV.1.2; injection this with _ this; rw [HQL.1] at this; omega
         | some pb => obtain ⟨qb, hb, h1, h2, h3, h4, _⟩ := HBV.1; injection h3 with _ h3; exact ⟨pb, hb, rfl, h1, h3.symm, qb, h2, h4⟩
        obtain ⟨rfl, hsb, hib, qb, rfl, hhb⟩ := hrb
        obtain ⟨sb2, m1, m2⟩ := hhb
        have c1 := (HK1.1.below HB6.1).blk.at 1 (.int .i64 (pg : Int)) rfl
        have c2 := ((m1.below H5.1.2.2).below HB6.1).blk.at 1 (.int .i64 (pb : Int)) rfl
        have HSB := ak (And.intro hsb hib)
        clear m1 m2 hsb hib hzq hgt
        by_cases hpp : pb < pg
        ·have d2 : decide ((pb : Int) < (pg : Int)) = true := decide_eq_true (by omega)
         refine st_ 27 (fun w' => w'.cell? ⟨qx, 1, none⟩ = some (.int .i64 (pg : Int)) ∧ w'.cell? ⟨qb, 1, none⟩ = some (.int .i64 (pb : Int))) [] ⟨c1, c2⟩ (fun hHeld => ?_)
         refine pu_ 0 76 1 ?_
         refine pu_ 1 77 3 ?_
         refine pu_ 2 78 7 ?_
         refine pu_ 3 79 15 ?_
         refine pu_ 4 80 31 ?_
         refine pu_ 5 81 63 ?_
         refine pu_ 6 82 127 ?_
         refine pu_ 7 83 255 ?_
         refine pu_ 8 84 511 ?_
         refine pu_ 9 85 1023 ?_
         refine pu_ 10 86 2047 ?_
         refine pu_ 11 87 4095 ?_
         refine pu_ 12 88 8191 ?_
         refine pu_ 13 89 16383 ?_
         refine pu_ 14 90 32767 ?_
         refine pu_ 15 91 65535 ?_
         refine pu_ 16 92 131071 ?_
         refine pu_ 17 93 262143 ?_
         refine pu_ 18 94 524287 ?_
         refine pu_ 20 96 1572863 ?_
         refine pu_ 21 97 3670015 ?_
         refine pu_ 22 98 7864319 ?_
         refine ta_ 19 95 8388607 hHeld ?_
         refine ta_ 23 99 16777215 hHeld ?_
         refine pu_ 24 100 33554431 ?_
         refine pu_ 25 101 67108863 ?_
         refine pu_ 26 102 134217727 ?_
         refine done_ (by kernel_rfl) ?_
         go_wp2_with fail
         have HB7 := below_then HB6.1 HB6.1.size (below_drew (RowKit.Below.refl w6.heap.size w6))
         refine ⟨⟨_, cnt2, (some pb), ranges_below (κ := κ) H5.1.1 HB7, fun kl hkl => HL.1 kl (by simp only [Bool.and_eq_true] at hkl; exact hkl.1), HNV.1.skip HS5.1.2.1 (fun q h => left_out h) (fun _ => ⟨pb, hb, rfl, HSB.1.1, .inr ⟨by rw [HSB.1.2, HZ.1], by omega⟩⟩), HBV.1, below_then H5.1.2.2 H5.1.2.2.size HB7⟩, ?_⟩
         rw [(ranges_below (κ := κ) H5.1.1 HB7).left_eq, HLE.1]
         exact H5.1.2.1
        ·have d2 : decide ((pb : Int) < (pg : Int)) = false := decide_eq_false (by omega)
         refine st_ 27 (fun w' => w'.cell? ⟨qx, 1, none⟩ = some (.int .i64 (pg : Int)) ∧ w'.cell? ⟨qb, 1, none⟩ = some (.int .i64 (pb : Int))) [] ⟨c1, c2⟩ (fun hHeld => ?_)
         refine pu_ 0 76 1 ?_
         refine pu_ 1 77 3 ?_
         refine pu_ 2 78 7 ?_
         refine pu_ 3 79 15 ?_
         refine pu_ 4 80 31 ?_
         refine pu_ 5 81 63 ?_
         refine pu_ 6 82 127 ?_
         refine pu_ 7 83 255 ?_
         refine pu_ 8 84 511 ?_
         refine pu_ 9 85 1023 ?_
         refine pu_ 10 86 2047 ?_
         refine pu_ 11 87 4095 ?_
         refine pu_ 12 88 8191 ?_
         refine pu_ 13 89 16383 ?_
         refine pu_ 14 90 32767 ?_
         refine pu_ 15 91 65535 ?_
         refine pu_ 16 92 131071 ?_
         refine pu_ 17 93 262143 ?_
         refine pu_ 18 94 524287 ?_
         refine pu_ 20 96 1572863 ?_
         refine pu_ 21 97 3670015 ?_
         refine pu_ 22 98 7864319 ?_
         refine ta_ 19 95 8388607 hHeld ?_
         refine ta_ 23 99 16777215 hHeld ?_
         refine pu_ 24 100 33554431 ?_
         refine pu_ 25 101 67108863 ?_
         refine pu_ 26 102 134217727 ?_
         refine done_ (by kernel_rfl) ?_
         go_wp2_with fail
         have HB7 := below_then HB6.1 HB6.1.size (below_drew (RowKit.Below.refl w6.heap.size w6))
         refine ⟨⟨_, cnt2, (some pg), ranges_below (κ := κ) H5.1.1 HB7, fun kl hkl => HL.1 kl (by simp only [Bool.and_eq_true] at hkl; exact hkl.1), HNV.1.best HS5.1.2.1 (fun q h => left_out h) ⟨rfl, HNF.1, by rw [HZ.1]; omega⟩ (fun pb' hb' e1 e2 => by injection e1 with e1; subst e1; rw [HSB.1.1] at e2; injection e2 with e2; subst e2; exact .inr ⟨by rw [HSB.1.2, HZ.1], by omega⟩), ⟨qx, hd, HS5.1.2.1, rfl, by rw [HZ.1], HHK.1, HSA.1⟩, below_then H5.1.2.2 H5.1.2.2.size HB7⟩, ?_⟩
         rw [(ranges_below (κ := κ) H5.1.1 HB7).left_eq, HLE.1]
         exact H5.1.2.1
       ·have hz1 : (z == u) = false := beq_eq_false_iff_ne.mpr heq
        have hlt : ∀ pb hb, r = some pb → s.sp pb = some hb → lexLe (ordO s c) hd pg hb pb := fun pb hb e1 e2 => by
         subst e1
         obtain ⟨_, hb', h1, _, h3, _⟩ := HBV.1
         rw [e2] at h1
         injection h1 with h1
         subst h1
         injection h3 with _ h3
         exact .inl (by rw [← h3, HZ.1]; omega)
        have HLT := ak hlt
        clear hlt hzq heq hgt
        refine st_ 27 (fun w' => True) [] trivial (fun hHeld => ?_)
        refine pu_ 0 76 1 ?_
        refine pu_ 1 77 3 ?_
        refine pu_ 2 78 7 ?_
        refine pu_ 3 79 15 ?_
        refine pu_ 4 80 31 ?_
        refine pu_ 5 81 63 ?_
        refine pu_ 6 82 127 ?_
        refine pu_ 7 83 255 ?_
        refine pu_ 8 84 511 ?_
        refine pu_ 9 85 1023 ?_
        refine pu_ 10 86 2047 ?_
        refine pu_ 11 87 4095 ?_
        refine po_ 12 88 8191 ?_
        refine po_ 13 89 16383 ?_
        refine pu_ 14 90 32767 ?_
        refine pu_ 15 91 65535 ?_
        refine po_ 16 92 131071 ?_
        refine po_ 17 93 262143 ?_
        refine po_ 18 94 524287 ?_
        refine po_ 19 95 1048575 ?_
        refine po_ 20 96 2097151 ?_
        refine po_ 21 97 4194303 ?_
        refine po_ 22 98 8388607 ?_
        refine po_ 23 99 16777215 ?_
        refine po_ 24 100 33554431 ?_
        refine pu_ 25 101 67108863 ?_
        refine pu_ 26 102 134217727 ?_
        refine done_ (by kernel_rfl) ?_
        go_wp2_with fail
        have HB7 := below_then HB6.1 HB6.1.size (below_drew (RowKit.Below.refl w6.heap.size w6))
        refine ⟨⟨_, cnt2, (some pg), ranges_below (κ := κ) H5.1.1 HB7, fun kl hkl => HL.1 kl (by simp only [Bool.and_eq_true] at hkl; exact hkl.1), HNV.1.best HS5.1.2.1 (fun q h => left_out h) ⟨rfl, HNF.1, by rw [HZ.1]; omega⟩ HLT.1, ⟨qx, hd, HS5.1.2.1, rfl, by rw [HZ.1], HHK.1, HSA.1⟩, below_then H5.1.2.2 H5.1.2.2.size HB7⟩, ?_⟩
        rw [(ranges_below (κ := κ) H5.1.1 HB7).left_eq, HLE.1]
        exact H5.1.2.1
   ·have e1 : ¬ ((hd.cls : Int) = (cls : Int)) := by omega
    have e2 : ¬ (hd.cls = cls) := hcc
    have HNC := ak (show ¬ Cand (ordO s c) cls hd from fun h => hcc h.1)
    clear hcc
    go_wp2_with (go_at_call 72; (with_reducible refine HCL.1.mono ?_); rintro e_ w6 ⟨rfl, hw6⟩; have hw6 := hw6.symm; subst hw6)
    refine ⟨⟨_, cnt2, r, ranges_below (κ := κ) H5.1.1 (RowKit.Below.refl _ _), fun kl hkl => HL.1 kl (by simp only [Bool.and_eq_true] at hkl; exact hkl.1), HNV.1.skip HS5.1.2.1 (fun q h => left_out h) (fun h => absurd h HNC.1), HBV.1, below_then H5.1.2.2 H5.1.2.2.size (RowKit.Below.refl _ _)⟩, ?_⟩
    rw [(ranges_below (κ := κ) H5.1.1 (RowKit.Below.refl _ _)).left_eq, HLE.1]
    exact H5.1.2.1
end Go.Proofs.YtenkdmloolbdaaaGreatDoor.T
end
section
namespace Go.Proofs.YtenkdmloolbdaaaGreatDoor.T
open Go.RowKit Go.Maps Go.Proofs.YtenkdmloolbdaaaGreatDoorW.PrintWords Go.Proofs.YtenkdmloolbdaaaGreatDoorW.PrintLast Go.Proofs.YtenkdmloolbdaaaGreatDoorW.PrintMore
theorem two_div {f k k' y y' : Nat} (h : k * f + y = k' * f + y') (h1 : y < f) (h2 : y' < f) : k = k' ∧ y = y' := by
 have e1 : (k * f + y) / f = k := by rw [Nat.mul_comm, Nat.mul_add_div (by omega), Nat.div_eq_of_lt h1, Nat.add_zero]
 have e2 : (k' * f + y') / f = k' := by rw [Nat.mul_comm, Nat.mul_add_div (by omega), Nat.div_eq_of_lt h2, Nat.add_zero]
 have : k = k' := by rw [← e1, ← e2, h]
 subst this
 exact ⟨rfl, by omega⟩
theorem FrI.bd {s : St} (h : FrI s) {k y o : Nat} {x : Bud} (hx : s.bs[k]? = some x) (hy : x.tk (y : Int) = some (o : Int)) : k < s.n ∧ o < 11 ∧ y + 2 ^ o ≤ s.f ∧ ∃ q, y = q * 2 ^ o := by
 obtain ⟨q, o', e1, e2, e3, e4⟩ := (h.bud k x hx).tk.dom _ _ hy
 have e5 : y = q * 2 ^ o' := by omega
 have e6 : o = o' := by omega
 subst e6
 exact ⟨by rw [← h.bl]; exact (List.getElem?_eq_some_iff.1 hx).1, e3, by omega, q, e5⟩
theorem FrI.on {s : St} (h : FrI s) {p fr : Int} (hp : s.pf p = some fr) : (∃ (q : Nat) (hd : Held) (i : Nat), s.sp q = some hd ∧ i < 2 ^ clO hd.cls ∧ p = ((q + i : Nat) : Int) ∧ fr = ((hd.frame + i : Nat) : Int)) ∨ Big s p := by
 obtain ⟨_, _, q, n, h1, h2, h3⟩ := h.dom p fr hp
 have hq := (h.run.all _ h1).1
 simp only at hq
 cases hs : s.sp q.toNat with
 | none => exact .inr ⟨q, n, h1, h2, h3, hs⟩
 | some hd =>
  obtain ⟨a1, a2, a3, a4, a5, _⟩ := h.spn _ hd hs
  have e : ((q.toNat : Nat) : Int) = q := by omega
  rw [e] at a4
  have := h.run.start h1 a4
  refine .inl ⟨q.toNat, hd, (p - q).toNat, hs, by omega, by omega, ?_⟩
  have h5 := a5 (p - q).toNat (by omega)
  rw [show ((q.toNat + (p - q).toNat : Nat) : Int) = p from by omega, hp] at h5
  exact Option.some.inj h5
theorem FrI.bare {s : St} (h : FrI s) {k z : Nat} {x : Bud} (hx : s.bs[k]? = some x) (hz : freeT s.f x.tk z = true) : s.pg ((k * s.f + z : Nat) : Int) = none := by
 cases hg : s.pg ((k * s.f + z : Nat) : Int) with
 | none => rfl
 | some p =>
  exfalso
  have hp := (h.inv _ _).2 hg
  have hzf := freeT_lt z hz
  have hno := ((freeT_iff (h.bud k x hx).tk z).1 hz).2
  rcases h.on hp with ⟨q, hd, i, h1, h2, h3, h4⟩ | hb
  ·obtain ⟨a1, a2, a3, a4, a5, y, x', h6, h7, h8⟩ := h.spn q hd h1
   have hb := h.bd h7 h8
   obtain ⟨e1, e2⟩ := two_div (f := s.f) (k := k) (k' := hd.node) (y := z) (y' := y + i) (by omega) hzf (by omega)
   subst e1
   rw [hx] at h7
   obtain rfl := Option.some.inj h7
   exact hno y _ h8 (by omega)
  ·obtain ⟨k', y, x', h6, h7, h8⟩ := h.big p _ hp hb
   have hb' := h.bd h7 (o := 0) h8
   obtain ⟨e1, e2⟩ := two_div (f := s.f) (k := k) (k' := k') (y := z) (y' := y) (by omega) hzf (by omega)
   subst e1
   rw [hx] at h7
   obtain rfl := Option.some.inj h7
   exact hno y 0 h8 (by omega)
structure Run (s : St) (k o K y : Nat) (r : List Nat) (x : Bud) : Prop where
 hx : s.bs[k]? = some x
 hd : x.fr K = y :: r
 le : o ≤ K
 lt : K < 11
 min : ∀ j, o ≤ j → j < K → x.fr j = []
def takeB (x : Bud) (K y o : Nat) : Bud := ⟨x.c, frAt x.fr K y o, putF x.tk y o⟩
section
variable {s : St} {k o K y : Nat} {r : List Nat} {x : Bud}
theorem FrI.bud1 (h : FrI s) (hr : Run s k o K y r x) : BudI s.f (takeB x K y o) := by
 have h1 := (h.bud k x hr.hx).take hr.hd hr.le hr.lt hr.min
 rw [← (h.bud k x hr.hx).c] at h1
 have h2 := (h.bud k x hr.hx).c
 unfold takeB
 rw [h2] at h1 ⊢
 exact h1
theorem FrI.free1 (h : FrI s) (hr : Run s k o K y r x) : (∃ q, y = q * 2 ^ o) ∧ ∀ z, y ≤ z → z < y + 2 ^ o → freeT s.f x.tk z = true := (h.bud k x hr.hx).head hr.hd hr.le
theorem FrI.fit1 (h : FrI s) (hr : Run s k o K y r x) : k < s.n ∧ y + 2 ^ o ≤ s.f ∧ k * s.f + y + 2 ^ o ≤ s.n * s.f := by
 have h1 : k < s.n := by rw [← h.bl]; exact (List.getElem?_eq_some_iff.1 hr.hx).1
 have h2 := freeT_lt _ ((h.free1 hr).2 (y + 2 ^ o - 1) (by have := Nat.two_pow_pos o; omega) (by have := Nat.two_pow_pos o; omega))
 have h3 : y + 2 ^ o ≤ s.f := by have := Nat.two_pow_pos o; omega
 have h4 : (k + 1) * s.f ≤ s.n * s.f := Nat.mul_le_mul_right _ h1
 rw [Nat.add_mul, Nat.one_mul] at h4
 exact ⟨h1, h3, by omega⟩
theorem FrI.bare1 (h : FrI s) (hr : Run s k o K y r x) (i : Nat) (hi : i < 2 ^ o) : s.pg ((k * s.f + y + i : Nat) : Int) = none := by
 have := h.bare hr.hx ((h.free1 hr).2 (y + i) (by omega) (by omega))
 rwa [← Nat.add_assoc] at this
theorem FrI.old1 (h : FrI s) (hr : Run s k o K y r x) {y' o' : Nat} (hy : x.tk (y' : Int) = some (o' : Int)) : y' ≠ y := fun e => by
 subst e
 have h1 := (h.free1 hr).2 y' (Nat.le_refl _) (by have := Nat.two_pow_pos o; omega)
 exact ((freeT_iff (h.bud k x hr.hx).tk y').1 h1).2 y' o' hy ⟨Nat.le_refl _, by have := Nat.two_pow_pos o'; omega⟩
theorem FrI.map1 (h : FrI s) (hr : Run s k 0 K y r x) {p : Int} (hb : Big s p) (hp : s.pf p = none) :
 FrI { s with bs := s.bs.set k (takeB x K y 0), pf := putF s.pf p ((k * s.f + y : Nat) : Int), pg := putF s.pg ((k * s.f + y : Nat) : Int) p } := by
 have hx := hr.hx
 have hbare := h.bare1 hr 0 (by decide)
 rw [Nat.add_zero] at hbare
 obtain ⟨f1, f2, f3⟩ := h.fit1 hr
 have hset : ∀ {k' x'}, (s.bs.set k (takeB x K y 0))[k']? = some x' → (k' = k ∧ x' = takeB x K y 0) ∨ (k' ≠ k ∧ s.bs[k']? = some x') := fun hh => mem_set hh
 refine ⟨by rw [List.length_set]; exact h.bl, fun k' x' hh => ?_, h.len, h.run, fun q fr => ?_, fun q fr hq => ?_, fun q hd hq => ?_, fun k' y' o x' hk hy' => ?_, fun q fr hq hB => ?_⟩
 ·rcases hset hh with ⟨rfl, rfl⟩ | ⟨_, hh⟩
  ·exact h.bud1 hr
  ·exact h.bud _ _ hh
 ·show putF s.pf p _ q = some fr ↔ putF s.pg _ p fr = some q
  unfold putF
  constructor
  ·intro e
   split at e
   ·rename_i e1
    rw [if_pos (Option.some.inj e).symm, e1]
   ·rename_i hne
    rw [if_neg (fun e2 => ?_)]
    ·exact (h.inv _ _).1 e
    ·rw [e2] at e
     rw [(h.inv _ _).1 e] at hbare
     cases hbare
  ·intro e
   split at e
   ·rename_i e1
    rw [if_pos (Option.some.inj e).symm, e1]
   ·rename_i hne
    rw [if_neg (fun e2 => ?_)]
    ·exact (h.inv _ _).2 e
    ·have e3 := (h.inv _ _).2 e
     rw [e2, hp] at e3
     cases e3
 ·have hq' : putF s.pf p _ q = some fr := hq
  unfold putF at hq'
  split at hq'
  ·rename_i e
   subst e
   obtain rfl := Option.some.inj hq'
   obtain ⟨a, n, b1, b2, b3, _⟩ := hb
   exact ⟨by omega, by show _ < ((s.n * s.f : Nat) : Int); omega, a, n, b1, b2, b3⟩
  ·exact h.dom q fr hq'
 ·obtain ⟨a1, a2, a3, a4, a5, y', x', b1, b2, b3⟩ := h.spn q hd hq
  refine ⟨a1, a2, a3, a4, fun i hi => ?_, ?_⟩
  ·show putF s.pf p _ _ = _
   unfold putF
   rw [if_neg (fun e => by have := a5 i hi; rw [e, hp] at this; cases this)]
   exact a5 i hi
  ·by_cases e : hd.node = k
   ·subst e
    rw [hx] at b2
    obtain rfl := Option.some.inj b2
    refine ⟨y', takeB x K y 0, b1, get_set hx, ?_⟩
    show putF x.tk y _ y' = _
    unfold putF
    rw [if_neg (fun e => h.old1 hr b3 (by omega))]
    exact b3
   ·exact ⟨y', x', b1, by rw [List.getElem?_set_ne (fun e' => e e'.symm)]; exact b2, b3⟩
 ·rcases hset hk with ⟨rfl, rfl⟩ | ⟨hne, hh⟩
  ·have hy2 : putF x.tk y ((0 : Nat) : Int) y' = some (o : Int) := hy'
   unfold putF at hy2
   split at hy2
   ·rename_i e
    have e1 : y' = y := by omega
    subst e1
    have e2 : o = 0 := by have := Option.some.inj hy2; omega
    exact .inr ⟨e2, p, if_pos rfl, hb⟩
   ·rcases h.tak _ y' o x hx hy2 with hL | ⟨h0, q, hq, hB⟩
    ·exact .inl hL
    ·refine .inr ⟨h0, q, ?_, hB⟩
     show putF s.pf p _ q = _
     unfold putF
     rw [if_neg (fun e => by rw [e, hp] at hq; cases hq)]
     exact hq
  ·rcases h.tak k' y' o x' hh hy' with hL | ⟨h0, q, hq, hB⟩
   ·exact .inl hL
   ·refine .inr ⟨h0, q, ?_, hB⟩
    show putF s.pf p _ q = _
    unfold putF
    rw [if_neg (fun e => by rw [e, hp] at hq; cases hq)]
    exact hq
 ·have hq' : putF s.pf p _ q = some fr := hq
  unfold putF at hq'
  split at hq'
  ·obtain rfl := Option.some.inj hq'
   exact ⟨k, y, takeB x K y 0, rfl, get_set hx, if_pos rfl⟩
  ·obtain ⟨k', y', x', b1, b2, b3⟩ := h.big q fr hq' hB
   by_cases e : k' = k
   ·subst e
    rw [hx] at b2
    obtain rfl := Option.some.inj b2
    refine ⟨k', y', takeB x K y 0, b1, get_set hx, ?_⟩
    show putF x.tk y _ y' = _
    unfold putF
    rw [if_neg (fun e => h.old1 hr (o' := 0) b3 (by omega))]
    exact b3
   ·exact ⟨k', y', x', b1, by rw [List.getElem?_set_ne (fun e' => e e'.symm)]; exact b2, b3⟩
theorem FrI.void (h : FrI s) {p n : Int} (hd : ∀ r ∈ s.rs, r.1 + r.2 ≤ p ∨ p + n ≤ r.1) (q : Int) (h1 : p ≤ q) (h2 : q < p + n) : s.pf q = none := by
 cases hq : s.pf q with
 | none => rfl
 | some fr =>
  obtain ⟨_, _, a, b, k1, k2, k3⟩ := h.dom q fr hq
  have := hd _ k1
  simp only at this
  omega
theorem FrI.nosp (h : FrI s) {p n : Int} (hn : 1 ≤ n) (hd : ∀ r ∈ s.rs, r.1 + r.2 ≤ p ∨ p + n ≤ r.1) (q : Nat) (h1 : p ≤ q) (h2 : (q : Int) < p + n) : s.sp q = none := by
 cases hq : s.sp q with
 | none => rfl
 | some hd' =>
  have h3 := (h.spn q hd' hq).2.2.2.1
  have h4 := h.run.behind _ h3
  have := hd _ h3
  simp only at this h4
  omega
theorem FrI.runs (h : FrI s) {p n : Int} {l : List (Int × Int)} (ht : TS.takeR n s.rs = (p, 0, l)) : FrI { s with rs := l } := by
 obtain ⟨g1, g2, g3, g4, g5, g6⟩ := TS.take_ok h.run ht
 refine ⟨h.bl, h.bud, h.len, g1, h.inv, fun q fr hq => ?_, fun q hd hq => ?_, fun k y o x hk hy => ?_, fun q fr hq hB => ?_⟩
 ·obtain ⟨a1, a2, a, b, k1, k2, k3⟩ := h.dom q fr hq
  exact ⟨a1, a2, a, b, (g5 _).2 (.inl k1), k2, k3⟩
 ·obtain ⟨a1, a2, a3, a4, a5⟩ := h.spn q hd hq
  exact ⟨a1, a2, a3, (g5 _).2 (.inl a4), a5⟩
 ·rcases h.tak k y o x hk hy with hL | ⟨h0, q, hq, a, b, k1, k2, k3, k4⟩
  ·exact .inl hL
  ·exact .inr ⟨h0, q, hq, a, b, (g5 _).2 (.inl k1), k2, k3, k4⟩
 ·obtain ⟨a, b, k1, k2, k3, k4⟩ := hB
  rcases (g5 _).1 k1 with k1 | e
  ·exact h.big q fr hq ⟨a, b, k1, k2, k3, k4⟩
  ·injection e with e1 e2
   subst e1; subst e2
   rw [h.void g6 q k2 k3] at hq
   cases hq
theorem FrI.grow {cls : Nat} (h : FrI s) (hcl : cls < 4) (hr : Run s k (clO cls) K y r x) {p : Nat} {l : List (Int × Int)} (ht : TS.takeR ((2 ^ clO cls : Nat) : Int) s.rs = ((p : Int), 0, l)) :
 FrI { s with bs := s.bs.set k (takeB x K y (clO cls)), pf := mapF s.pf p ((k * s.f + y : Nat) : Int) (2 ^ clO cls), pg := mapF s.pg ((k * s.f + y : Nat) : Int) p (2 ^ clO cls), rs := l, sp := setSp s.sp p ⟨k, clO cls, k * s.f + y, cls, 0⟩ } := by
 have hx := hr.hx
 obtain ⟨g1, g2, g3, g4, g5, g6⟩ := TS.take_ok h.run ht
 obtain ⟨f1, f2, f3⟩ := h.fit1 hr
 obtain ⟨Q, hQ⟩ : ∃ Q, 2 ^ clO cls = Q := ⟨_, rfl⟩
 have hQ0 : 0 < Q := by rw [← hQ]; exact Nat.two_pow_pos _
 have hbare := h.bare1 hr
 have hvoid := h.void g6
 rw [hQ] at hbare f2 f3 g2 g4 g5 g6 hvoid
 have hnsp : s.sp p = none := h.nosp (by omega) g6 p (Int.le_refl _) (by omega)
 have hset : ∀ {k' x'}, (s.bs.set k (takeB x K y (clO cls)))[k']? = some x' → (k' = k ∧ x' = takeB x K y (clO cls)) ∨ (k' ≠ k ∧ s.bs[k']? = some x') := fun hh => mem_set hh
 have hpf : ∀ q fr, mapF s.pf p ((k * s.f + y : Nat) : Int) Q q = some fr → (∃ i, i < Q ∧ q = ((p + i : Nat) : Int) ∧ fr = ((k * s.f + y + i : Nat) : Int)) ∨ s.pf q = some fr := fun q fr hq => by
  unfold mapF at hq
  split at hq
  ·rename_i e
   have := Option.some.inj hq
   exact .inl ⟨(q - p).toNat, by omega, by omega, by omega⟩
  ·exact .inr hq
 have hold : ∀ q fr, s.pf q = some fr → mapF s.pf p ((k * s.f + y : Nat) : Int) Q q = some fr := fun q fr hq => by
  unfold mapF
  rw [if_neg (fun e => ?_)]
  ·exact hq
  ·rw [hvoid q e.1 e.2] at hq; cases hq
 have hspo : ∀ q hd, s.sp q = some hd → setSp s.sp p ⟨k, clO cls, k * s.f + y, cls, 0⟩ q = some hd := fun q hd hq => by
  unfold setSp
  rw [if_neg (fun e => by rw [e, hnsp] at hq; cases hq)]
  exact hq
 rw [hQ]
 have hBo : ∀ q, Big s q → Big { s with bs := s.bs.set k (takeB x K y (clO cls)), pf := mapF s.pf p ((k * s.f + y : Nat) : Int) Q, pg := mapF s.pg ((k * s.f + y : Nat) : Int) p Q, rs := l, sp := setSp s.sp p ⟨k, clO cls, k * s.f + y, cls, 0⟩ } q := fun q ⟨a, b, k1, k2, k3, k4⟩ => by
  refine ⟨a, b, (g5 _).2 (.inl k1), k2, k3, ?_⟩
  show setSp s.sp p _ a.toNat = none
  unfold setSp
  rw [if_neg (fun e => ?_)]
  ·exact k4
  ·have h1 := h.run.all _ k1
   have h2 := g6 _ k1
   simp only at h1 h2
   omega
 refine ⟨by rw [List.length_set]; exact h.bl, fun k' x' hh => ?_, h.len, g1, fun q fr => ?_, fun q fr hq => ?_, fun q hd hq => ?_, fun k' y' o x' hk hy' => ?_, fun q fr hq hB => ?_⟩
 ·rcases hset hh with ⟨rfl, rfl⟩ | ⟨_, hh⟩
  ·exact h.bud1 hr
  ·exact h.bud _ _ hh
 ·show mapF s.pf p _ Q q = some fr ↔ mapF s.pg _ p Q fr = some q
  constructor
  ·intro e
   rcases hpf q fr e with ⟨i, h1, rfl, rfl⟩ | e
   ·unfold mapF
    rw [if_pos (by omega)]
    exact congrArg some (by omega)
   ·have e2 := (h.inv _ _).1 e
    unfold mapF
    rw [if_neg (fun e3 => ?_)]
    ·exact e2
    ·have := hbare (fr - ((k * s.f + y : Nat) : Int)).toNat (by omega)
     rw [show ((k * s.f + y + (fr - ((k * s.f + y : Nat) : Int)).toNat : Nat) : Int) = fr from by omega, e2] at this
     cases this
  ·intro e
   unfold mapF at e
   split at e
   ·rename_i e1
    have := Option.some.inj e
    unfold mapF
    rw [if_pos (by omega)]
    exact congrArg some (by omega)
   ·exact hold q fr ((h.inv _ _).2 e)
 ·rcases hpf q fr hq with ⟨i, h1, rfl, rfl⟩ | hq
  ·exact ⟨by omega, by show _ < ((s.n * s.f : Nat) : Int); omega, p, Q, (g5 _).2 (.inr rfl), by omega, by omega⟩
  ·obtain ⟨a1, a2, a, b, k1, k2, k3⟩ := h.dom q fr hq
   exact ⟨a1, a2, a, b, (g5 _).2 (.inl k1), k2, k3⟩
 ·have hq' : setSp s.sp p ⟨k, clO cls, k * s.f + y, cls, 0⟩ q = some hd := hq
  unfold setSp at hq'
  split at hq'
  ·rename_i e
   subst e
   obtain rfl := Option.some.inj hq'
   refine ⟨hcl, rfl, f1, ?_, fun i hi => ?_, y, takeB x K y (clO cls), rfl, get_set hx, if_pos rfl⟩
   ·show _ ∈ l
    simp only
    rw [hQ]
    exact (g5 _).2 (.inr rfl)
   ·simp only at hi ⊢
    rw [hQ] at hi
    unfold mapF
    rw [if_pos (by omega)]
    exact congrArg some (by omega)
  ·obtain ⟨a1, a2, a3, a4, a5, y', x', b1, b2, b3⟩ := h.spn q hd hq'
   refine ⟨a1, a2, a3, (g5 _).2 (.inl a4), fun i hi => hold _ _ (a5 i hi), ?_⟩
   by_cases e : hd.node = k
   ·subst e
    rw [hx] at b2
    obtain rfl := Option.some.inj b2
    refine ⟨y', takeB x K y (clO cls), b1, get_set hx, ?_⟩
    show putF x.tk y _ y' = _
    unfold putF
    rw [if_neg (fun e => h.old1 hr b3 (by omega))]
    exact b3
   ·exact ⟨y', x', b1, by rw [List.getElem?_set_ne (fun e' => e e'.symm)]; exact b2, b3⟩
 ·have key : (k' = k ∧ y' = y ∧ o = clO cls) ∨ ∃ x0, s.bs[k']? = some x0 ∧ x0.tk (y' : Int) = some (o : Int) := by
   rcases hset hk with ⟨rfl, rfl⟩ | ⟨hne, hh⟩
   ·have hy2 : putF x.tk y ((clO cls : Nat) : Int) y' = some (o : Int) := hy'
    unfold putF at hy2
    split at hy2
    ·rename_i e
     exact .inl ⟨rfl, by omega, by have := Option.some.inj hy2; omega⟩
    ·exact .inr ⟨x, hx, hy2⟩
   ·exact .inr ⟨x', hh, hy'⟩
  rcases key with ⟨rfl, rfl, rfl⟩ | ⟨x0, j1, j2⟩
  ·exact .inl ⟨p, ⟨k', clO cls, k' * s.f + y', cls, 0⟩, if_pos rfl, rfl, rfl, rfl⟩
  ·rcases h.tak k' y' o x0 j1 j2 with ⟨q, hd, m1, m2⟩ | ⟨h0, q, hq, hB⟩
   ·exact .inl ⟨q, hd, hspo q hd m1, m2⟩
   ·exact .inr ⟨h0, q, hold _ _ hq, hBo q hB⟩
 ·obtain ⟨a, b, k1, k2, k3, k4⟩ := hB
  have k4' : setSp s.sp p ⟨k, clO cls, k * s.f + y, cls, 0⟩ a.toNat = none := k4
  unfold setSp at k4'
  split at k4'
  ·cases k4'
  ·rename_i hne
   rcases (g5 _).1 k1 with k1 | e
   ·rcases hpf q fr hq with ⟨i, h1, rfl, rfl⟩ | hq
    ·exfalso
     have := g6 _ k1
     simp only at this
     omega
    ·obtain ⟨k', y', x', b1, b2, b3⟩ := h.big q fr hq ⟨a, b, k1, k2, k3, k4'⟩
     by_cases e : k' = k
     ·subst e
      rw [hx] at b2
      obtain rfl := Option.some.inj b2
      refine ⟨k', y', takeB x K y (clO cls), b1, get_set hx, ?_⟩
      show putF x.tk y _ y' = _
      unfold putF
      rw [if_neg (fun e => h.old1 hr (o' := 0) b3 (by omega))]
      exact b3
     ·exact ⟨k', y', x', b1, by rw [List.getElem?_set_ne (fun e' => e e'.symm)]; exact b2, b3⟩
   ·injection e with e1 e2
    omega
end
end Go.Proofs.YtenkdmloolbdaaaGreatDoor.T
end
section
namespace Go.Proofs.YtenkdmloolbdaaaGreatDoor.T
open Go.RowKit Go.Maps Go.WideShapes Go.Proofs.YtenkdmloolbdaaaGreatDoorW.PrintWords Go.Proofs.YtenkdmloolbdaaaGreatDoorW.PrintLast Go.Proofs.YtenkdmloolbdaaaGreatDoorW.PrintMore
theorem HeapK.like {κ : Kol} {i b each : Nat} {mn lo hi : Int} {w : World} {bs bs' : List Bud} (h : HeapK κ i w b each mn lo hi bs) (hl : bs'.length = bs.length) (hb : ∀ (j : Nat) (x x' : Bud), bs[j]? = some x → bs'[j]? = some x' → x'.fr = x.fr ∧ x'.tk = x.tk ∧ ∀ y, (x'.tk y).isSome = true → 0 ≤ y ∧ y < (x'.c : Int)) : HeapK κ i w b each mn lo hi bs' := by
 obtain ⟨v, ps, h1, h2, h3, h4⟩ := h
 refine ⟨v, ps, h1, h2, h3.trans hl.symm, fun j x' hx' => ?_⟩
 have hj := (List.getElem?_eq_some_iff.1 hx').1
 obtain ⟨x, hx⟩ : ∃ x, bs[j]? = some x := ⟨_, List.getElem?_eq_getElem (by omega)⟩
 obtain ⟨p, hp, m, t, g1, g2, g3⟩ := h4 j x hx
 obtain ⟨e1, e2, e3⟩ := hb j x x' hx hx'
 refine ⟨p, hp, m, t, g1, by rw [e1]; exact g2, ?_⟩
 rw [e2] at e3 ⊢
 exact g3.tight e3
theorem FrI.pgs {s : St} (h : FrI s) (hn : s.n ≤ 8) (hf : s.f ∈ p2s) : (∀ x, (s.pf x).isSome = true → 0 ≤ x ∧ x < 8192) ∧ ∀ x, (s.pg x).isSome = true → 0 ≤ x ∧ x < 8192 := by
 have hN : s.n * s.f ≤ 8 * 1024 := Nat.mul_le_mul hn (p2_le _ hf).2
 have key : ∀ p fr, s.pf p = some fr → (0 ≤ p ∧ p < 8192) ∧ 0 ≤ fr ∧ fr < 8192 := fun p fr hp => by
  obtain ⟨h1, h2, q, n, h3, h4, h5⟩ := h.dom p fr hp
  have h6 := h.run.all _ h3
  simp only at h6
  omega
 refine ⟨fun x hx => ?_, fun x hx => ?_⟩
 ·obtain ⟨fr, hfr⟩ := Option.isSome_iff_exists.1 hx
  exact (key x fr hfr).1
 ·obtain ⟨p, hp⟩ := Option.isSome_iff_exists.1 hx
  exact (key p x ((h.inv _ _).2 hp)).2
theorem Mi.lives {E t : Nat} {s : St} {H : List Int} (h : Mi E t s H) (x : Int) (hx : (s.live x).isSome = true) : 0 ≤ x ∧ x < 262144 := by
 obtain ⟨sz, hz⟩ := Option.isSome_iff_exists.1 hx
 obtain ⟨h1, h2, h3, h4⟩ := h.ob.live x sz hz
 by_cases hs : sz ≤ 64
 ·obtain ⟨p, hd, i, g1, g2, g3, g4, g5⟩ := h3 hs
  obtain ⟨a1, a2⟩ := h.fr.page g1
  have c1 := plc_in (p := p) (h.fr.spn p hd g1).1 g2
  have d1 := (cls_mul _ (h.fr.spn p hd g1).1).2.1
  unfold plc at g3
  omega
 ·obtain ⟨p, g1, g2, g3⟩ := h4 (by omega)
  have := h.fr.run.all _ g2
  simp only at this
  omega
theorem MachK.fix {κ : Kol} {w : World} {m : Nat} {a : Ad} {s s' : St} {E t : Nat} {H : List Int} (h : MachK κ w m a s) (hI : Mi E t s' H) (e : s' = { s with pn := s'.pn, sn := s'.sn, ln := s'.ln, bs := s'.bs }) (hl : s'.bs.length = s.bs.length) (hb : ∀ (j : Nat) (x x' : Bud), s.bs[j]? = some x → s'.bs[j]? = some x' → x'.fr = x.fr ∧ x'.tk = x.tk) : MachK κ w m a s' := by
 have hp := hI.fr.pgs hI.co.n8 hI.co.f2
 have hlv := hI.lives
 have hpn := hI.co.pn
 have hsn := hI.co.sn
 have hln := hI.co.ln
 have hbud := hI.fr.bud
 obtain ⟨bs', hbs⟩ : ∃ bs', s'.bs = bs' := ⟨_, rfl⟩
 rw [hpn, hsn, hln, hbs] at e
 rw [hbs] at hl hb hbud
 subst e
 have hh := h.hp.like (bs' := bs') hl (fun j x x' hx hx' => by
  obtain ⟨e1, e2⟩ := hb j x x' hx hx'
  have hB := hbud j x' hx'
  refine ⟨e1, e2, fun y hy => ?_⟩
  obtain ⟨o, ho⟩ := Option.isSome_iff_exists.1 hy
  obtain ⟨q, k, g1, g2, g3, g4⟩ := hB.tk.dom y o ho
  have := Nat.two_pow_pos k
  have hc : x'.c = s.f := hB.c
  rw [hc]
  have g4 : q * 2 ^ k + 2 ^ k ≤ s.f := g4
  omega)
 obtain ⟨fb, tb, m1, m2, m3, m4, m5, m6, m7⟩ := h.mem
 obtain ⟨f, q1, q2, q3⟩ := h.sp
 obtain ⟨hk, D, ho, hv⟩ := q1
 exact ⟨h.box, h.cs, h.ds, ⟨fb, tb, m1, m2, m3, m4, m5, m6.tight hp.1, m7.tight hp.2⟩, h.lg, h.bk, h.spc, hh, h.cpus, h.qs, ⟨f, ⟨hk, D, own_bound ho (fun y hy => q2 y (by rw [← (hv y (has_i64 ho y hy)).1]; exact hy)), hv⟩, q2, q3⟩, h.live.tight hlv, by rw [hl]; exact h.hbs, h.hcp, h.hqs⟩
def acqV (s : St) (j : Nat) (c : Cpu) (po : Int) (ps : Nat) (pn : Int) (o : Nat) : Int × Int × Int × Int := TZ.chV s.n s.f s.cs s.ds po ps pn j c.cur (s.bs.map fun x => mayB s.mn x o)
structure AcqR (s : St) (j : Nat) (c : Cpu) (po : Int) (ps : Nat) (pn : Int) (o k st ow : Nat) (cur' : Int) (x : Bud) (K y : Nat) (r : List Nat) : Prop where
 v : acqV s j c po ps pn o = ((k : Int), (st : Int), cur', 0)
 run : Run s k o K y r x
 can : CanT s.f s.mn x o K y r
 hst : st < s.n
 hk : k < s.n
 how : ow < s.n
 hnode : c.node = (ow : Int)
theorem near_in {may : List Bool} {s : Int} {l : List Int} {x : Int} (h : TZ.nearR may (TZ.inL s l) = some x) : ∃ k : Nat, x = (k : Int) ∧ may[k]? = some true := by
 unfold TZ.nearR at h
 have h1 := List.mem_of_find?_eq_some h
 have h2 := List.find?_some h
 unfold TZ.inL at h1
 have h3 := (List.mem_filter.1 h1).2
 unfold TZ.hasB at h3
 split at h3
 ·rename_i h0
  unfold TZ.okB at h2
  rw [Bool.and_eq_true, decide_eq_true_eq] at h2
  refine ⟨x.toNat, by omega, ?_⟩
  have h4 : rdOf false may x = true := h2.2
  unfold rdOf at h4
  have hl : x.toNat < may.length := by omega
  rw [List.getD_eq_getElem?_getD, List.getElem?_eq_getElem hl] at h4
  rw [List.getElem?_eq_getElem hl]
  exact congrArg some h4
 ·cases h3
theorem Mi.acq {E t : Nat} {s : St} {H : List Int} (h : Mi E t s H) {j : Nat} {c : Cpu} (hc : s.cpus[j]? = some c) {po : Int} {ps : Nat} {pn : Int} (hP : PolI s.n po ps pn) {o : Nat} (ho : o < 11) :
 (∃ (st : Nat) (cur' : Int), st < s.n ∧ acqV s j c po ps pn o = (0, (st : Int), cur', 5)) ∨ ∃ (k st ow : Nat) (cur' : Int) (x : Bud) (K y : Nat) (r : List Nat), AcqR s j c po ps pn o k st ow cur' x K y r := by
 obtain ⟨hcs, _⟩ := h.co.cpu j c hc
 have hjl := (List.getElem?_eq_some_iff.1 hcs).1
 have hnd := TZ.chk_cpus h.co.chk c.node (List.mem_of_getElem? hcs)
 have hrd : rd s.cs (j : Int) = c.node := by
  unfold rd
  rw [Int.toNat_natCast, List.getD_eq_getElem?_getD, hcs]
  rfl
 have hst := TZ.start_in po ps hP.lt pn s.n h.co.n1 h.co.n8 c.node c.cur hnd.1 hnd.2 hP.ok
 obtain ⟨st, hst'⟩ : ∃ st : Nat, (TZ.startR po ps pn c.node c.cur).1 = (st : Int) := ⟨(TZ.startR po ps pn c.node c.cur).1.toNat, by omega⟩
 obtain ⟨v, hv1, hv⟩ : ∃ v, acqV s j c po ps pn o = v ∧ TZ.chV s.n s.f s.cs s.ds po ps pn j c.cur (s.bs.map fun x => mayB s.mn x o) = v := ⟨_, rfl, rfl⟩
 unfold TZ.chV at hv
 rw [if_pos h.co.chk, if_neg (by omega), if_pos hP.ok, hrd, hst'] at hv
 cases hn : TZ.nearR (s.bs.map fun x => mayB s.mn x o) (TZ.inL (TZ.permR po ps s.n) (TZ.ordL s.ds (st : Int).toNat (s.n : Int).toNat)) with
 | none =>
  rw [hn] at hv
  exact .inl ⟨st, _, by omega, hv1.trans hv.symm⟩
 | some z =>
  rw [hn] at hv
  obtain ⟨k, rfl, hk⟩ := near_in hn
  rw [List.getElem?_map] at hk
  obtain ⟨x, hx, hm⟩ := Option.map_eq_some_iff.1 hk
  have hB := h.fr.bud k x hx
  obtain ⟨ro, hro⟩ := above_of x.fr o
  have hra := above_n hro
  have hmm := hm
  unfold mayB at hmm
  rw [Bool.and_eq_true, ← hra] at hmm
  obtain ⟨K, rfl⟩ := Option.isSome_iff_exists.1 hmm.1
  obtain ⟨g1, g2, g3, g4⟩ := hro
  obtain ⟨y, r, hyr⟩ : ∃ y r, x.fr K = y :: r := by
   cases hf : x.fr K with
   | nil => exact absurd hf g3
   | cons y r => exact ⟨y, r, rfl⟩
  have hkl := (List.getElem?_eq_some_iff.1 hx).1
  have hbl := h.fr.bl
  have hf := (p2_le _ h.co.f2).2
  refine .inr ⟨k, st, c.node.toNat, _, x, K, y, r, ⟨hv1.trans hv.symm, ⟨hx, hyr, g1, g2, g4⟩, ⟨hB.ok, by rw [hB.c]; omega, g1, g2, hyr, g4, hm⟩, by omega, by omega, by omega, by omega⟩⟩
def curT (s : St) (j : Nat) (c : Cpu) (cur' : Int) : St := { s with cpus := s.cpus.set j { c with cur := cur' } }
theorem Mi.cur {E t : Nat} {s : St} {H : List Int} (h : Mi E t s H) {j : Nat} {c : Cpu} (hc : s.cpus[j]? = some c) (cur' : Int) : Mi E t (curT s j c cur') H :=
 h.cpu hc rfl (h.co.cpu j c hc).2 (List.Perm.refl _) (fun k hk => ⟨h.ob.clen j c k hc hk, fun x hx => h.ob.cch j c k x hc hk hx⟩)
structure GrowR (s : St) (j : Nat) (c : Cpu) (cls k st ow : Nat) (cur' : Int) (x : Bud) (K y : Nat) (r : List Nat) (page : Nat) (l : List (Int × Int)) : Prop where
 acq : AcqR s j c c.mode c.set c.nd (clO cls) k st ow cur' x K y r
 tk : TS.takeR ((2 ^ clO cls : Nat) : Int) s.rs = ((page : Int), 0, l)
def growT (s : St) (j : Nat) (c : Cpu) (cls k st ow : Nat) (cur' : Int) (x : Bud) (K y page : Nat) (l : List (Int × Int)) : St :=
 { s with bs := s.bs.set k (takeB x K y (clO cls)), ev := s.ev ++ [⟨k, st, ow, c.mode == 2⟩], cn := addC s.cn ⟨k, st, ow, c.mode == 2⟩, cpus := s.cpus.set j { c with cur := cur' }, pf := mapF s.pf page ((k * s.f + y : Nat) : Int) (2 ^ clO cls), pg := mapF s.pg ((k * s.f + y : Nat) : Int) page (2 ^ clO cls), rs := l, sp := setSp s.sp page ⟨k, clO cls, k * s.f + y, cls, 0⟩ }
theorem clo4 {cls : Nat} (h : cls < 4) : 1 ≤ 2 ^ clO cls ∧ 2 ^ clO cls ≤ 4 := (by decide : ∀ c : Nat, c < 4 → 1 ≤ 2 ^ clO c ∧ 2 ^ clO c ≤ 4) cls h
theorem Mi.grow {E t : Nat} {s : St} {H : List Int} (h : Mi E t s H) {j : Nat} {c : Cpu} (hc : s.cpus[j]? = some c) {cls k st ow : Nat} {cur' : Int} {x : Bud} {K y : Nat} {r : List Nat} {page : Nat} {l : List (Int × Int)} (hcl : cls < 4) (hR : GrowR s j c cls k st ow cur' x K y r page l) (hpt : page ≤ t) : Mi (E + 1) (t + 4) (growT s j c cls k st ow cur' x K y page l) H := by
 have hF := h.fr.grow hcl hR.acq.run hR.tk
 obtain ⟨g1, g2, g3, g4, g5, g6⟩ := TS.take_ok h.fr.run hR.tk
 have hC := (h.cur hc cur').co
 have h4 := clo4 hcl
 have hnsp : s.sp page = none := h.fr.nosp (by omega) g6 page (Int.le_refl _) (by omega)
 obtain ⟨s', hs'⟩ : ∃ s', s' = growT s j c cls k st ow cur' x K y page l := ⟨_, rfl⟩
 have hsp : ∀ q, s'.sp q = if q = page then some ⟨k, clO cls, k * s.f + y, cls, 0⟩ else s.sp q := fun q => by rw [hs']; rfl
 have hspo : ∀ q hd, s.sp q = some hd → s'.sp q = some hd := fun q hd hq => by
  rw [hsp, if_neg (fun e => by rw [e, hnsp] at hq; cases hq)]
  exact hq
 have hrs : s'.rs = l := by rw [hs']; rfl
 have hlv : s'.live = s.live := by rw [hs']; rfl
 have hbm : s'.bm = s.bm := by rw [hs']; rfl
 have hS : ∀ z q, Slot s' z q ↔ Slot s z q := fun z q => by
  constructor
  ·rintro ⟨p, hd, i, k1, k2, k3, k4, k5⟩
   rw [hsp] at k1
   split at k1
   ·obtain rfl := Option.some.inj k1
    rw [Nat.zero_testBit] at k4
    cases k4
   ·exact ⟨p, hd, i, k1, k2, k3, k4, k5⟩
  ·rintro ⟨p, hd, i, k1, k2⟩
   exact ⟨p, hd, i, hspo p hd k1, k2⟩
 have hcm : ∀ (i : Nat) (d : Cpu), s'.cpus[i]? = some d → ∃ d0 : Cpu, s.cpus[i]? = some d0 ∧ d.L = d0.L := fun i d hd => by
  rw [hs'] at hd
  rcases mem_set hd with ⟨rfl, rfl⟩ | ⟨_, hd⟩
  ·exact ⟨c, hc, rfl⟩
  ·exact ⟨d, hd, rfl⟩
 have hho : (homes s').Perm (homes s) := by
  have h1 := homes_cpu (s := s) (c' := { c with cur := cur' }) hc
  have h2 : homes s' = homes { s with cpus := s.cpus.set j { c with cur := cur' } } := by rw [hs']; rfl
  rw [h2]
  exact List.perm_iff_count.2 (fun a => by have k1 := List.perm_iff_count.1 h1 a; simp only [List.count_append, cpuL] at *; omega)
 have hkeep : ∀ q n, (q, n) ∈ s.rs → s.sp q.toNat = none → s'.sp q.toNat = none := fun q n hq hn => by
  have h1 := h.fr.run.all _ hq
  have h2 := g6 _ hq
  simp only at h1 h2
  rw [hsp, if_neg (by omega)]
  exact hn
 have htop : ∀ q ∈ l, q.1 + q.2 ≤ ((t + 4 : Nat) : Int) := fun q hq => by
  rcases (g5 q).1 hq with hq | rfl
  ·have := h.co.top q hq
   omega
  ·simp only; omega
 rw [← hs']
 refine ⟨by rw [hs']; exact ⟨hC.n1, hC.n8, hC.f2, hC.chk, hC.c16, hC.cpl, hC.cpu, hC.mn, hC.ql, hC.pn, hC.sn, hC.ln, by show (s.ev ++ _).length ≤ _; have := h.co.ev; simp; omega, by have := h.co.t1; omega, htop⟩, by rw [hs']; exact hF.like rfl rfl rfl rfl rfl rfl rfl rfl, ⟨fun q hq hh => ?_, fun z sz hz => ?_, fun q n hq hs => ?_, (hho.append_right H).nodup_iff.2 h.ob.nod, fun z => ?_, fun i d q z hd hq hz => ?_, fun i d q hd hq => ?_, fun q hq => h.ob.qlen q (by rw [hs'] at hq; exact hq), fun q pol hq => ?_⟩⟩
 ·rw [hsp] at hh
  split at hh
  ·obtain rfl := Option.some.inj hh
   exact Nat.two_pow_pos _
  ·exact h.ob.tk q hq hh
 ·rw [hlv] at hz
  obtain ⟨k1, k2, k3, k4⟩ := h.ob.live z sz hz
  refine ⟨k1, k2, fun hh => (hS _ _).2 (k3 hh), fun hh => ?_⟩
  obtain ⟨q, e1, e2, e3⟩ := k4 hh
  have := hkeep _ _ e2 (by rw [Int.toNat_natCast]; exact e3)
  rw [Int.toNat_natCast] at this
  exact ⟨q, e1, by rw [hrs]; exact (g5 _).2 (.inl e2), this⟩
 ·rw [hrs] at hq
  rw [hlv]
  rcases (g5 _).1 hq with hq | e
  ·refine h.ob.runs q n hq ?_
   have h1 := h.fr.run.all _ hq
   have h2 := g6 _ hq
   simp only at h1 h2
   rw [hsp, if_neg (by omega)] at hs
   exact hs
  ·injection e with e1 e2
   subst e1
   rw [Int.toNat_natCast, hsp, if_pos rfl] at hs
   cases hs
 ·rw [(hho.append_right H).mem_iff, hlv]
  simp only [hS]
  exact h.ob.hom z
 ·obtain ⟨d0, e1, e2⟩ := hcm i d hd
  rw [e2] at hz
  exact (hS _ _).2 (h.ob.cch i d0 q z e1 hq hz)
 ·obtain ⟨d0, e1, e2⟩ := hcm i d hd
  rw [e2]
  exact h.ob.clen i d0 q e1 hq
 ·rw [hbm] at hq
  obtain ⟨k1, a, b, k2, k3, k4, k5⟩ := h.ob.book q pol hq
  exact ⟨by rw [hs']; exact k1, a, b, by rw [hrs]; exact (g5 _).2 (.inl k2), k3, k4, hkeep a b k2 k5⟩
theorem grow_fail [SortI] (κ : Kol) (m : Nat) (a : Ad) (s : St) (j p : Nat) (c : Cpu) (cls : Nat) (hcl : cls < 4) (hs8 : c.set < 256) (hp : a.cps[j]? = some p) (hc : s.cpus[j]? = some c) (st ow : Nat) (cur' : Int)
 (hch : acqV s j c c.mode c.set c.nd (clO cls) = (0, (st : Int), cur', 5)) (hall : ∀ x ∈ s.bs, ∀ k, k < 11 → (x.fr k).length ≤ 1024) (hmn : -100000 ≤ s.mn) (hnode : c.node = (ow : Int)) (how : ow < s.n) (hn8 : s.n ≤ 8) (hev : s.ev.length ≤ 1000000) (w : World) (hg : GlobK κ w) (h : MachK κ w m a s) :
 Calls Tryz.prog 169 #[.pointer (some ⟨m, 0, none⟩), .int .i64 j, .pointer (some ⟨p, 0, none⟩), .int .i64 cls] w fun e w' => e = .returned (.tuple #[.pointer none, .int .i64 5]) ∧ ∃ κ', MachK κ' w' m a (curT s j c cur') ∧ Upd (fun z => 1 ≤ z) κ w κ' w' := by
 obtain ⟨o, ho⟩ : ∃ o, clO cls = o := ⟨_, rfl⟩
 have ho2 : o ≤ 2 := by rw [← ho]; match cls, hcl with | 0, _ => decide | 1, _ => decide | 2, _ => decide | 3, _ => decide
 have HOR := ak (order_own19 cls hcl w hg.g)
 have HNS := ak (fun (W : World) (hW : GlobR W) => span_new cls hcl W hW)
 rw [ho] at hch HOR
 have HG := ak hg
 have HM := ak h
 have HC := ak (show ∀ κ' W, MachK κ' W m a s → CpuK κ' (150 + 6 * j) W p c from fun κ' W hW => hW.cpuK hp hc)
 have HAQ := ak (show ∀ (κ' : Kol) (W : World) (hW : MachK κ' W m a s), Calls Tryz.prog 173 #[.pointer (some ⟨m, 0, none⟩), .int .i64 j, .pointer (some ⟨p, 0, none⟩), .agg #[.int .i64 c.mode, .int .u8 c.set, .int .i64 c.nd], .int .i64 o] W (fun e w' => e = .returned (.tuple #[.int .i64 0, .int .i64 0, .int .i64 5]) ∧ ∃ κ'', MachK κ'' w' m a (curT s j c cur') ∧ Upd (fun z => 8 ≤ z ∧ z < 250) κ' W κ'' w') from fun κ' W hW => by
  refine (acquire_gen κ' m a s j p c o (by omega) c.mode c.set c.nd hs8 hp hc 0 st ow cur' 5 hch ⟨0, fun _ => [], fun _ => none⟩ 0 0 [] (fun e => by omega) hall hmn hnode how (fun e => by omega) hn8 hev W hW).mono ?_
  rintro e w' ⟨_, h2⟩
  exact h2 (by omega))
 clear h hg hch hall hnode hc hp ho hev how
 go_enter Tryz.func169, Tryz.ntmps169
 go_wp2_with (first | (go_at_call 207; (with_reducible refine HOR.1.mono ?_); rintro e_ w1 ⟨rfl, hb⟩; have HB1 := ak hb; clear hb) | (go_at_call 208; (with_reducible refine (HNS.1 _ (HG.1.g.below HB1.1)).mono ?_); rintro e_ w2 ⟨sb, rfl, q1, q2, q3⟩; have hb12 := below_then HB1.1 HB1.1.size q3; have hm2 := HM.1.below hb12; have HM2 := ak hm2; have HB2 := ak hb12; have k1 := (HC.1 _ _ hm2).k1; have k2 := (HC.1 _ _ hm2).k2; have k3 := (HC.1 _ _ hm2).k3; clear q1 q2 q3 hb12 hm2) | (go_at_call 173; (with_reducible refine (HAQ.1 _ _ HM2.1).mono ?_); rintro e_ w3 ⟨rfl, κ2, q1, q2⟩; have HM3 := ak q1; have HU3 := ak ((Upd.of_below (I := fun z => 1 ≤ z) κ HB2.1).then q2 (fun c e => by omega)); clear q1 q2 k1 k2 k3))
 go_ret2
 exact ⟨rfl, κ2, HM3.1, HU3.1⟩
theorem NearV.only {s : St} {O : List Int} {k : Nat} {r r' : Option Nat} (h : NearV s O k (fun _ => True) r) (h' : NearV s O k (fun _ => True) r') : r = r' := by
 cases r with
 | none =>
  cases r' with
  | none => rfl
  | some p' =>
   obtain ⟨hd, h1, h2, _⟩ := h'
   exact absurd h2 (h p' hd h1 trivial)
 | some p =>
  obtain ⟨hd, h1, h2, h3⟩ := h
  cases r' with
  | none => exact absurd h2 (h' p hd h1 trivial)
  | some p' =>
   obtain ⟨hd', g1, g2, g3⟩ := h'
   have a1 := h3 p' hd' g1 trivial g2
   have a2 := g3 p hd h1 trivial h2
   unfold lexLe at a1 a2
   exact congrArg some (by omega)
theorem near_upto (s : St) (O : List Int) (k : Nat) : ∀ N : Nat, ∃ r, NearV s O k (fun p => p < N) r
 | 0 => ⟨none, fun p hd _ h => absurd h (Nat.not_lt_zero _)⟩
 | N + 1 => by
  obtain ⟨r, hr⟩ := near_upto s O k N
  cases hs : s.sp N with
  | none =>
   refine ⟨r, ?_⟩
   cases r with
   | none =>
    intro p hd h1 h2
    refine hr p hd h1 ?_
    have hne : p ≠ N := fun e => by rw [e, hs] at h1; cases h1
    have h2 : p < N + 1 := h2
    show p < N
    omega
   | some pb =>
    obtain ⟨hb, g1, g2, g3⟩ := hr
    refine ⟨hb, g1, g2, fun p hd h1 h2 => g3 p hd h1 ?_⟩
    have hne : p ≠ N := fun e => by rw [e, hs] at h1; cases h1
    have h2 : p < N + 1 := h2
    show p < N
    omega
  | some hd =>
   have hV : ∀ q, q < N + 1 → q < N ∨ q = N := fun q hq => by omega
   by_cases hc : Cand O k hd
   ·by_cases hb : ∀ pb hb, r = some pb → s.sp pb = some hb → lexLe O hd N hb pb
    ·exact ⟨some N, hr.best hs hV hc hb⟩
    ·refine ⟨r, hr.skip hs hV (fun _ => ?_)⟩
     have ⟨pb, hb'⟩ := Classical.not_forall.1 hb
     have ⟨hb2, h3⟩ := Classical.not_forall.1 hb'
     have ⟨h4, h5⟩ := Classical.not_imp.1 h3
     have ⟨h6, h7⟩ := Classical.not_imp.1 h5
     refine ⟨pb, hb2, h4, h6, ?_⟩
     unfold lexLe at h7 ⊢
     omega
   ·exact ⟨r, hr.skip hs hV (fun h => absurd h hc)⟩
theorem Mi.near {E t : Nat} {s : St} {H : List Int} (h : Mi E t s H) (O : List Int) (k : Nat) : ∃ r, NearV s O k (fun _ => True) r := by
 obtain ⟨r, hr⟩ := near_upto s O k 4096
 have hlt : ∀ p hd, s.sp p = some hd → p < 4096 := fun p hd hp => by have := h.fr.page hp; have := Nat.two_pow_pos (clO hd.cls); omega
 refine ⟨r, ?_⟩
 cases r with
 | none => exact fun p hd h1 _ => hr p hd h1 (hlt p hd h1)
 | some pb =>
  obtain ⟨hb, g1, g2, g3⟩ := hr
  exact ⟨hb, g1, g2, fun p hd h1 _ => g3 p hd h1 (hlt p hd h1)⟩
def tkT (c tk : Nat) : Nat := if freeI (tkI tk 0) < clN c then (if freeI (tkI tk 1) < clN c then (if freeI (tkI tk 2) < clN c then (if freeI (tkI tk 3) < clN c then 4 else 3) else 2) else 1) else 0
theorem tkT_fr (c tk : Nat) : tkT c tk ≤ 4 ∧ (∀ i, i < tkT c tk → freeI (tkI tk i) < clN c) ∧ (tkT c tk < 4 → clN c ≤ freeI (tkI tk (tkT c tk))) := by
 unfold tkT
 split
 ·split
  ·split
   ·split
    ·refine ⟨Nat.le_refl _, fun i hi => ?_, fun h => absurd h (by decide)⟩
     match i, hi with
     | 0, _ => assumption
     | 1, _ => assumption
     | 2, _ => assumption
     | 3, _ => assumption
    ·refine ⟨by decide, fun i hi => ?_, fun _ => by omega⟩
     match i, hi with
     | 0, _ => assumption
     | 1, _ => assumption
     | 2, _ => assumption
   ·refine ⟨by decide, fun i hi => ?_, fun _ => by omega⟩
    match i, hi with
    | 0, _ => assumption
    | 1, _ => assumption
  ·refine ⟨by decide, fun i hi => ?_, fun _ => by omega⟩
   match i, hi with
   | 0, _ => assumption
 ·exact ⟨by decide, fun i hi => absurd hi (Nat.not_lt_zero _), fun _ => by omega⟩
theorem not_full : ∀ c : Nat, c < 4 → ∀ tk : Nat, tk < 256 → tk < 2 ^ clN c → Lib.onesCount tk ≠ clN c → freeI tk < clN c := by decide +kernel
theorem free_bit : ∀ tk : Nat, tk < 256 → freeI tk < 8 → tk.testBit (freeI tk) = false := by decide +kernel
theorem tkT_pos {c tk : Nat} (hc : c < 4) (ht : tk < 2 ^ clN c) (hn : Lib.onesCount tk ≠ clN c) : 1 ≤ tkT c tk := by
 have := not_full c hc tk (tk_lt hc ht) ht hn
 unfold tkT
 rw [if_pos (show freeI (tkI tk 0) < clN c from this)]
 split <;> (try split) <;> (try split) <;> omega
theorem tkI_fits {c tk : Nat} (hc : c < 4) (ht : tk < 2 ^ clN c) : ∀ i, (∀ j, j < i → freeI (tkI tk j) < clN c) → tkI tk i < 2 ^ clN c
 | 0, _ => ht
 | i + 1, h => put_fits (tkI_fits hc ht i (fun j hj => h j (by omega))) (h i (by omega))
theorem ad_plc (page cls tk j : Nat) : ((adI page cls tk j : Nat) : Int) = plc page cls (freeI (tkI tk j)) := by
 unfold adI plc
 congr 1
 omega
theorem Mi.fill {E t : Nat} {s : St} {H : List Int} (h : Mi E t s H) {j : Nat} {c : Cpu} (hc : s.cpus[j]? = some c) {page : Nat} {hd : Held} (hp : s.sp page = some hd) (hL : c.L hd.cls = []) : ∀ T, T ≤ 4 → (∀ i, i < T → freeI (tkI hd.tk i) < clN hd.cls) → Mi E t (fiS s j c page hd T) ((if T = 0 then [] else [((adI page hd.cls hd.tk 0 : Nat) : Int)]) ++ H)
 | 0, _, _ => by rw [fiS_zero s j c page hd hc hp]; exact h
 | T + 1, hT, hf => by
  have ih := h.fill hc hp hL T (by omega) (fun i hi => hf i (by omega))
  have hcl := (h.fr.spn page hd hp).1
  have ht := h.ob.tk page hd hp
  have hsp : (fiS s j c page hd T).sp page = some { hd with tk := tkI hd.tk T } := by
   show setSp s.sp page _ page = _
   unfold setSp
   rw [if_pos rfl]
  have hfT := hf T (by omega)
  have h8 := cln_le hd.cls hcl
  have htT := tkI_fits hcl ht T (fun i hi => hf i (by omega))
  have hb := free_bit (tkI hd.tk T) (tk_lt hcl htT) (by omega)
  have h1 := ih.take hsp hfT hb
  rw [show ({ ({ hd with tk := tkI hd.tk T } : Held) with tk := putI ({ hd with tk := tkI hd.tk T } : Held).tk (freeI (tkI hd.tk T)) } : Held) = { hd with tk := tkI hd.tk (T + 1) } from rfl] at h1
  rw [show plc page ({ hd with tk := tkI hd.tk T } : Held).cls (freeI (tkI hd.tk T)) = ((adI page hd.cls hd.tk T : Nat) : Int) from (ad_plc _ _ _ _).symm] at h1
  cases T with
  | zero =>
   have e := fiS_next s j c page hd 0 rfl
   rw [← e]
   exact h1
  | succ T =>
   have e := fiS_put s j c page hd (T + 1)
   rw [← e]
   have hcq : ({ fiS s j c page hd (T + 1) with sn := s.sn, sp := setSp (fiS s j c page hd (T + 1)).sp page { hd with tk := tkI hd.tk (T + 1 + 1) } } : St).cpus[j]? = some { c with L := fiL c page hd.cls hd.tk (T + 1) } := fiS_cpu s j c page hd (T + 1) hc
   have hsl : Slot ({ fiS s j c page hd (T + 1) with sn := s.sn, sp := setSp (fiS s j c page hd (T + 1)).sp page { hd with tk := tkI hd.tk (T + 1 + 1) } } : St) ((adI page hd.cls hd.tk (T + 1) : Nat) : Int) hd.cls :=
    ⟨page, { hd with tk := tkI hd.tk (T + 1 + 1) }, freeI (tkI hd.tk (T + 1)), by show setSp _ page _ page = _; unfold setSp; rw [if_pos rfl], hfT, ad_plc _ _ _ _, by
     show (putI (tkI hd.tk (T + 1)) _).testBit _ = true
     rw [put_bit]
     simp, rfl⟩
   have h2 := Mi.cpu (c' := { c with L := fiL c page hd.cls hd.tk (T + 1 + 1) }) (H' := [((adI page hd.cls hd.tk 0 : Nat) : Int)] ++ H) h1 hcq rfl (h.co.cpu j c hc).2 ?_ (fun k hk => ?_)
   ·exact h2
   ·have hLc : fiL c page hd.cls hd.tk (T + 1 + 1) = setL (fiL c page hd.cls hd.tk (T + 1)) hd.cls ((fiL c page hd.cls hd.tk (T + 1)) hd.cls ++ [((adI page hd.cls hd.tk (T + 1) : Nat) : Int)]) := (fiL_succ c page hd.cls hd.tk (T + 1) (by omega)).symm
    rw [hLc]
    refine List.perm_iff_count.2 (fun a => ?_)
    have h4 : hd.cls = 0 ∨ hd.cls = 1 ∨ hd.cls = 2 ∨ hd.cls = 3 := by omega
    rcases h4 with h4 | h4 | h4 | h4 <;> simp [cpuL, setL, h4, List.count_append, List.count_cons] <;> omega
   ·have hLc : fiL c page hd.cls hd.tk (T + 1 + 1) = setL (fiL c page hd.cls hd.tk (T + 1)) hd.cls ((fiL c page hd.cls hd.tk (T + 1)) hd.cls ++ [((adI page hd.cls hd.tk (T + 1) : Nat) : Int)]) := (fiL_succ c page hd.cls hd.tk (T + 1) (by omega)).symm
    rw [hLc]
    show (setL _ _ _ k).length ≤ 8 ∧ ∀ x ∈ setL _ _ _ k, _
    unfold setL
    split
    ·rename_i ek
     subst ek
     refine ⟨?_, fun x hx => ?_⟩
     ·rw [List.length_append, fiL_len, hL]
      simp
      omega
     ·rcases List.mem_append.1 hx with hx | hx
      ·exact h1.ob.cch j _ hd.cls x hcq hk hx
      ·rw [List.mem_singleton.1 hx]
       exact hsl
    ·exact ⟨h1.ob.clen j _ k hcq hk, fun x hx => h1.ob.cch j _ k x hcq hk hx⟩
end Go.Proofs.YtenkdmloolbdaaaGreatDoor.T
end
