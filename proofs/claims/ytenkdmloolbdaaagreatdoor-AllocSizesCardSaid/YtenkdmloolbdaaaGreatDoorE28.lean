import Derived.Test.YtenkdmloolbdaaaGreatDoorE24
import Derived.Test.YtenkdmloolbdaaaGreatDoorE04
set_option linter.unusedVariables false
set_option linter.unusedSimpArgs false
set_option maxHeartbeats 8000000
set_option maxRecDepth 100000
section
namespace Go.Proofs.YtenkdmloolbdaaaGreatDoor.T
open Go.RowKit Go.Maps Go.WideShapes Go.Proofs.YtenkdmloolbdaaaGreatDoorW.PrintWords Go.Proofs.YtenkdmloolbdaaaGreatDoorW.PrintLast Go.Proofs.YtenkdmloolbdaaaGreatDoorW.PrintMore
structure GlobK (κ : Kol) (w : World) : Prop where
 g : GlobR w
 kol : κ 0 = 0
theorem GlobK.upd {I : Nat → Prop} {κ κ1 : Kol} {w w1 : World} (h : GlobK κ w) (k : Upd I κ w κ1 w1) (hI : ¬ I 0) : GlobK κ1 w1 := by
 have hl : 0 < w.heap.size := by
  have h0 := h.g.g0
  simp only [World.cell?] at h0
  cases hb : w.heap[0]? with
  | none => rw [hb] at h0; simp at h0
  | some o => exact (Array.getElem?_eq_some_iff.1 hb).1
 have hb := k.chg.block _ hl (fun e => hI (by rwa [h.kol] at e))
 have hc : ∀ i v, w.cell? ⟨0, i, none⟩ = some v → w1.cell? ⟨0, i, none⟩ = some v := fun i v hv => by
  simp only [World.cell?] at hv ⊢
  rw [hb]
  exact hv
 exact ⟨⟨hc _ _ h.g.g0, hc _ _ h.g.g1, hc _ _ h.g.g2, hc _ _ h.g.g3, hc _ _ h.g.g4, hc _ _ h.g.g5, hc _ _ h.g.g6, hc _ _ h.g.g7⟩, (k.kol _ hl).trans h.kol⟩
def mapF (f : Int → Option Int) (x y : Int) (n : Nat) : Int → Option Int := fun z => if x ≤ z ∧ z < x + n then some (y + (z - x)) else f z
theorem mapF_zero (f : Int → Option Int) (x y : Int) : mapF f x y 0 = f := by
 funext z
 unfold mapF
 rw [if_neg (by omega)]
theorem mapF_succ (f : Int → Option Int) (x y : Int) (n : Nat) : putF (mapF f x y n) (x + n) (y + n) = mapF f x y (n + 1) := by
 funext z
 unfold putF mapF
 by_cases e : z = x + n
 ·rw [if_pos e, if_pos (by omega)]
  congr 1
  omega
 ·rw [if_neg e]
  by_cases h : x ≤ z ∧ z < x + n
  ·rw [if_pos h, if_pos (by omega)]
  ·rw [if_neg h, if_neg (by omega)]
def SpAt (κ : Kol) (w : World) (b q page : Nat) : Prop := ∃ n f, MapP κ 143 w b n f ∧ f (page : Int) = some q
theorem SpAt.upd {I : Nat → Prop} {κ κ1 : Kol} {w w1 : World} {b q page : Nat} (h : SpAt κ w b q page) (k : Upd I κ w κ1 w1) (hI : ¬ I 143) : SpAt κ1 w1 b q page := by
 obtain ⟨n, f, h1, h2⟩ := h
 exact ⟨n, f, h1.upd k hI, h2⟩
theorem MapP.uniq {κ : Kol} {i : Nat} {w : World} {b n n' : Nat} {f f' : Int → Option Nat} (h : MapP κ i w b n f) (h' : MapP κ i w b n' f') (x : Int) (hx : I64 x) : f x = f' x := by
 have h1 := h.look x hx
 rw [h'.look x hx] at h1
 injection h1 with h1
 unfold ptrV at h1
 injection h1 with h1
 cases hf : f x with
 | none => cases hf' : f' x with
  | none => rfl
  | some q => rw [hf, hf'] at h1; simp at h1
 | some q => cases hf' : f' x with
  | none => rw [hf, hf'] at h1; simp at h1
  | some q' => rw [hf, hf'] at h1; simp at h1; rw [h1]
def setSp (sp : Nat → Option Held) (page : Nat) (x : Held) : Nat → Option Held := fun q => if q = page then some x else sp q
theorem MachK.putHeld {κ κ1 : Kol} {w w1 : World} {m : Nat} {a : Ad} {s : St} (h : MachK κ w m a s) {q page : Nat} {x y : Held} (hp : page < 4096) (hat : SpAt κ w a.sb q page) (hx : s.sp page = some x) (hy : HeldK κ1 w1 q page y) (hU : Upd (fun z => z = 1000 + 2 * page ∨ z = 1001 + 2 * page) κ w κ1 w1) : MachK κ1 w1 m a { s with sn := s.sn, sp := setSp s.sp page y } := by
 refine h.putSpans _ _ ?_ (hU.mono (fun c e => by omega))
 obtain ⟨f, h1, h2, h3⟩ := h.sp
 obtain ⟨n', f', g1, g2⟩ := hat
 have hf : f (page : Int) = some q := by rw [h1.uniq g1 (page : Int) (i64o _ (by omega) (by omega))]; exact g2
 refine ⟨f, h1.upd hU (by omega), h2, fun p => ⟨fun hn => ?_, fun z hz => ?_⟩⟩
 ·unfold setSp at hn
  split at hn
  ·simp at hn
  ·exact (h3 p).1 hn
 ·unfold setSp at hz
  split at hz
  ·rename_i e
   subst e
   obtain rfl := Option.some.inj hz
   exact ⟨q, hf, hy⟩
  ·rename_i e
   obtain ⟨q2, k1, k2⟩ := (h3 p).2 z hz
   exact ⟨q2, k1, k2.upd hU (by omega) (by omega)⟩
def growS (s : St) (page frame k o cls : Nat) (rs : List (Int × Int)) : St :=
 { s with pn := s.pn + 2 ^ o, pf := mapF s.pf page frame (2 ^ o), pg := mapF s.pg frame page (2 ^ o), rs := rs, sn := s.sn + 1, sp := setSp s.sp page ⟨k, o, frame, cls, 0⟩ }
def RelGw (κ3 : Kol) (w3 : World) (m : Nat) (a : Ad) (s3 : St) (page frame Q : Nat) (v71 : Value) (wr : World) : Prop :=
 ∃ i : Nat, v71 = .int .i64 i ∧ i ≤ Q ∧ MachK κ3 wr m a { s3 with l := s3.l, pn := s3.pn + i, pf := mapF s3.pf page frame i, pg := mapF s3.pg frame page i } ∧ Upd (fun z => 3 ≤ z ∧ z < 8) κ3 w3 κ3 wr
theorem grow_own [SortI] (κ : Kol) (m : Nat) (a : Ad) (s : St) (j p : Nat) (c : Cpu) (cls : Nat) (hcl : cls < 4) (hs8 : c.set < 256) (hp : a.cps[j]? = some p) (hc : s.cpus[j]? = some c) (k st ow : Nat) (cur' : Int)
 (hch : TZ.chV s.n s.f s.cs s.ds c.mode c.set c.nd j c.cur (s.bs.map fun x => mayB s.mn x (clO cls)) = ((k : Int), (st : Int), cur', 0)) (x : Bud) (K y : Nat) (r : List Nat) (hx : s.bs[k]? = some x) (hT : CanT s.f s.mn x (clO cls) K y r)
 (hall : ∀ x ∈ s.bs, ∀ k, k < 11 → (x.fr k).length ≤ 1024) (hmn : -100000 ≤ s.mn) (hnode : c.node = (ow : Int)) (how : ow < s.n) (hst : st < s.n) (hk : k < s.n) (hn8 : s.n ≤ 8) (hf : s.f ≤ 1024) (hev : s.ev.length ≤ 1000000)
 (page : Nat) (rs : List (Int × Int)) (htk : TS.takeR ((2 ^ clO cls : Nat) : Int) s.rs = ((page : Int), 0, rs)) (hpg : page + 2 ^ clO cls ≤ 4096) (hpf : ∀ i, i < 2 ^ clO cls → s.pf ((page + i : Nat) : Int) = none) (hpgf : ∀ i, i < 2 ^ clO cls → s.pg ((k * s.f + y + i : Nat) : Int) = none) (hfr : k * s.f + y + 2 ^ clO cls ≤ s.n * s.f) (hpn : s.pn ≤ 100000) (hsn : s.sn ≤ 100000) (w : World) (hg : GlobK κ w) (h : MachK κ w m a s) :
 Calls Tryz.prog 169 #[.pointer (some ⟨m, 0, none⟩), .int .i64 j, .pointer (some ⟨p, 0, none⟩), .int .i64 cls] w fun e w' => ∃ q κ', e = .returned (.tuple #[.pointer (some ⟨q, 0, none⟩), .int .i64 0]) ∧ MachK κ' w' m a (growS (acqS s j c k st ow cur' x K y (clO cls) c.mode) page (k * s.f + y) k (clO cls) cls rs) ∧ SpAt κ' w' a.sb q page ∧ HeldK κ' w' q page ⟨k, clO cls, k * s.f + y, cls, 0⟩ ∧ Upd (fun z => 1 ≤ z) κ w κ' w' := by
 obtain ⟨o, ho⟩ : ∃ o, clO cls = o := ⟨_, rfl⟩
 have ho2 : o ≤ 2 := by rw [← ho]; match cls, hcl with | 0, _ => decide | 1, _ => decide | 2, _ => decide | 3, _ => decide
 have HOR := ak (order_own19 cls hcl w hg.g)
 have HNS := ak (fun (W : World) (hW : GlobR W) => span_new cls hcl W hW)
 rw [ho] at hch hT htk hpg hpf hpgf hfr HOR ⊢
 have HG := ak hg
 have HM := ak h
 have HC := ak (show ∀ κ' W, MachK κ' W m a s → CpuK κ' (150 + 6 * j) W p c from fun κ' W hW => hW.cpuK hp hc)
 obtain ⟨fr, hfre⟩ : ∃ fr, k * s.f + y = fr := ⟨_, rfl⟩
 have HAQ := ak (fun (κ' : Kol) (W : World) (hW : MachK κ' W m a s) => acquire_own κ' m a s j p c o c.mode c.set c.nd hs8 hp hc k st ow cur' hch x K y r hx hT hall hmn hnode how hst hk hn8 hev W hW)
 rw [hfre] at hpgf hfr HAQ ⊢
 obtain ⟨Q, hQ⟩ : ∃ Q, 2 ^ o = Q := ⟨_, rfl⟩
 have ES := ak (shl_64 o (by omega))
 rw [hQ] at htk hpg hpf hpgf hfr ES
 have hQ4 : 1 ≤ Q ∧ Q ≤ 4 := by rw [← hQ]; match o, ho2 with | 0, _ => decide | 1, _ => decide | 2, _ => decide
 have HTK := ak htk
 have HPF := ak (And.intro hpf hpgf)
 have HQ := ak hQ
 have hNf : s.n * s.f ≤ 8192 := Nat.mul_le_mul hn8 hf
 obtain ⟨s2, hs2⟩ : ∃ s2, acqS s j c k st ow cur' x K y o c.mode = s2 := ⟨_, rfl⟩
 rw [hs2] at HAQ ⊢
 have HS2 := ak (show s2.n = s.n ∧ s2.f = s.f ∧ s2.pf = s.pf ∧ s2.pg = s.pg ∧ s2.pn = s.pn ∧ s2.rs = s.rs ∧ s2.sn = s.sn ∧ s2.sp = s.sp from by rw [← hs2]; exact ⟨rfl, rfl, rfl, rfl, rfl, rfl, rfl, rfl⟩)
 clear h hg hch hx hT hall hnode hc hp htk hpf hpgf hQ hs2 hfre how hst hk hf hev ho
 go_enter Tryz.func169, Tryz.ntmps169
 go_upto_region 7 with (first | (go_at_call 207; (with_reducible refine HOR.1.mono ?_); rintro e_ w1 ⟨rfl, hb⟩; have HB1 := ak hb; clear hb) | (go_at_call 208; (with_reducible refine (HNS.1 _ (HG.1.g.below HB1.1)).mono ?_); rintro e_ w2 ⟨sb, rfl, q1, q2, q3⟩; have HSB := ak (And.intro q1 q2); have HB2 := ak q3; clear q1 q2 q3))
 have hb12 := below_then HB1.1 HB1.1.size HB2.1
 obtain ⟨κ1, hκ1⟩ : ∃ κ1, κ.ext w.heap.size (1001 + 2 * page) = κ1 := ⟨_, rfl⟩
 have hU1 : Upd (fun _ => False) κ w κ1 w2 := by rw [← hκ1]; exact (Upd.of_below κ hb12).paint _ _ (Nat.le_refl _)
 have HS1 := ak (show BlkK κ1 (1001 + 2 * page) w2 sb (spanC cls 0) 194 from ⟨by rw [← hκ1]; exact Kol.ext_new κ (Nat.le_trans HB1.1.size HSB.1.1), HSB.1.2⟩)
 have hm1 := HM.1.upd hU1 (fun _ _ h => h)
 have HM1 := ak hm1
 have HU1 := ak (show Upd (fun z => 1 ≤ z) κ w κ1 w2 from hU1.mono (fun _ h => h.elim))
 have k1 := (HC.1 _ _ hm1).k1
 have k2 := (HC.1 _ _ hm1).k2
 have k3 := (HC.1 _ _ hm1).k3
 have HTA := ak (fun (κ' : Kol) (W : World) (hW : MachK κ' W m a s2) => show Calls Tryz.prog 120 #[.pointer (some ⟨a.spc, 0, none⟩), .int .i64 (wrap64 ((2 : Int) ^ o))] W (fun e w' => ∃ κ'', e = .returned (.tuple #[.int .i64 page, .int .i64 0]) ∧ MachK κ'' w' m a { s2 with rs := rs } ∧ Upd (fun z => z = 13 ∨ z = 13 + 1) κ' W κ'' w') from by
  rw [ES.out]
  have h2 := hW.spc
  rw [HS2.1.2.2.2.2.2.1] at h2
  refine (space_take (Q : Int) (by omega) (by omega) h2).mono ?_
  rintro e w' ⟨κ'', rfl, q1, q2⟩
  rw [HTK.1] at q1 ⊢
  exact ⟨κ'', rfl, hW.putSpc _ q1 q2, q2⟩)
 clear HB1 HSB HB2 hb12 hκ1 hU1 hm1 HOR HNS
 go_upto_region 10 with (go_at_call 173; (with_reducible refine (HAQ.1 _ _ HM1.1).mono ?_); rintro e_ w3 ⟨rfl, κ2, q1, q2⟩; have HM2 := ak q1; have HS2b := ak (HS1.1.upd q2 (by omega)); have HU2 := ak (HU1.1.then q2 (fun c e => by omega)); clear q1 q2)
 clear k1 k2 k3 HM1 HS1 HU1 HAQ HC
 have c6 := HM2.1.c6
 refine st_ 12 (fun w' => w'.cell? ⟨m, 6, none⟩ = some (.pointer (some ⟨a.spc, 0, none⟩))) [6] (c6) (fun hHeld => ?_)
 have hd_ := below_drew (RowKit.Below.refl w3.heap.size w3)
 have n0_ := ak (HM2.1.below hd_)
 have n1_ := ak (HS2b.1.below hd_)
 have n2_ := ak (HU2.1.below hd_)
 clear HM2 HS2b HU2 c6 hd_
 have HM2 := n0_
 have HS2b := n1_
 have HU2 := n2_
 clear n0_ n1_ n2_
 have c6 := HM2.1.c6
 generalize w3.drew = wd at *
 refine pu_ 0 51 1 ?_
 refine pu_ 1 52 3 ?_
 refine pu_ 2 53 7 ?_
 refine pu_ 4 55 23 ?_
 refine pu_ 5 56 55 ?_
 refine ta_ 3 54 63 hHeld ?_
 refine last_ (i := 6) (N := some 57) (bz 12 127) rfl rfl (by kernel_rfl) (by decide) (fun K hK => ?_)
 refine goes_ Tryz.func120 (by kernel_rfl) rfl #[.pointer (some ⟨a.spc, 0, none⟩), .int .i64 (wrap64 ((2 : Int) ^ o))] (by rfl) rfl rfl (by simp only [List.map_toArray, List.map_cons, List.map_nil]; rfl) ?_
 with_reducible refine (HTA.1 _ _ HM2.1).mono ?_
 rintro e_ w4 ⟨κ3, rfl, q1_, q2_⟩
 refine ⟨_, rfl, ?_⟩
 have HM3 := ak q1_
 have HS3 := ak (HS2b.1.upd q2_ (by omega))
 have HU3 := ak (HU2.1.then q2_ (fun c e => by omega))
 clear q1_ q2_ HM2 HS2b HU2 c6 hHeld
 refine hK.out _ _ ?_
 clear hK K
 refine no_ 57 ?_
 refine pu_ 7 50 255 ?_
 refine pu_ 8 58 511 ?_
 refine pu_ 9 59 1023 ?_
 refine pu_ 10 15 2047 ?_
 refine pu_ 11 11 4095 ?_
 refine done_ (by kernel_rfl) ?_
 go_upto_region 14 with fail
 have es := ES.out
 go_wp2_with fail
 clear es
 obtain ⟨s3, hs3⟩ : ∃ s3, ({ s2 with rs := rs } : St) = s3 := ⟨_, rfl⟩
 have HS3e := ak hs3
 have HF3 := ak (show s3.n = s.n ∧ s3.f = s.f ∧ s3.pf = s.pf ∧ s3.pg = s.pg ∧ s3.pn = s.pn from by rw [← hs3]; exact ⟨HS2.1.1, HS2.1.2.1, HS2.1.2.2.1, HS2.1.2.2.2.1, HS2.1.2.2.2.2.1⟩)
 rw [hs3] at HM3
 clear hs3
 have H0 := ak (show RelGw κ3 w4 m a s3 page fr Q (.int .i64 0) w4 from ⟨0, rfl, Nat.zero_le _, by rw [mapF_zero, mapF_zero]; exact HM3.1, Upd.refl _ _ _⟩)
 go_loopw [16, 71] (fun _ v71 wr => RelGw κ3 w4 m a s3 page fr Q v71 wr) (fun _ v71 _ => Q - (RowKit.intOf v71).toNat)
 case atStart => exact H0.1
 case round =>
  clear H0
  obtain ⟨i, rfl, hi, hm, hu⟩ := hrel
  have HMi := ak hm
  have HUi := ak hu
  clear hm hu
  by_cases hlt : i < Q
  ·have iQ : (i : Int) < (Q : Int) := by omega
   have i0 : (0 : Int) ≤ (i : Int) := by omega
   have c4 := HMi.1.c4
   have g1 : (0 : Int) ≤ (page : Int) + (i : Int) := by omega
   have g2 : (page : Int) + (i : Int) < 4096 := by omega
   have g3 : fr + i < s3.n * s3.f := by rw [HF3.1.1, HF3.1.2.1]; omega
   have g4 : s3.n * s3.f ≤ 100000 := by rw [HF3.1.1, HF3.1.2.1]; omega
   have g5 : s3.pn + i < 1000000 := by rw [HF3.1.2.2.2.2]; omega
   have g6 : mapF s3.pf page fr i ((page : Int) + (i : Int)) = none := by
    have := HPF.1.1 i hlt
    rw [Int.natCast_add] at this
    unfold mapF
    rw [if_neg (by omega), HF3.1.2.2.1]
    exact this
   have g7 : mapF s3.pg fr page i ((fr + i : Nat) : Int) = none := by
    have := HPF.1.2 i hlt
    unfold mapF
    rw [if_neg (by omega), HF3.1.2.2.2.1]
    exact this
   have HMP := ak (mem_map κ3 3 a.mem s3.f (s3.n * s3.f) (s3.pn + i) s3.l (mapF s3.pf page fr i) (mapF s3.pg fr page i) g4 ((page : Int) + (i : Int)) g1 g2 (fr + i) g3 g6 g7 g5 wr HMi.1.mem)
   rw [Int.natCast_add] at HMP
   clear g1 g2 g3 g4 g5 g6 g7
   have iI : (i : Int) < wrap64 ((2 : Int) ^ o) := by rw [ES.out]; exact iQ
   go_wp2_with (go_at_call 175; (with_reducible refine HMP.1.mono ?_); rintro e_ w5 ⟨rfl, q1, q2⟩; have HQ5 := ak (And.intro q1 q2); clear q1 q2 c4)
   clear iI
   refine ⟨⟨i + 1, by simp, by omega, ?_, HUi.1.then HQ5.1.2 (fun c e => by omega)⟩, ?_⟩
   ·have h5 := HQ5.1.1
    rw [mapF_succ, mapF_succ] at h5
    exact HMi.1.putMem _ _ _ _ h5 (HQ5.1.2.mono (fun c e => by omega))
   ·simp only [RowKit.intOf]; omega
  ·obtain rfl : i = Q := by omega
   have HS5 := ak (HS3.1.upd (HUi.1) (by omega))
   have iI : ¬ ((i : Int) < wrap64 ((2 : Int) ^ o)) := by rw [ES.out]; omega
   go_upto_region 20 with fail
   clear iI
   obtain ⟨wh, hwh⟩ : ∃ wh, wr.alloc (.cells #[.pointer (some ⟨sb, 0, none⟩), .int .i64 page, .int .i64 k, .int .i64 o, .int .i64 fr] 142) = wh := ⟨_, rfl⟩
   obtain ⟨κ4, hκ4⟩ : ∃ κ4, κ3.ext wr.heap.size (1000 + 2 * page) = κ4 := ⟨_, rfl⟩
   have hUh : Upd (fun _ => False) κ3 wr κ4 wh := by rw [← hwh, ← hκ4]; exact (Upd.of_below κ3 (below_alloc (RowKit.Below.refl _ _) _)).paint _ _ (Nat.le_refl _)
   have HHD := ak (show BlkK κ4 (1000 + 2 * page) wh wr.heap.size #[.pointer (some ⟨sb, 0, none⟩), .int .i64 page, .int .i64 k, .int .i64 o, .int .i64 fr] 142 from by rw [← hwh, ← hκ4]; exact BlkK.new κ3 wr (1000 + 2 * page) _ _)
   have hmh := HMi.1.upd hUh (fun _ _ h => h)
   have HMH := ak hmh
   have HS6 := ak (HS5.1.upd hUh (fun h => h))
   have HUH := ak ((HU3.1.then HUi.1 (fun c e => by omega)).then hUh (fun c h => h.elim))
   have c11 := hmh.c11
   obtain ⟨f9, ⟨hk9, D9, hown9, hv9⟩, h29, h39⟩ := hmh.sp
   have HO9 := ak hown9
   have HV9 := ak (And.intro hk9 (And.intro hv9 (And.intro h29 h39)))
   have g8 : s3.sn < 1000000 := by rw [← HS3e.1]; show s2.sn < 1000000; rw [HS2.1.2.2.2.2.2.2.1]; omega
   have HG8 := ak g8
   rw [hwh]
   clear hwh hκ4 hUh hmh hk9 hown9 hv9 h29 h39 g8 HS5
   go_wp2_with (at_mapUpdate; refine wpList_mapUpdate_own _ rfl _ _ _ 126 rfl 3 139 int_law Tryz.underlying126 ptrElem a.sb s3.sn D9 rfl HO9.1 (by have := HG8.1; simp only [maxLen]; omega) _ (.pointer (some ⟨wr.heap.size, 0, none⟩)) (.int .i64 (page : Int)) rfl rfl (keyOf_int_mk Tryz.underlying3 (i64o _ (by omega) (by omega))) (.lit (.int .i64 (wr.heap.size : Int))) [] rfl ?_; intro w9 hown1 hg1; have HW := ak (And.intro hown1 hg1); clear hown1 hg1)
   go_ret2
   have hU9 := Upd.of_grown HW.1.2 HV9.1.1
   have hhd := HHD.1.upd hU9 (by omega)
   have hs9 := HS6.1.upd hU9 (by omega)
   have hmp : MapP κ4 143 w9 a.sb (s3.sn + 1) (putP f9 (page : Int) wr.heap.size) := ⟨HV9.1.1, _, HW.1.1, HV9.1.2.1.put (HO9.1.tidy int_law).isMap _ _⟩
   have hfin := HMH.1.putSpans (s3.sn + 1) (setSp s3.sp page ⟨k, o, fr, cls, 0⟩) ⟨putP f9 (page : Int) wr.heap.size, hmp, fun x hx => ?_, fun p' => ⟨fun hn => ?_, fun z hz => ?_⟩⟩ (hU9.mono (fun c e => by omega))
   ·refine ⟨wr.heap.size, rfl, κ4, ?_, ⟨s3.sn + 1, putP f9 (page : Int) wr.heap.size, hmp, by unfold putP; rw [if_pos rfl]⟩, ⟨sb, hhd, hs9⟩, HUH.1.then hU9 (fun c e => by omega)⟩
    rw [← HS3e.1] at hfin
    unfold growS
    rw [HQ.1]
    exact hfin
   ·unfold putP at hx
    split at hx
    ·rename_i e; omega
    ·exact HV9.1.2.2.1 x hx
   ·unfold setSp at hn
    split at hn
    ·simp at hn
    ·rename_i e
     unfold putP
     rw [if_neg (by omega)]
     exact (HV9.1.2.2.2 p').1 hn
   ·unfold setSp at hz
    split at hz
    ·rename_i e
     subst e
     obtain rfl := Option.some.inj hz
     exact ⟨wr.heap.size, by unfold putP; rw [if_pos rfl], sb, hhd, hs9⟩
    ·rename_i e
     obtain ⟨q9, e1, e2⟩ := (HV9.1.2.2.2 p').2 z hz
     exact ⟨q9, by unfold putP; rw [if_neg (by omega)]; exact e1, e2.upd hU9 (by omega) (by omega)⟩
end Go.Proofs.YtenkdmloolbdaaaGreatDoor.T
end
