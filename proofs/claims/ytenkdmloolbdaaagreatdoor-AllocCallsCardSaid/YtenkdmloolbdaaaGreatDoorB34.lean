/- A span more. Objects of a span. No span is near where there is none. -/
import Derived.Test.YtenkdmloolbdaaaGreatDoorB33
import Derived.Test.YtenkdmloolbdaaaGreatDoorB05
import Derived.Maps.RangeWalk
section
namespace Go.Proofs.YtenkdmloolbdaaaGreatDoor.T
open Go.RowKit Go.Maps Go.WideShapes Go.Proofs.YtenkdmloolbdaaaGreatDoorW.PrintWords Go.Proofs.YtenkdmloolbdaaaGreatDoorW.PrintLast Go.Proofs.YtenkdmloolbdaaaGreatDoorW.PrintMore
set_option linter.unusedVariables false
set_option linter.unusedSimpArgs false
/-- The table of classes stands in memory, and is no part of a machine. -/
structure GlobK (κ : Kol) (w : World) : Prop where
  g : GlobR w
  kol : κ 0 = 0
theorem GlobK.upd {I : Nat → Prop} {κ κ1 : Kol} {w w1 : World} (h : GlobK κ w) (k : Upd I κ w κ1 w1) (hI : ¬ I 0) : GlobK κ1 w1 := by
  have hl : 0 < w.heap.size := by
    have h0 := h.g.g0
    simp only [World.cell?] at h0
    cases hb : w.heap[0]? with
    | none => rw [hb] at h0; simp at h0
    | some o => exact (Array.getElem?_eq_some_iff.1 hb).1
  have hb := k.chg.block _ hl (fun e => hI (by rwa [h.kol] at e))
  have hc : ∀ i v, w.cell? ⟨0, i, none⟩ = some v → w1.cell? ⟨0, i, none⟩ = some v := fun i v hv => by
    simp only [World.cell?] at hv ⊢
    rw [hb]
    exact hv
  exact ⟨⟨hc _ _ h.g.g0, hc _ _ h.g.g1, hc _ _ h.g.g2, hc _ _ h.g.g3, hc _ _ h.g.g4, hc _ _ h.g.g5, hc _ _ h.g.g6, hc _ _ h.g.g7⟩, (k.kol _ hl).trans h.kol⟩
/-- So many keys in a row get values in a row. -/
def mapF (f : Int → Option Int) (x y : Int) (n : Nat) : Int → Option Int := fun z => if x ≤ z ∧ z < x + n then some (y + (z - x)) else f z
theorem mapF_zero (f : Int → Option Int) (x y : Int) : mapF f x y 0 = f := by
  funext z
  unfold mapF
  rw [if_neg (by omega)]
theorem mapF_succ (f : Int → Option Int) (x y : Int) (n : Nat) : putF (mapF f x y n) (x + n) (y + n) = mapF f x y (n + 1) := by
  funext z
  unfold putF mapF
  by_cases e : z = x + n
  · rw [if_pos e, if_pos (by omega)]
    congr 1
    omega
  · rw [if_neg e]
    by_cases h : x ≤ z ∧ z < x + n
    · rw [if_pos h, if_pos (by omega)]
    · rw [if_neg h, if_neg (by omega)]
/-- Where a machine's map has a span. -/
def SpAt (κ : Kol) (w : World) (b q page : Nat) : Prop := ∃ n f, MapP κ 143 w b n f ∧ f (page : Int) = some q
theorem SpAt.upd {I : Nat → Prop} {κ κ1 : Kol} {w w1 : World} {b q page : Nat} (h : SpAt κ w b q page) (k : Upd I κ w κ1 w1) (hI : ¬ I 143) : SpAt κ1 w1 b q page := by
  obtain ⟨n, f, h1, h2⟩ := h
  exact ⟨n, f, h1.upd k hI, h2⟩
theorem MapP.uniq {κ : Kol} {i : Nat} {w : World} {b n n' : Nat} {f f' : Int → Option Nat} (h : MapP κ i w b n f) (h' : MapP κ i w b n' f') (x : Int) (hx : I64 x) : f x = f' x := by
  have h1 := h.look x hx
  rw [h'.look x hx] at h1
  injection h1 with h1
  unfold ptrV at h1
  injection h1 with h1
  cases hf : f x with
  | none => cases hf' : f' x with
    | none => rfl
    | some q => rw [hf, hf'] at h1; simp at h1
  | some q => cases hf' : f' x with
    | none => rw [hf, hf'] at h1; simp at h1
    | some q' => rw [hf, hf'] at h1; simp at h1; rw [h1]
def setSp (sp : Nat → Option Held) (page : Nat) (x : Held) : Nat → Option Held := fun q => if q = page then some x else sp q
theorem MachK.putHeld {κ κ1 : Kol} {w w1 : World} {m : Nat} {a : Ad} {s : St} (h : MachK κ w m a s) {q page : Nat} {x y : Held} (hp : page < 4096) (hat : SpAt κ w a.sb q page) (hx : s.sp page = some x) (hy : HeldK κ1 w1 q page y) (hU : Upd (fun z => z = 1000 + 2 * page ∨ z = 1001 + 2 * page) κ w κ1 w1) : MachK κ1 w1 m a { s with sn := s.sn, sp := setSp s.sp page y } := by
  refine h.putSpans _ _ ?_ (hU.mono (fun c e => by omega))
  obtain ⟨f, h1, h2, h3⟩ := h.sp
  obtain ⟨n', f', g1, g2⟩ := hat
  have hf : f (page : Int) = some q := by rw [h1.uniq g1 (page : Int) (i64o _ (by omega) (by omega))]; exact g2
  refine ⟨f, h1.upd hU (by omega), h2, fun p => ⟨fun hn => ?_, fun z hz => ?_⟩⟩
  · unfold setSp at hn
    split at hn
    · simp at hn
    · exact (h3 p).1 hn
  · unfold setSp at hz
    split at hz
    · rename_i e
      subst e
      obtain rfl := Option.some.inj hz
      exact ⟨q, hf, hy⟩
    · rename_i e
      obtain ⟨q2, k1, k2⟩ := (h3 p).2 z hz
      exact ⟨q2, k1, k2.upd hU (by omega) (by omega)⟩
/-- A machine with a span more. -/
def growS (s : St) (page frame k o cls : Nat) (rs : List (Int × Int)) : St :=
  { s with pn := s.pn + 2 ^ o, pf := mapF s.pf page frame (2 ^ o), pg := mapF s.pg frame page (2 ^ o), rs := rs, sn := s.sn + 1, sp := setSp s.sp page ⟨k, o, frame, cls, 0⟩ }
def RelGw (κ3 : Kol) (w3 : World) (m : Nat) (a : Ad) (s3 : St) (page frame Q : Nat) (v71 : Value) (wr : World) : Prop :=
  ∃ i : Nat, v71 = .int .i64 i ∧ i ≤ Q ∧ MachK κ3 wr m a { s3 with l := s3.l, pn := s3.pn + i, pf := mapF s3.pf page frame i, pg := mapF s3.pg frame page i } ∧ Upd (fun z => 3 ≤ z ∧ z < 8) κ3 w3 κ3 wr
set_option maxHeartbeats 8000000 in
set_option maxRecDepth 100000 in
theorem grow_own [SortI] (κ : Kol) (m : Nat) (a : Ad) (s : St) (j p : Nat) (c : Cpu) (cls : Nat) (hcl : cls < 4) (hs8 : c.set < 256) (hp : a.cps[j]? = some p) (hc : s.cpus[j]? = some c) (k st ow : Nat) (cur' : Int)
    (hch : TZ.chV s.n s.f s.cs s.ds c.mode c.set c.nd j c.cur (s.bs.map fun x => mayB s.mn x (clO cls)) = ((k : Int), (st : Int), cur', 0)) (x : Bud) (K y : Nat) (r : List Nat) (hx : s.bs[k]? = some x) (hT : CanT s.f s.mn x (clO cls) K y r)
    (hall : ∀ x ∈ s.bs, ∀ k, k < 11 → (x.fr k).length ≤ 1024) (hmn : -100000 ≤ s.mn) (hnode : c.node = (ow : Int)) (how : ow < s.n) (hst : st < s.n) (hk : k < s.n) (hn8 : s.n ≤ 8) (hf : s.f ≤ 1024) (hev : s.ev.length ≤ 1000000)
    (page : Nat) (rs : List (Int × Int)) (htk : TS.takeR ((2 ^ clO cls : Nat) : Int) s.rs = ((page : Int), 0, rs)) (hpg : page + 2 ^ clO cls ≤ 4096) (hpf : ∀ i, i < 2 ^ clO cls → s.pf ((page + i : Nat) : Int) = none) (hpgf : ∀ i, i < 2 ^ clO cls → s.pg ((k * s.f + y + i : Nat) : Int) = none) (hfr : k * s.f + y + 2 ^ clO cls ≤ s.n * s.f) (hpn : s.pn ≤ 100000) (hsn : s.sn ≤ 100000) (w : World) (hg : GlobK κ w) (h : MachK κ w m a s) :
    Calls Tryz.prog 169 #[.pointer (some ⟨m, 0, none⟩), .int .i64 j, .pointer (some ⟨p, 0, none⟩), .int .i64 cls] w fun e w' => ∃ q κ', e = .returned (.tuple #[.pointer (some ⟨q, 0, none⟩), .int .i64 0]) ∧ MachK κ' w' m a (growS (acqS s j c k st ow cur' x K y (clO cls) c.mode) page (k * s.f + y) k (clO cls) cls rs) ∧ SpAt κ' w' a.sb q page ∧ HeldK κ' w' q page ⟨k, clO cls, k * s.f + y, cls, 0⟩ ∧ Upd (fun z => 1 ≤ z) κ w κ' w' := by
  obtain ⟨o, ho⟩ : ∃ o, clO cls = o := ⟨_, rfl⟩
  have ho2 : o ≤ 2 := by rw [← ho]; match cls, hcl with | 0, _ => decide | 1, _ => decide | 2, _ => decide | 3, _ => decide
  have HOR := Aside0.mk (order_own19 cls hcl w hg.g)
  have HNS := Aside0.mk (fun (W : World) (hW : GlobR W) => span_new cls hcl W hW)
  rw [ho] at hch hT htk hpg hpf hpgf hfr HOR ⊢
  have HG := Aside0.mk hg
  have HM := Aside0.mk h
  have HC := Aside0.mk (show ∀ κ' W, MachK κ' W m a s → CpuK κ' (150 + 6 * j) W p c from fun κ' W hW => hW.cpuK hp hc)
  obtain ⟨fr, hfre⟩ : ∃ fr, k * s.f + y = fr := ⟨_, rfl⟩
  have HAQ := Aside0.mk (fun (κ' : Kol) (W : World) (hW : MachK κ' W m a s) => acquire_own κ' m a s j p c o c.mode c.set c.nd hs8 hp hc k st ow cur' hch x K y r hx hT hall hmn hnode how hst hk hn8 hev W hW)
  rw [hfre] at hpgf hfr HAQ ⊢
  obtain ⟨Q, hQ⟩ : ∃ Q, 2 ^ o = Q := ⟨_, rfl⟩
  have ES := Aside0.mk (shl_64 o (by omega))
  rw [hQ] at htk hpg hpf hpgf hfr ES
  have hQ4 : 1 ≤ Q ∧ Q ≤ 4 := by rw [← hQ]; match o, ho2 with | 0, _ => decide | 1, _ => decide | 2, _ => decide
  have HTK := Aside0.mk htk
  have HPF := Aside0.mk (And.intro hpf hpgf)
  have HQ := Aside0.mk hQ
  have hNf : s.n * s.f ≤ 8192 := Nat.mul_le_mul hn8 hf
  obtain ⟨s2, hs2⟩ : ∃ s2, acqS s j c k st ow cur' x K y o c.mode = s2 := ⟨_, rfl⟩
  rw [hs2] at HAQ ⊢
  have HS2 := Aside0.mk (show s2.n = s.n ∧ s2.f = s.f ∧ s2.pf = s.pf ∧ s2.pg = s.pg ∧ s2.pn = s.pn ∧ s2.rs = s.rs ∧ s2.sn = s.sn ∧ s2.sp = s.sp from by rw [← hs2]; exact ⟨rfl, rfl, rfl, rfl, rfl, rfl, rfl, rfl⟩)
  clear h hg hch hx hT hall hnode hc hp htk hpf hpgf hQ hs2 hfre how hst hk hf hev ho
  go_enter Tryz.func169, Tryz.ntmps169
  go_upto_region 7 with (first | (go_at_call 207; (with_reducible refine HOR.out.mono ?_); rintro e_ w1 ⟨rfl, hb⟩; have HB1 := Aside0.mk hb; clear hb) | (go_at_call 208; (with_reducible refine (HNS.out _ (HG.out.g.below HB1.out)).mono ?_); rintro e_ w2 ⟨sb, rfl, q1, q2, q3⟩; have HSB := Aside0.mk (And.intro q1 q2); have HB2 := Aside0.mk q3; clear q1 q2 q3))
  have hb12 := below_then HB1.out HB1.out.size HB2.out
  obtain ⟨κ1, hκ1⟩ : ∃ κ1, κ.ext w.heap.size (1001 + 2 * page) = κ1 := ⟨_, rfl⟩
  have hU1 : Upd (fun _ => False) κ w κ1 w2 := by rw [← hκ1]; exact (Upd.of_below κ hb12).paint _ _ (Nat.le_refl _)
  have HS1 := Aside0.mk (show BlkK κ1 (1001 + 2 * page) w2 sb (spanC cls 0) 194 from ⟨by rw [← hκ1]; exact Kol.ext_new κ (Nat.le_trans HB1.out.size HSB.out.1), HSB.out.2⟩)
  have hm1 := HM.out.upd hU1 (fun _ _ h => h)
  have HM1 := Aside0.mk hm1
  have HU1 := Aside0.mk (show Upd (fun z => 1 ≤ z) κ w κ1 w2 from hU1.mono (fun _ h => h.elim))
  have k1 := (HC.out _ _ hm1).k1
  have k2 := (HC.out _ _ hm1).k2
  have k3 := (HC.out _ _ hm1).k3
  have HTA := Aside0.mk (fun (κ' : Kol) (W : World) (hW : MachK κ' W m a s2) => show Calls Tryz.prog 120 #[.pointer (some ⟨a.spc, 0, none⟩), .int .i64 (wrap64 ((2 : Int) ^ o))] W (fun e w' => ∃ κ'', e = .returned (.tuple #[.int .i64 page, .int .i64 0]) ∧ MachK κ'' w' m a { s2 with rs := rs } ∧ Upd (fun z => z = 13 ∨ z = 13 + 1) κ' W κ'' w') from by
    rw [ES.out]
    have h2 := hW.spc
    rw [HS2.out.2.2.2.2.2.1] at h2
    refine (space_take (Q : Int) (by omega) (by omega) h2).mono ?_
    rintro e w' ⟨κ'', rfl, q1, q2⟩
    rw [HTK.out] at q1 ⊢
    exact ⟨κ'', rfl, hW.putSpc _ q1 q2, q2⟩)
  clear HB1 HSB HB2 hb12 hκ1 hU1 hm1 HOR HNS
  go_upto_region 10 with (go_at_call 173; (with_reducible refine (HAQ.out _ _ HM1.out).mono ?_); rintro e_ w3 ⟨rfl, κ2, q1, q2⟩; have HM2 := Aside0.mk q1; have HS2b := Aside0.mk (HS1.out.upd q2 (by omega)); have HU2 := Aside0.mk (HU1.out.then q2 (fun c e => by omega)); clear q1 q2)
  clear k1 k2 k3 HM1 HS1 HU1 HAQ HC
  have c6 := HM2.out.c6
  refine st_ 12 (fun w' => w'.cell? ⟨m, 6, none⟩ = some (.pointer (some ⟨a.spc, 0, none⟩))) [6] (c6) (fun hHeld => ?_)
  have hd_ := below_drew (RowKit.Below.refl w3.heap.size w3)
  have n0_ := Aside0.mk (HM2.out.below hd_)
  have n1_ := Aside0.mk (HS2b.out.below hd_)
  have n2_ := Aside0.mk (HU2.out.below hd_)
  clear HM2 HS2b HU2 c6 hd_
  have HM2 := n0_
  have HS2b := n1_
  have HU2 := n2_
  clear n0_ n1_ n2_
  have c6 := HM2.out.c6
  generalize w3.drew = wd at *
  refine pu_ 0 51 1 ?_
  refine pu_ 1 52 3 ?_
  refine pu_ 2 53 7 ?_
  refine pu_ 4 55 23 ?_
  refine pu_ 5 56 55 ?_
  refine ta_ 3 54 63 hHeld ?_
  refine last_ (i := 6) (N := some 57) (bz 12 127) rfl rfl (by kernel_rfl) (by decide) (fun K hK => ?_)
  refine goes_ Tryz.func120 (by kernel_rfl) rfl #[.pointer (some ⟨a.spc, 0, none⟩), .int .i64 (wrap64 ((2 : Int) ^ o))] (by rfl) rfl rfl (by simp only [List.map_toArray, List.map_cons, List.map_nil]; rfl) ?_
  with_reducible refine (HTA.out _ _ HM2.out).mono ?_
  rintro e_ w4 ⟨κ3, rfl, q1_, q2_⟩
  refine ⟨_, rfl, ?_⟩
  have HM3 := Aside0.mk q1_
  have HS3 := Aside0.mk (HS2b.out.upd q2_ (by omega))
  have HU3 := Aside0.mk (HU2.out.then q2_ (fun c e => by omega))
  clear q1_ q2_ HM2 HS2b HU2 c6 hHeld
  refine hK.out _ _ ?_
  clear hK K
  refine no_ 57 ?_
  refine pu_ 7 50 255 ?_
  refine pu_ 8 58 511 ?_
  refine pu_ 9 59 1023 ?_
  refine pu_ 10 15 2047 ?_
  refine pu_ 11 11 4095 ?_
  refine done_ (by kernel_rfl) ?_
  go_upto_region 14 with fail
  have es := ES.out
  go_wp2_with fail
  clear es
  obtain ⟨s3, hs3⟩ : ∃ s3, ({ s2 with rs := rs } : St) = s3 := ⟨_, rfl⟩
  have HS3e := Aside0.mk hs3
  have HF3 := Aside0.mk (show s3.n = s.n ∧ s3.f = s.f ∧ s3.pf = s.pf ∧ s3.pg = s.pg ∧ s3.pn = s.pn from by rw [← hs3]; exact ⟨HS2.out.1, HS2.out.2.1, HS2.out.2.2.1, HS2.out.2.2.2.1, HS2.out.2.2.2.2.1⟩)
  rw [hs3] at HM3
  clear hs3
  have H0 := Aside0.mk (show RelGw κ3 w4 m a s3 page fr Q (.int .i64 0) w4 from ⟨0, rfl, Nat.zero_le _, by rw [mapF_zero, mapF_zero]; exact HM3.out, Upd.refl _ _ _⟩)
  go_loopw [16, 71] (fun _ v71 wr => RelGw κ3 w4 m a s3 page fr Q v71 wr) (fun _ v71 _ => Q - (intOf v71).toNat)
  case atStart => exact H0.out
  case round =>
    clear H0
    obtain ⟨i, rfl, hi, hm, hu⟩ := hrel
    have HMi := Aside0.mk hm
    have HUi := Aside0.mk hu
    clear hm hu
    by_cases hlt : i < Q
    · have iQ : (i : Int) < (Q : Int) := by omega
      have i0 : (0 : Int) ≤ (i : Int) := by omega
      have c4 := HMi.out.c4
      have g1 : (0 : Int) ≤ (page : Int) + (i : Int) := by omega
      have g2 : (page : Int) + (i : Int) < 4096 := by omega
      have g3 : fr + i < s3.n * s3.f := by rw [HF3.out.1, HF3.out.2.1]; omega
      have g4 : s3.n * s3.f ≤ 100000 := by rw [HF3.out.1, HF3.out.2.1]; omega
      have g5 : s3.pn + i < 1000000 := by rw [HF3.out.2.2.2.2]; omega
      have g6 : mapF s3.pf page fr i ((page : Int) + (i : Int)) = none := by
        have := HPF.out.1 i hlt
        rw [Int.natCast_add] at this
        unfold mapF
        rw [if_neg (by omega), HF3.out.2.2.1]
        exact this
      have g7 : mapF s3.pg fr page i ((fr + i : Nat) : Int) = none := by
        have := HPF.out.2 i hlt
        unfold mapF
        rw [if_neg (by omega), HF3.out.2.2.2.1]
        exact this
      have HMP := Aside0.mk (mem_map κ3 3 a.mem s3.f (s3.n * s3.f) (s3.pn + i) s3.l (mapF s3.pf page fr i) (mapF s3.pg fr page i) g4 ((page : Int) + (i : Int)) g1 g2 (fr + i) g3 g6 g7 g5 wr HMi.out.mem)
      rw [Int.natCast_add] at HMP
      clear g1 g2 g3 g4 g5 g6 g7
      have iI : (i : Int) < wrap64 ((2 : Int) ^ o) := by rw [ES.out]; exact iQ
      go_wp2_with (go_at_call 175; (with_reducible refine HMP.out.mono ?_); rintro e_ w5 ⟨rfl, q1, q2⟩; have HQ5 := Aside0.mk (And.intro q1 q2); clear q1 q2 c4)
      clear iI
      refine ⟨⟨i + 1, by simp, by omega, ?_, HUi.out.then HQ5.out.2 (fun c e => by omega)⟩, ?_⟩
      · have h5 := HQ5.out.1
        rw [mapF_succ, mapF_succ] at h5
        exact HMi.out.putMem _ _ _ _ h5 (HQ5.out.2.mono (fun c e => by omega))
      · simp only [intOf]; omega
    · obtain rfl : i = Q := by omega
      have HS5 := Aside0.mk (HS3.out.upd (HUi.out) (by omega))
      have iI : ¬ ((i : Int) < wrap64 ((2 : Int) ^ o)) := by rw [ES.out]; omega
      go_upto_region 20 with fail
      clear iI
      obtain ⟨wh, hwh⟩ : ∃ wh, wr.alloc (.cells #[.pointer (some ⟨sb, 0, none⟩), .int .i64 page, .int .i64 k, .int .i64 o, .int .i64 fr] 142) = wh := ⟨_, rfl⟩
      obtain ⟨κ4, hκ4⟩ : ∃ κ4, κ3.ext wr.heap.size (1000 + 2 * page) = κ4 := ⟨_, rfl⟩
      have hUh : Upd (fun _ => False) κ3 wr κ4 wh := by rw [← hwh, ← hκ4]; exact (Upd.of_below κ3 (below_alloc (RowKit.Below.refl _ _) _)).paint _ _ (Nat.le_refl _)
      have HHD := Aside0.mk (show BlkK κ4 (1000 + 2 * page) wh wr.heap.size #[.pointer (some ⟨sb, 0, none⟩), .int .i64 page, .int .i64 k, .int .i64 o, .int .i64 fr] 142 from by rw [← hwh, ← hκ4]; exact BlkK.new κ3 wr (1000 + 2 * page) _ _)
      have hmh := HMi.out.upd hUh (fun _ _ h => h)
      have HMH := Aside0.mk hmh
      have HS6 := Aside0.mk (HS5.out.upd hUh (fun h => h))
      have HUH := Aside0.mk ((HU3.out.then HUi.out (fun c e => by omega)).then hUh (fun c h => h.elim))
      have c11 := hmh.c11
      obtain ⟨f9, ⟨hk9, D9, hown9, hv9⟩, h29, h39⟩ := hmh.sp
      have HO9 := Aside0.mk hown9
      have HV9 := Aside0.mk (And.intro hk9 (And.intro hv9 (And.intro h29 h39)))
      have g8 : s3.sn < 1000000 := by rw [← HS3e.out]; show s2.sn < 1000000; rw [HS2.out.2.2.2.2.2.2.1]; omega
      have HG8 := Aside0.mk g8
      rw [hwh]
      clear hwh hκ4 hUh hmh hk9 hown9 hv9 h29 h39 g8 HS5
      go_wp2_with (at_mapUpdate; refine wpList_mapUpdate_own _ rfl _ _ _ 126 rfl 3 139 int_law Tryz.underlying126 ptrElem a.sb s3.sn D9 rfl HO9.out (by have := HG8.out; simp only [maxLen]; omega) _ (.pointer (some ⟨wr.heap.size, 0, none⟩)) (.int .i64 (page : Int)) rfl rfl (keyOf_int_mk Tryz.underlying3 (i64o _ (by omega) (by omega))) (.lit (.int .i64 (wr.heap.size : Int))) [] rfl ?_; intro w9 hown1 hg1; have HW := Aside0.mk (And.intro hown1 hg1); clear hown1 hg1)
      go_ret2
      have hU9 := Upd.of_grown HW.out.2 HV9.out.1
      have hhd := HHD.out.upd hU9 (by omega)
      have hs9 := HS6.out.upd hU9 (by omega)
      have hmp : MapP κ4 143 w9 a.sb (s3.sn + 1) (putP f9 (page : Int) wr.heap.size) := ⟨HV9.out.1, _, HW.out.1, HV9.out.2.1.put (HO9.out.tidy int_law).isMap _ _⟩
      have hfin := HMH.out.putSpans (s3.sn + 1) (setSp s3.sp page ⟨k, o, fr, cls, 0⟩) ⟨putP f9 (page : Int) wr.heap.size, hmp, fun x hx => ?_, fun p' => ⟨fun hn => ?_, fun z hz => ?_⟩⟩ (hU9.mono (fun c e => by omega))
      · refine ⟨wr.heap.size, rfl, κ4, ?_, ⟨s3.sn + 1, putP f9 (page : Int) wr.heap.size, hmp, by unfold putP; rw [if_pos rfl]⟩, ⟨sb, hhd, hs9⟩, HUH.out.then hU9 (fun c e => by omega)⟩
        rw [← HS3e.out] at hfin
        unfold growS
        rw [HQ.out]
        exact hfin
      · unfold putP at hx
        split at hx
        · rename_i e; omega
        · exact HV9.out.2.2.1 x hx
      · unfold setSp at hn
        split at hn
        · simp at hn
        · rename_i e
          unfold putP
          rw [if_neg (by omega)]
          exact (HV9.out.2.2.2 p').1 hn
      · unfold setSp at hz
        split at hz
        · rename_i e
          subst e
          obtain rfl := Option.some.inj hz
          exact ⟨wr.heap.size, by unfold putP; rw [if_pos rfl], sb, hhd, hs9⟩
        · rename_i e
          obtain ⟨q9, e1, e2⟩ := (HV9.out.2.2.2 p').2 z hz
          exact ⟨q9, by unfold putP; rw [if_neg (by omega)]; exact e1, e2.upd hU9 (by omega) (by omega)⟩
end Go.Proofs.YtenkdmloolbdaaaGreatDoor.T
end
section
namespace Go.Proofs.YtenkdmloolbdaaaGreatDoor.T
open Go.RowKit Go.Maps Go.WideShapes Go.Proofs.YtenkdmloolbdaaaGreatDoorW.PrintWords Go.Proofs.YtenkdmloolbdaaaGreatDoorW.PrintLast Go.Proofs.YtenkdmloolbdaaaGreatDoorW.PrintMore
set_option linter.unusedVariables false
set_option linter.unusedSimpArgs false
/-- What is taken of a span behind so many Takes; the address of the next one. -/
def tkI (tk : Nat) : Nat → Nat
  | 0 => tk
  | j + 1 => putI (tkI tk j) (freeI (tkI tk j))
def adI (page cls tk j : Nat) : Nat := page * 64 + freeI (tkI tk j) * clS cls
def fiL (c : Cpu) (page cls tk jj : Nat) : Nat → List Int := setL c.L cls (c.L cls ++ ((List.range jj).drop 1).map fun i => (adI page cls tk i : Int))
/-- A machine, so many objects of a span taken by a CPU. -/
def fiS (s : St) (j : Nat) (c : Cpu) (page : Nat) (hd : Held) (jj : Nat) : St :=
  { s with cpus := s.cpus.set j { c with L := fiL c page hd.cls hd.tk jj }, sn := s.sn, sp := setSp s.sp page { hd with tk := tkI hd.tk jj } }
theorem fiS_zero (s : St) (j : Nat) (c : Cpu) (page : Nat) (hd : Held) (hc : s.cpus[j]? = some c) (hp : s.sp page = some hd) : fiS s j c page hd 0 = s := by
  have h1 : fiL c page hd.cls hd.tk 0 = c.L := by
    funext k
    unfold fiL setL
    by_cases e : k = hd.cls
    · subst e; simp
    · simp [e]
  have h2 : s.cpus.set j c = s.cpus := by
    apply List.ext_getElem?
    intro i
    rw [List.getElem?_set]
    split
    · rename_i e
      subst e
      split
      · rw [hc]
      · rename_i h; exact absurd (List.getElem?_eq_some_iff.1 hc).1 h
    · rfl
  have h3 : setSp s.sp page { hd with tk := tkI hd.tk 0 } = s.sp := by
    funext q
    unfold setSp
    split
    · rename_i e; rw [e, hp]; rfl
    · rfl
  unfold fiS
  rw [h1, h3]
  rw [show s.cpus.set j { c with L := c.L } = s.cpus from h2]
theorem setSp_twice (sp : Nat → Option Held) (page : Nat) (x y : Held) : setSp (setSp sp page x) page y = setSp sp page y := by
  funext q
  unfold setSp
  split <;> rfl
theorem cls_size : ∀ c : Nat, c < 4 → clS c ≤ 64 := by decide
theorem fiL_succ (c : Cpu) (page cls tk jj : Nat) (hj : 1 ≤ jj) : setL (fiL c page cls tk jj) cls ((fiL c page cls tk jj) cls ++ [(adI page cls tk jj : Int)]) = fiL c page cls tk (jj + 1) := by
  funext k
  unfold fiL setL
  by_cases e : k = cls
  · subst e
    simp only [if_true]
    rw [List.range_succ, List.drop_append_of_le_length (by simp; omega)]
    simp
  · simp [e]
theorem fiL_len (c : Cpu) (page cls tk jj : Nat) : ((fiL c page cls tk jj) cls).length = (c.L cls).length + (jj - 1) := by
  unfold fiL setL
  simp
theorem fiS_cpu (s : St) (j : Nat) (c : Cpu) (page : Nat) (hd : Held) (jj : Nat) (hc : s.cpus[j]? = some c) : (fiS s j c page hd jj).cpus[j]? = some { c with L := fiL c page hd.cls hd.tk jj } := by
  show (s.cpus.set j _)[j]? = _
  rw [List.getElem?_set, if_pos rfl, if_pos (List.getElem?_eq_some_iff.1 hc).1]
theorem fiS_next (s : St) (j : Nat) (c : Cpu) (page : Nat) (hd : Held) (jj : Nat) (hj : jj = 0) : ({ fiS s j c page hd jj with sn := s.sn, sp := setSp (fiS s j c page hd jj).sp page { hd with tk := tkI hd.tk (jj + 1) } } : St) = fiS s j c page hd (jj + 1) := by
  subst hj
  unfold fiS
  simp only []
  rw [setSp_twice]
  rfl
theorem fiS_put (s : St) (j : Nat) (c : Cpu) (page : Nat) (hd : Held) (jj : Nat) : ({ ({ fiS s j c page hd jj with sn := s.sn, sp := setSp (fiS s j c page hd jj).sp page { hd with tk := tkI hd.tk (jj + 1) } } : St) with cpus := ((fiS s j c page hd jj).cpus).set j { c with L := fiL c page hd.cls hd.tk (jj + 1) } } : St) = fiS s j c page hd (jj + 1) := by
  unfold fiS
  simp only []
  rw [setSp_twice, List.set_set]
def RelFi (κ : Kol) (w : World) (m : Nat) (a : Ad) (s : St) (j : Nat) (c : Cpu) (q page : Nat) (hd : Held) (v10 v26 : Value) (wr : World) : Prop :=
  ∃ (jj : Nat) (κ' : Kol), v26 = .int .i64 jj ∧ jj ≤ 4 ∧ v10 = .int .i64 (if jj = 0 then -1 else (adI page hd.cls hd.tk 0 : Int)) ∧ MachK κ' wr m a (fiS s j c page hd jj) ∧ SpAt κ' wr a.sb q page ∧ HeldK κ' wr q page { hd with tk := tkI hd.tk jj } ∧ Upd (fun z => 1 ≤ z) κ w κ' wr
set_option maxHeartbeats 8000000 in
set_option maxRecDepth 100000 in
theorem fill_own (κ : Kol) (m : Nat) (a : Ad) (s : St) (j p : Nat) (c : Cpu) (q page : Nat) (hd : Held) (hcl : hd.cls < 4) (htk : ∀ i, i ≤ 4 → tkI hd.tk i < 256) (hfr : ∀ i, i < 4 → freeI (tkI hd.tk i) < clN hd.cls) (hp : a.cps[j]? = some p) (hc : s.cpus[j]? = some c) (hcL : (c.L hd.cls).length ≤ 4) (hpg : page < 4096) (hsp : s.sp page = some hd) (w : World) (hg : GlobK κ w) (h : MachK κ w m a s) (hat : SpAt κ w a.sb q page) (hh : HeldK κ w q page hd) :
    Calls Tryz.prog 170 #[.pointer (some ⟨m, 0, none⟩), .pointer (some ⟨p, 0, none⟩), .pointer (some ⟨q, 0, none⟩)] w fun e w' => e = .returned (.tuple #[.int .i64 (adI page hd.cls hd.tk 0), .int .i64 0]) ∧ ∃ κ', MachK κ' w' m a (fiS s j c page hd 4) ∧ Upd (fun z => 1 ≤ z) κ w κ' w' := by
  have HS := Aside0.mk (size_own hd.cls hcl w hg.g)
  have hS64 := cls_size hd.cls hcl
  obtain ⟨cs, hcs⟩ : ∃ cs, clS hd.cls = cs := ⟨_, rfl⟩
  rw [hcs] at HS hS64
  have HCS := Aside0.mk hcs
  have HM := Aside0.mk h
  have HAT := Aside0.mk hat
  have HH := Aside0.mk hh
  obtain ⟨sb, k1, k2⟩ := hh
  have s0 := k1.blk.at 0 (.pointer (some ⟨sb, 0, none⟩)) rfl
  have HCL := Aside0.mk (span_class sb hd.cls hd.tk w k2.blk)
  have HX := Aside0.mk (And.intro hp (And.intro hc hsp))
  have HTK := Aside0.mk htk
  have HFR := Aside0.mk hfr
  clear hg h hat k1 k2 hcs hp hc hsp htk hfr
  go_enter Tryz.func170, Tryz.ntmps170
  go_wp2_with (first | (go_at_call 72; (with_reducible refine HCL.out.mono ?_); rintro e_ w1 ⟨rfl, rfl⟩) | (go_at_call 119; (with_reducible refine HS.out.mono ?_); rintro e_ w2 ⟨rfl, hb⟩; have HB := Aside0.mk hb; clear hb))
  have H0 := Aside0.mk (show RelFi κ w1 m a s j c q page hd (.int .i64 (-1)) (.int .i64 0) w2 from
    ⟨0, κ, rfl, by omega, rfl, by rw [fiS_zero s j c page hd HX.out.2.1 HX.out.2.2]; exact HM.out.below HB.out, HAT.out.upd (I := fun _ => False) (Upd.of_below κ HB.out) (fun h => h), HH.out.upd (I := fun _ => False) (Upd.of_below κ HB.out) (fun h => h) (fun h => h), Upd.of_below κ HB.out⟩)
  clear s0 HM HAT HH HCL HS
  go_loopw [10, 11, 12, 13, 26] (fun v10 _ _ _ v26 wr => RelFi κ w1 m a s j c q page hd v10 v26 wr) (fun _ _ _ _ v26 _ => 4 - (intOf v26).toNat)
  case atStart => exact H0.out
  case round =>
    clear H0
    obtain ⟨jj, κ', rfl, hj4, rfl, hm, hat, hhd, hu⟩ := hrel
    have HM := Aside0.mk hm
    have HAT := Aside0.mk hat
    have HU := Aside0.mk hu
    obtain ⟨sb', k1, k2⟩ := hhd
    have s0 := k1.blk.at 0 (.pointer (some ⟨sb', 0, none⟩)) rfl
    have s1 := k1.blk.at 1 (.int .i64 (page : Int)) rfl
    have HK := Aside0.mk (And.intro k1 k2)
    clear hm hat k1 k2 hu
    by_cases hlt : jj < 4
    · have jI : (jj : Int) < 4 := by omega
      have hfj := HFR.out jj hlt
      have htj := HTK.out jj hj4
      obtain ⟨fi, hfi⟩ : ∃ fi, freeI (tkI hd.tk jj) = fi := ⟨_, rfl⟩
      have hfi8 : fi ≤ 8 := by rw [← hfi]; exact free_le _ htj
      have hc8 : fi * cs ≤ 8 * 64 := Nat.mul_le_mul hfi8 hS64
      have HT := Aside0.mk (span_take sb' hd.cls (tkI hd.tk jj) hcl htj wr HK.out.2.blk hfj)
      rw [hfi] at HT
      have had : adI page hd.cls hd.tk jj = page * 64 + fi * cs := by unfold adI; rw [hfi, HCS.out]
      have HAD := Aside0.mk had
      have HFI := Aside0.mk hfi
      obtain ⟨z, hz⟩ : ∃ z, fi * cs = z := ⟨_, rfl⟩
      have e2 : (fi : Int) * (cs : Int) = (z : Int) := by rw [← hz, Int.natCast_mul]
      rw [hz] at hc8
      have g1 : (0 : Int) ≤ (z : Int) ∧ (z : Int) ≤ 1000000 := by omega
      have g2 : (0 : Int) ≤ (page : Int) * 64 ∧ (page : Int) * 64 ≤ 1000000 := by omega
      have g3 : (0 : Int) ≤ (page : Int) * 64 + (z : Int) ∧ (page : Int) * 64 + (z : Int) ≤ 1000000 := by omega
      have f1 : wrap64 ((fi : Int) * (cs : Int)) = (z : Int) := by rw [e2]; exact w64 _ g1
      have f2 : wrap64 ((page : Int) * 64) = (page : Int) * 64 := w64 _ g2
      have f3 : wrap64 ((page : Int) * 64 + (z : Int)) = (page : Int) * 64 + (z : Int) := w64 _ g3
      rw [hz] at HAD
      clear hfj htj hfi hfi8 hc8 had hz g1 g2 g3 e2
      go_upto_region 10 with (go_at_call 209; (with_reducible refine HT.out.mono ?_); rintro e_ w3 ⟨rfl, q1, q2⟩; have HQ := Aside0.mk (And.intro q1 q2); have t1 := (HK.out.1.upd (I := (· = 1001 + 2 * page)) (κ := κ') ⟨fun _ _ => rfl, q2.os, q2.tape, q2.output, q2.size, fun b hb hne => q2.block b hb (fun e => hne (by rw [e]; exact HK.out.2.kol))⟩ (by omega)).blk.at 1 (.int .i64 (page : Int)) rfl; clear q1 q2 s1)
      rw [f3]
      clear f1 f2 f3 t1
      have hU3 : Upd (fun z => z = 1000 + 2 * page ∨ z = 1001 + 2 * page) κ' wr κ' w3 := ⟨fun _ _ => rfl, HQ.out.2.os, HQ.out.2.tape, HQ.out.2.output, HQ.out.2.size, fun b hb hne => HQ.out.2.block b hb (fun e => hne (by rw [e]; exact Or.inr HK.out.2.kol))⟩
      have hh3 : HeldK κ' w3 q page { hd with tk := tkI hd.tk (jj + 1) } := ⟨sb', ⟨HK.out.1.kol, HK.out.1.blk.chg HQ.out.2 (fun e => by have h1 := HK.out.1.kol; have e : q = sb' := e; rw [e, HK.out.2.kol] at h1; omega)⟩, HK.out.2.kol, by
        have := HQ.out.1
        rw [← HFI.out] at this
        exact this⟩
      have hm3 := HM.out.putHeld hpg HAT.out (show (fiS s j c page hd jj).sp page = some { hd with tk := tkI hd.tk jj } from by show setSp s.sp page _ page = _; unfold setSp; rw [if_pos rfl]) hh3 hU3
      have HM3 := Aside0.mk hm3
      have HH3 := Aside0.mk hh3
      have HAT3 := Aside0.mk (HAT.out.upd hU3 (by omega))
      have HU3 := Aside0.mk (HU.out.then hU3 (fun c e => by omega))
      clear hU3 hh3 hm3
      by_cases hz0 : jj = 0
      · subst hz0
        rw [if_pos rfl]
        go_wp2_with fail
        refine ⟨⟨1, κ', rfl, by omega, ?_, ?_, HAT3.out, HH3.out, HU3.out⟩, by simp only [intOf]; omega⟩
        · rw [if_neg (by omega), HAD.out]; simp
        · have := HM3.out
          rw [show (fiS s j c page hd 0).sn = s.sn from rfl, fiS_next s j c page hd 0 rfl] at this
          exact this
      · rw [if_neg hz0]
        have d0 : decide (((adI page hd.cls hd.tk 0 : Nat) : Int) < 0) = false := decide_eq_false (by omega)
        obtain ⟨cb, k1, k2⟩ := HM3.out.cpuK HX.out.1 (fiS_cpu s j c page hd jj HX.out.2.1)
        have p5 := k1.blk.at 5 (.pointer (some ⟨cb, 0, none⟩)) rfl
        obtain ⟨sb2, g1, g2⟩ := HH3.out
        have s0 := g1.blk.at 0 (.pointer (some ⟨sb2, 0, none⟩)) rfl
        have HKK := Aside0.mk (And.intro k1 (And.intro k2 (And.intro g1 g2)))
        have hlen : ((fiL c page hd.cls hd.tk jj) hd.cls).length < 8 := by rw [fiL_len]; omega
        have HLEN := Aside0.mk hlen
        clear k1 k2 g1 g2 hlen
        go_upto_region 12 with fail
        refine st_ 11 (fun w' => w'.cell? ⟨p, 5, none⟩ = some (.pointer (some ⟨cb, 0, none⟩)) ∧ w'.cell? ⟨q, 0, none⟩ = some (.pointer (some ⟨sb2, 0, none⟩))) [10] ⟨p5, s0⟩ (fun hHeld => ?_)
        have hd_ := below_drew (RowKit.Below.refl w3.heap.size w3)
        have n0_ := Aside0.mk (HM3.out.below hd_)
        have n1_ := Aside0.mk (HAT3.out.upd (I := fun _ => False) (Upd.of_below κ' hd_) (fun h => h))
        have n2_ := Aside0.mk (HH3.out.upd (I := fun _ => False) (Upd.of_below κ' hd_) (fun h => h) (fun h => h))
        have n3_ := Aside0.mk (HU3.out.below hd_)
        have n4_ := Aside0.mk (And.intro (HKK.out.1.below hd_) (And.intro (HKK.out.2.1.below hd_) (And.intro (HKK.out.2.2.1.below hd_) (HKK.out.2.2.2.below hd_))))
        clear HM3 HAT3 HH3 HU3 HKK p5 s0 hd_
        have HM3 := n0_
        have HAT3 := n1_
        have HH3 := n2_
        have HU3 := n3_
        have HKK := n4_
        clear n0_ n1_ n2_ n3_ n4_
        have p5 := HKK.out.1.blk.at 5 (.pointer (some ⟨cb, 0, none⟩)) rfl
        have s0 := HKK.out.2.2.1.blk.at 0 (.pointer (some ⟨sb2, 0, none⟩)) rfl
        generalize w3.drew = wd at *
        refine pu_ 0 50 1 ?_
        refine pu_ 1 51 3 ?_
        refine pu_ 2 52 7 ?_
        refine pu_ 4 54 23 ?_
        refine pu_ 5 55 55 ?_
        refine pu_ 6 56 119 ?_
        refine pu_ 9 59 631 ?_
        refine ta_ 3 53 639 hHeld ?_
        refine ta_ 7 57 767 hHeld ?_
        refine one_ (i := 8) (N := some 58) (bz 11 1023) rfl rfl (by kernel_rfl) (by decide) (fun K hK => ?_)
        refine goes_ Tryz.func72 (by kernel_rfl) rfl #[.pointer (some ⟨sb2, 0, none⟩)] (by rfl) rfl rfl (by simp only [List.map_toArray, List.map_cons, List.map_nil]; rfl) ?_
        with_reducible refine (span_class sb2 hd.cls (tkI hd.tk (jj + 1)) _ HKK.out.2.2.2.blk).mono ?_
        rintro e_ w4 ⟨rfl, rfl⟩
        refine ⟨_, rfl, ?_⟩
        refine hK.out _ _ ⟨hHeld.1, hHeld.2⟩ (fun hHeld => ?_)
        clear hK K
        refine no_ 58 ?_
        refine last_ (i := 10) (N := some 60) (bz 11 2047) rfl rfl (by kernel_rfl) (by decide) (fun K hK => ?_)
        refine goes_ Tryz.func150 (by kernel_rfl) rfl #[.pointer (some ⟨cb, 0, none⟩), .int .i64 hd.cls, .int .i64 ((page : Int) * 64 + (z : Int))] (by rfl) rfl rfl (by simp only [List.map_toArray, List.map_cons, List.map_nil]; rfl) ?_
        with_reducible refine (cache_push κ' (150 + 6 * j + 1) cb hd.cls hcl (fiL c page hd.cls hd.tk jj) ((page : Int) * 64 + (z : Int)) HLEN.out _ HKK.out.2.1).mono ?_
        rintro e_ w5 ⟨rfl, q1_⟩
        refine ⟨_, rfl, ?_⟩
        have HR := Aside0.mk q1_
        clear q1_
        refine hK.out _ _ ?_
        clear hK K
        refine no_ 60 ?_
        refine done_ (by kernel_rfl) ?_
        go_wp2_with fail
        obtain ⟨κ2, g1, g2⟩ := HR.out
        have hU4 : Upd (fun z => 150 + 6 * j ≤ z ∧ z < 156 + 6 * j) κ' w4 κ2 w5 := g2.mono (fun c e => by omega)
        have g1' : CacheK κ2 (150 + 6 * j + 1) w5 cb (fiL c page hd.cls hd.tk (jj + 1)) := by
          rw [← fiL_succ c page hd.cls hd.tk jj (by omega), HAD.out, Int.natCast_add, Int.natCast_mul]
          exact g1
        have hj16 : j < 16 := Nat.lt_of_lt_of_le (List.getElem?_eq_some_iff.1 HX.out.2.1).1 (by have := HM3.out.hcp; rw [show (fiS s j c page hd jj).cpus.length = s.cpus.length from List.length_set] at this; exact this)
        have hm5 := HM3.out.putCpu (c' := { c with L := fiL c page hd.cls hd.tk (jj + 1) }) HX.out.1 (fiS_cpu s j c page hd jj HX.out.2.1) ⟨cb, HKK.out.1.upd g2 (by omega), g1'⟩ hU4
        refine ⟨⟨jj + 1, κ2, by simp, by omega, ?_, ?_, HAT3.out.upd hU4 (by omega), HH3.out.upd hU4 (by omega) (by omega), HU3.out.then hU4 (fun c e => by omega)⟩, by simp only [intOf]; omega⟩
        · rw [if_neg (by omega)]
        · have := fiS_put s j c page hd jj
          rw [← this]
          exact hm5
    · obtain rfl : jj = 4 := by omega
      rw [if_neg (by omega)]
      have d0 : decide (((adI page hd.cls hd.tk 0 : Nat) : Int) < 0) = false := decide_eq_false (by omega)
      go_wp2_with fail
      go_ret2
      exact ⟨rfl, κ', HM.out, HU.out⟩
end Go.Proofs.YtenkdmloolbdaaaGreatDoor.T
end
section
namespace Go.Proofs.YtenkdmloolbdaaaGreatDoor.T
open Go.RowKit Go.Maps Go.WideShapes Go.Proofs.YtenkdmloolbdaaaGreatDoorW.PrintWords Go.Proofs.YtenkdmloolbdaaaGreatDoorW.PrintLast Go.Proofs.YtenkdmloolbdaaaGreatDoorW.PrintMore
set_option linter.unusedVariables false
set_option linter.unusedSimpArgs false
theorem ptr_shape {v : Value} {y : DataW Unit × List MemPlace} (h : ptrElem v = some y) : ∃ o : Option Nat, v = ptrV o := by
  unfold ptrElem at h
  split at h
  · exact ⟨none, rfl⟩
  · rename_i b; exact ⟨some b, rfl⟩
  · simp at h
def RelNr (κ : Kol) (m : Nat) (a : Ad) (s : St) (w wr0 : World) (it : Nat) (n : Nat) (D : DataW Unit) (v10 : Value) (wr : World) : Prop :=
  ∃ left cnt, v10 = .pointer none ∧ wr.ranges Tryz.prog 3 ptrElem a.sb it n D left cnt ∧ (∀ kl, left kl = true → Maps.has D kl = true) ∧ RowKit.Below w.heap.size w wr
set_option maxHeartbeats 4000000 in
set_option maxRecDepth 100000 in
theorem nearest_none (κ : Kol) (m : Nat) (a : Ad) (s : St) (j p : Nat) (c : Cpu) (cls : Nat) (hp : a.cps[j]? = some p) (hc : s.cpus[j]? = some c) (h1 : 1 ≤ s.n) (h8 : s.n ≤ 8) (hpol : TZ.polR c.mode c.set c.nd s.n = 0) (her : TZ.erN s.n s.f s.cs s.ds c.node = 0) (hno : ∀ q, s.sp q = none) (w : World) (h : MachK κ w m a s) :
    Calls Tryz.prog 168 #[.pointer (some ⟨m, 0, none⟩), .pointer (some ⟨p, 0, none⟩), .int .i64 cls] w fun e w' => e = .returned (.pointer none) ∧ RowKit.Below w.heap.size w w' := by
  have HM := Aside0.mk h
  have HC := Aside0.mk (show ∀ W, MachK κ W m a s → CpuK κ (150 + 6 * j) W p c from fun W hW => hW.cpuK hp hc)
  obtain ⟨pm, hpm⟩ : ∃ pm, TZ.permR c.mode c.set s.n = pm := ⟨_, rfl⟩
  have HPE := Aside0.mk (show ∀ W : World, Calls Tryz.prog 49 #[.agg #[.int .i64 c.mode, .int .u8 c.set, .int .i64 c.nd], .int .i64 s.n] W (fun e w' => e = .returned (.tuple #[.int .u8 pm, .int .i64 0]) ∧ RowKit.Below W.heap.size W w') from fun W => by
    rw [← hpm]
    exact PH.policy_Permitted.calls 20 c.mode c.set c.nd s.n _ 0 W (by rw [TZ.pperm_f c.mode c.set c.nd s.n h1 h8, hpol, if_pos rfl]))
  obtain ⟨q, hq⟩ : ∃ q, (TZ.inL pm (TZ.lstN s.n s.f s.cs s.ds c.node)).length = q := ⟨_, rfl⟩
  have HWI := Aside0.mk (show ∀ W, MachK κ W m a s → Calls Tryz.prog 162 #[.agg #[.int .i64 s.n, .int .i64 s.f, .slice a.A s.cs.length a.ca, .slice a.B s.ds.length a.cb], .int .i64 c.node, .int .u8 pm] W (fun e w' => ∃ A1 c1, e = .returned (.tuple #[.slice A1 q c1, .int .i64 0]) ∧ RowKit.Below W.heap.size W w') from fun W hW => by
    obtain ⟨A1, c1, e1, l1, r1⟩ := hW.cs.reads
    injection e1 with e1 _ e2
    obtain ⟨A2, c2, e3, l2, r2⟩ := hW.ds.reads
    injection e3 with e3 _ e4
    subst e1; subst e2; subst e3; subst e4
    refine (TZ.within_own s.n s.f a.A a.ca s.cs a.B a.cb s.ds c.node pm W r1 l1 r2 l2).mono ?_
    rintro e w' ⟨v, rfl, ho, hb⟩
    obtain ⟨A3, c3, rfl⟩ := own_slice ho
    rw [hq, her]
    exact ⟨A3, c3, rfl, hb⟩)
  have HB0 := Aside0.mk (RowKit.Below.refl w.heap.size w)
  have c0 := h.c0
  have k1 := (HC.out _ h).k1
  have k2 := (HC.out _ h).k2
  have k3 := (HC.out _ h).k3
  have HNO := Aside0.mk hno
  clear h hpm hq hpol her hno hp hc
  go_enter Tryz.func168, Tryz.ntmps168
  go_upto_region 1 with fail
  refine st_ 15 (fun w' => w'.cell? ⟨m, 0, none⟩ = some (.int .i64 s.n) ∧ w'.cell? ⟨p, 1, none⟩ = some (.int .i64 c.mode) ∧ w'.cell? ⟨p, 2, none⟩ = some (.int .u8 c.set) ∧ w'.cell? ⟨p, 3, none⟩ = some (.int .i64 c.nd)) [9] ⟨c0, k1, k2, k3⟩ (fun hHeld => ?_)
  have hd_ := below_drew (RowKit.Below.refl w.heap.size w)
  have n0_ := Aside0.mk (HM.out.below hd_)
  have n1_ := Aside0.mk (below_then HB0.out HB0.out.size hd_)
  clear HM HB0 c0 k1 k2 k3 hd_
  have HM := n0_
  have HB0 := n1_
  clear n0_ n1_
  have c0 := HM.out.c0
  have k1 := (HC.out _ HM.out).k1
  have k2 := (HC.out _ HM.out).k2
  have k3 := (HC.out _ HM.out).k3
  generalize w.drew = wd at *
  refine pu_ 0 16 1 ?_
  refine pu_ 1 17 3 ?_
  refine pu_ 2 18 7 ?_
  refine pu_ 4 20 23 ?_
  refine pu_ 5 21 55 ?_
  refine pu_ 6 22 119 ?_
  refine pu_ 7 23 247 ?_
  refine ta_ 3 19 255 hHeld ?_
  refine ta_ 8 24 511 hHeld ?_
  refine last_ (i := 9) (N := some 25) (bz 15 1023) rfl rfl (by kernel_rfl) (by decide) (fun K hK => ?_)
  refine goes_ Tryz.func49 (by kernel_rfl) rfl #[.agg #[.int .i64 c.mode, .int .u8 c.set, .int .i64 c.nd], .int .i64 s.n] (by rfl) rfl rfl (by simp only [List.map_toArray, List.map_cons, List.map_nil]; rfl) ?_
  with_reducible refine (HPE.out _).mono ?_
  rintro e_ w1 ⟨rfl, hb⟩
  refine ⟨_, rfl, ?_⟩
  have n0_ := Aside0.mk (HM.out.below hb)
  have n1_ := Aside0.mk (below_then HB0.out HB0.out.size hb)
  clear HM HB0 c0 k1 k2 k3 hb
  have HM := n0_
  have HB0 := n1_
  clear n0_ n1_
  have c0 := HM.out.c0
  have k1 := (HC.out _ HM.out).k1
  have k2 := (HC.out _ HM.out).k2
  have k3 := (HC.out _ HM.out).k3
  clear hHeld
  clear c0 k1 k2 k3
  refine hK.out _ _ ?_
  clear hK K
  refine no_ 25 ?_
  refine pu_ 10 15 2047 ?_
  refine pu_ 11 26 4095 ?_
  refine pu_ 12 27 8191 ?_
  refine pu_ 13 7 16383 ?_
  refine pu_ 14 8 32767 ?_
  refine done_ (by kernel_rfl) ?_
  go_upto_region 4 with fail
  have c0 := HM.out.c0
  have c1 := HM.out.c1
  have c2 := HM.out.c2
  have c3 := HM.out.c3
  have k0 := (HC.out _ HM.out).k0
  refine st_ 15 (fun w' => w'.cell? ⟨m, 0, none⟩ = some (.int .i64 s.n) ∧ w'.cell? ⟨m, 1, none⟩ = some (.int .i64 s.f) ∧ w'.cell? ⟨m, 2, none⟩ = some (.slice a.A s.cs.length a.ca) ∧ w'.cell? ⟨m, 3, none⟩ = some (.slice a.B s.ds.length a.cb) ∧ w'.cell? ⟨p, 0, none⟩ = some (.int .i64 c.node)) [9] ⟨c0, c1, c2, c3, k0⟩ (fun hHeld => ?_)
  have hd_ := below_drew (RowKit.Below.refl w1.heap.size w1)
  have n0_ := Aside0.mk (HM.out.below hd_)
  have n1_ := Aside0.mk (below_then HB0.out HB0.out.size hd_)
  clear HM HB0 c0 c1 c2 c3 k0 hd_
  have HM := n0_
  have HB0 := n1_
  clear n0_ n1_
  have c0 := HM.out.c0
  have c1 := HM.out.c1
  have c2 := HM.out.c2
  have c3 := HM.out.c3
  have k0 := (HC.out _ HM.out).k0
  generalize w1.drew = wd at *
  refine pu_ 0 31 1 ?_
  refine pu_ 1 32 3 ?_
  refine pu_ 2 33 7 ?_
  refine pu_ 4 35 23 ?_
  refine pu_ 5 36 55 ?_
  refine pu_ 6 37 119 ?_
  refine pu_ 8 39 375 ?_
  refine ta_ 3 34 383 hHeld ?_
  refine ta_ 7 38 511 hHeld ?_
  refine last_ (i := 9) (N := some 40) (bz 15 1023) rfl rfl (by kernel_rfl) (by decide) (fun K hK => ?_)
  refine goes_ Tryz.func162 (by kernel_rfl) rfl #[.agg #[.int .i64 s.n, .int .i64 s.f, .slice a.A s.cs.length a.ca, .slice a.B s.ds.length a.cb], .int .i64 c.node, .int .u8 pm] (by rfl) rfl rfl (by simp only [List.map_toArray, List.map_cons, List.map_nil]; rfl) ?_
  with_reducible refine (HWI.out _ HM.out).mono ?_
  rintro e_ w2 ⟨A9, c9, rfl, hb⟩
  refine ⟨_, rfl, ?_⟩
  have n0_ := Aside0.mk (HM.out.below hb)
  have n1_ := Aside0.mk (below_then HB0.out HB0.out.size hb)
  clear HM HB0 c0 c1 c2 c3 k0 hb
  have HM := n0_
  have HB0 := n1_
  clear n0_ n1_
  have c0 := HM.out.c0
  have c1 := HM.out.c1
  have c2 := HM.out.c2
  have c3 := HM.out.c3
  have k0 := (HC.out _ HM.out).k0
  clear hHeld
  clear c0 c1 c2 c3 k0
  refine hK.out _ _ ?_
  clear hK K
  refine no_ 40 ?_
  refine pu_ 10 30 2047 ?_
  refine pu_ 11 41 4095 ?_
  refine pu_ 12 42 8191 ?_
  refine pu_ 13 9 16383 ?_
  refine pu_ 14 8 32767 ?_
  refine done_ (by kernel_rfl) ?_
  have c11 := HM.out.c11
  obtain ⟨f, ⟨hk, D, hown, hv⟩, hf2, hf3⟩ := HM.out.sp
  have HOW := Aside0.mk hown
  have HNH := Aside0.mk (show ∀ x : Int, I64 x → Maps.has D (.int .i64 x) = false from fun x hx => by
    rw [(hv x hx).1]
    cases hfx : f x with
    | none => rfl
    | some z =>
      have h0 := hf2 x (by rw [hfx]; rfl)
      have h3 := (hf3 x.toNat).1 (HNO.out _)
      rw [Int.toNat_of_nonneg h0.1, hfx] at h3
      simp at h3)
  clear hk hown hv hf2 hf3
  go_wp2_with (at_range; refine wpList_range_own _ rfl _ 126 rfl 3 139 int_law Tryz.underlying126 _ a.sb s.sn D rfl HOW.out ?_; intro w0 hrg0 hg0 hs0; have HRG := Aside0.mk hrg0; have HG0 := Aside0.mk hg0; clear hrg0 hg0 hs0)
  have HBW := Aside0.mk (below_then HB0.out HB0.out.size (show RowKit.Below w2.heap.size w2 w0 from ⟨HG0.out.os, HG0.out.tape, HG0.out.output, HG0.out.size, fun k hk => HG0.out.block k hk (by simp)⟩))
  have H0 := Aside0.mk (show RelNr κ m a s w w0 w2.heap.size s.sn D (.pointer none) w0 from ⟨_, _, rfl, HRG.out, fun _ h => h, HBW.out⟩)
  go_frame
  go_loopw [10, 11, 13, 14] (fun v10 _ _ _ wr => RelNr κ m a s w w0 w2.heap.size s.sn D v10 wr) (fun _ _ _ _ wr => wr.rangeLeft a.sb w2.heap.size)
  case atStart => exact H0.out
  case round =>
    clear H0
    obtain ⟨left, cnt, rfl, hrg, hl, hb⟩ := hrel
    have HR := Aside0.mk hrg
    have HL := Aside0.mk hl
    have HB := Aside0.mk hb
    clear hrg hl hb
    go_wp2_with (at_next; refine wpList_next_ranges _ rfl _ rfl 3 int_law ptrElem (Value.int .i64) ptrV (fun key kl hk => by obtain ⟨x, rfl, _⟩ := Maps.keyOf_int_inv Tryz.underlying3 hk; exact ⟨x, rfl⟩) (fun v y hv => ptr_shape hv) a.sb w2.heap.size s.sn D left cnt rfl HR.out ?_ ?_; rotate_left; (intro x o kl y w5 cnt2 hk hlk; exfalso; obtain ⟨x', ex, rfl, hwx⟩ := Maps.keyOf_int_inv Tryz.underlying3 hk; have h3 := HL.out _ hlk; rw [HNH.out x' hwx] at h3; cases h3); intro (hc0 : cnt = 0) hl0; clear hc0 hl0)
    go_ret
    exact ⟨rfl, HB.out⟩
end Go.Proofs.YtenkdmloolbdaaaGreatDoor.T
end
