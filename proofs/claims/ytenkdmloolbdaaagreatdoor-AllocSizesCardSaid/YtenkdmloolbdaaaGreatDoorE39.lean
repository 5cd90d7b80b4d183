import Derived.Test.YtenkdmloolbdaaaGreatDoorE37
import Derived.Test.YtenkdmloolbdaaaGreatDoorE04
import Derived.Test.YtenkdmloolbdaaaGreatDoorE38
set_option linter.unusedVariables false
set_option linter.unusedSimpArgs false
set_option maxHeartbeats 8000000
set_option maxRecDepth 100000
section
namespace Go.Proofs.YtenkdmloolbdaaaGreatDoor.T
open Go.RowKit Go.Maps Go.WideShapes Go.Proofs.YtenkdmloolbdaaaGreatDoorW.PrintWords Go.Proofs.YtenkdmloolbdaaaGreatDoorW.PrintLast Go.Proofs.YtenkdmloolbdaaaGreatDoorW.PrintMore
theorem Do.run {f : Nat} {xs : Array Value} {m : Nat} {a : Ad} {s s' : St} {r : Value} (h : Do f xs m a s s' r) (κ : Kol) (w : World) (hg : GlobK κ w) (hm : MachK κ w m a s) : Calls Tryz.prog f xs w fun e w' => e = .returned r ∧ ∃ κ', MachK κ' w' m a s' ∧ Upd (fun z => 1 ≤ z) κ w κ' w' := h κ w hg hm
def relvS (s : St) (j : Nat) (c : Cpu) : St := relS (flushS s j c)
theorem Mi.relieve {E t : Nat} {s : St} {H : List Int} (h : Mi E t s H) {j : Nat} {c : Cpu} (hc : s.cpus[j]? = some c) : Mi E t (relvS s j c) H := (h.flush hc).release
theorem backs_cpus : ∀ (l : List Int) (s : St), (l.foldl backA s).cpus = s.cpus
 | [], _ => rfl
 | x :: l, s => by
  rw [List.foldl_cons, backs_cpus l]
  unfold backA
  split <;> rfl
theorem rels_cpus : ∀ (l : List Nat) (s : St), (l.foldl rel1 s).cpus = s.cpus
 | [], _ => rfl
 | x :: l, s => by
  rw [List.foldl_cons, rels_cpus l]
  unfold rel1
  split <;> rfl
theorem relv_cpu {s : St} {j : Nat} {c : Cpu} (hc : s.cpus[j]? = some c) : (relvS s j c).cpus[j]? = some { c with L := upL c.L 4 } := by
 unfold relvS relS flushS
 rw [rels_cpus, backs_cpus]
 exact get_set hc
theorem relieve_own (E t : Nat) (H : List Int) (m : Nat) (a : Ad) (s : St) (j p : Nat) (c : Cpu) (hp : a.cps[j]? = some p) (hc : s.cpus[j]? = some c) (hI : Mi E t s H) :
 Do 118 #[.pointer (some ⟨m, 0, none⟩), .int .i64 j] m a s (relvS s j c) (.tuple #[]) := by
 intro κ w hg h
 have HF := ak (flush_own E t H m a s j p c hp hc hI κ w hg h)
 have HR := ak (release_own E t H m a (flushS s j c) (hI.flush hc))
 have HG := ak hg
 clear hg h hp hc hI
 go_enter Tryz.func118, Tryz.ntmps118
 go_wp2_with (first | (go_at_call 42; (with_reducible refine HF.1.mono ?_); rintro e_ w1 ⟨rfl, κ1, q1, q2⟩; have HM1 := ak q1; have HU1 := ak q2; clear q1 q2) | (go_at_call 55; (with_reducible refine (HR.1.run κ1 _ (HG.1.upd HU1.1 (by omega)) HM1.1).mono ?_); rintro e_ w2 ⟨rfl, κ2, q1, q2⟩; have HM2 := ak q1; have HU2 := ak (HU1.1.then q2 (fun _ e => e)); clear q1 q2))
 refine bodyPost_end (results_none rfl _ _ _) rfl ?_
 exact ⟨rfl, κ2, HM2.1, HU2.1⟩
inductive SmallR (s : St) (j : Nat) (c : Cpu) (cls : Nat) : Option Nat → St → Prop
 | pop (l : List Int) (x : Nat) : c.L cls = l ++ [(x : Int)] → SmallR s j c cls (some x) { s with cpus := s.cpus.set j { c with L := setL c.L cls l } }
 | tak (x : Nat) (s' : St) : c.L cls = [] → TakR s j c cls (some x) s' → SmallR s j c cls (some x) s'
 | again (cur' : Int) (res : Option Nat) (s' : St) : c.L cls = [] → TakR s j c cls none (curT s j c cur') → TakR (relvS (curT s j c cur') j { c with cur := cur' }) j { c with cur := cur', L := upL c.L 4 } cls res s' → SmallR s j c cls res s'
def frOf (s : St) (x : Nat) : Nat := ((s.pf ((x / 64 : Nat) : Int)).getD 0).toNat
def zS (s : St) (x z : Nat) : St := { s with l := spliceB s.l (frOf s x * 64 + x % 64) (List.replicate z 0) }
theorem cls_fit : ∀ c : Nat, c < 4 → ∀ i : Nat, i < clN c → (i * clS c) % 64 + clS c ≤ 64 := by decide
theorem Mi.onPage {E t : Nat} {s : St} {H : List Int} (h : Mi E t s H) {x cls : Nat} (hs : Slot s ((x : Nat) : Int) cls) : OnPage s x (clS cls) (frOf s x) := by
 obtain ⟨p, hd, i, h1, h2, h3, h4, rfl⟩ := hs
 obtain ⟨a1, a2, a3, a4, a5, _⟩ := h.fr.spn p hd h1
 have c1 := plc_in (p := p) a1 h2
 have c2 := h.fr.page h1
 have c3 := cls_fit hd.cls a1 i h2
 have d1 := (cls_mul _ a1).2.1
 have hx : x = 64 * p + i * clS hd.cls := by unfold plc at h3; omega
 obtain ⟨u, hu⟩ : ∃ u, i * clS hd.cls = u := ⟨_, rfl⟩
 rw [hu] at c1 c3 hx
 have hq : x / 64 = p + u / 64 := by omega
 have h5 := a5 (u / 64) (by omega)
 rw [← hq] at h5
 have hf : frOf s x = hd.frame + u / 64 := by unfold frOf; rw [h5]; rfl
 obtain ⟨b1, b2, _⟩ := h.fr.dom _ _ h5
 have hN : s.n * s.f ≤ 8 * 1024 := Nat.mul_le_mul h.co.n8 (p2_le _ h.co.f2).2
 exact ⟨by rw [hf]; exact h5, by rw [hf]; omega, by omega, by omega, by omega, h.fr.len⟩
theorem Mi.bytes {E t : Nat} {s : St} {H : List Int} (h : Mi E t s H) (l : List Nat) (hl : l.length = s.l.length) : Mi E t { s with l := l } H :=
 ⟨⟨h.co.n1, h.co.n8, h.co.f2, h.co.chk, h.co.c16, h.co.cpl, h.co.cpu, h.co.mn, h.co.ql, h.co.pn, h.co.sn, h.co.ln, h.co.ev, h.co.t1, h.co.top⟩, h.fr.like rfl rfl rfl hl rfl rfl rfl rfl, ⟨h.ob.tk, h.ob.live, h.ob.runs, h.ob.nod, h.ob.hom, h.ob.cch, h.ob.clen, h.ob.qlen, h.ob.book⟩⟩
theorem Mi.zero {E t : Nat} {s : St} {H : List Int} (h : Mi E t s H) {x z fr : Nat} (ho : OnPage s x z fr) (hf : fr = frOf s x) : Mi E t (zS s x z) H := by
 subst hf
 refine h.bytes _ (splice_len _ _ _ ?_)
 rw [List.length_replicate, ho.len]
 have := ho.fit
 have h1 : (frOf s x + 1) * 64 ≤ s.n * s.f * 64 := Nat.mul_le_mul_right _ ho.lt
 omega
theorem zS_slot {s : St} {x z : Nat} {y : Int} {c : Nat} : Slot (zS s x z) y c ↔ Slot s y c := Slot.like rfl
theorem Mi.pop {E t : Nat} {s : St} {H : List Int} (h : Mi E t s H) {j : Nat} {c : Cpu} (hc : s.cpus[j]? = some c) {cls : Nat} (hcl : cls < 4) {l : List Int} {x : Int} (hl : c.L cls = l ++ [x]) : Mi E t { s with cpus := s.cpus.set j { c with L := setL c.L cls l } } (x :: H) := by
 refine h.cpu hc rfl (h.co.cpu j c hc).2 (List.perm_iff_count.2 (fun a => ?_)) (fun k hk => ?_)
 ·have h4 : cls = 0 ∨ cls = 1 ∨ cls = 2 ∨ cls = 3 := by omega
  rcases h4 with h4 | h4 | h4 | h4 <;> subst h4 <;> simp [cpuL, setL, hl, List.count_append, List.count_cons] <;> omega
 ·show (setL c.L cls l k).length ≤ 8 ∧ ∀ y ∈ setL c.L cls l k, Slot s y k
  have h1 := h.ob.clen j c k hc hk
  unfold setL
  split
  ·rename_i e
   subst e
   rw [hl, List.length_append] at h1
   exact ⟨by omega, fun y hy => h.ob.cch j c k y hc hk (by rw [hl]; exact List.mem_append_left _ hy)⟩
  ·exact ⟨h1, fun y hy => h.ob.cch j c k y hc hk hy⟩
theorem clof_lt (n : Nat) : clOf n < 4 := by unfold clOf; split <;> (try split) <;> (try split) <;> omega
theorem small_any [SortI] (E t : Nat) (H : List Int) (m : Nat) (a : Ad) (s : St) (j p : Nat) (c : Cpu) (n : Nat) (h1 : 1 ≤ n) (h64 : n ≤ 64) (hE : E ≤ 100000) (ht4 : t + 4 ≤ 4096) (hp : a.cps[j]? = some p) (hc : s.cpus[j]? = some c) (hI : Mi E t s H) :
 ∃ res s', SmallR s j c (clOf n) res s' ∧ Mi (E + 1) (t + 4) s' (handL res ++ H) ∧ (∀ x, res = some x → Slot s' ((x : Nat) : Int) (clOf n)) ∧ Do 62 #[.pointer (some ⟨m, 0, none⟩), .int .i64 j, .pointer (some ⟨p, 0, none⟩), .int .i64 n] m a s (match res with | some x => zS s' x (clS (clOf n)) | none => s') (takV res) := by
 have hcl := clof_lt n
 have HOF := ak (fun (W : World) (hW : GlobR W) => of_class n h1 h64 W hW)
 have HSZ := ak (fun (W : World) (hW : GlobR W) => size_own (clOf n) hcl W hW)
 obtain ⟨k, hk⟩ : ∃ k, clOf n = k := ⟨_, rfl⟩
 rw [hk] at HOF HSZ hcl ⊢
 have hs8 : 8 ≤ clS k ∧ clS k ≤ 64 := by match k, hcl with | 0, _ => decide | 1, _ => decide | 2, _ => decide | 3, _ => decide
 obtain ⟨z, hz⟩ : ∃ z, clS k = z := ⟨_, rfl⟩
 rw [hz] at HSZ hs8
 clear h1 h64 hk
 rcases List.eq_nil_or_concat (c.L k) with hL | ⟨l, x, hL⟩
 ·obtain ⟨res, s', hT, hM, hS, hD⟩ := taken_any E t H m a s j p c k hcl hE ht4 hp hc hL hI
  cases res with
  | some x =>
   refine ⟨some x, s', SmallR.tak x s' hL hT, hM, hS, ?_⟩
   show Do _ _ _ _ _ (zS s' x (clS k)) (takV (some x))
   intro κ w hg h
   have HO2 := hM.onPage (hS x rfl)
   obtain ⟨fr, hfr⟩ : ∃ fr, frOf s' x = fr := ⟨_, rfl⟩
   rw [hz] at HO2 ⊢
   rw [hfr] at HO2
   have HO2 := ak HO2
   have HFR := ak hfr
   have HM := ak h
   have HG := ak hg
   have HX := ak (And.intro hp (And.intro hc hL))
   have HD := ak (show Do 117 #[.pointer (some ⟨m, 0, none⟩), .int .i64 j, .pointer (some ⟨p, 0, none⟩), .int .i64 k] m a s s' (.tuple #[.int .i64 (x : Int), .int .i64 0]) from hD)
   clear h hg hp hc hL hfr hD hM hS hT hz hI
   go_enter Tryz.func62, Tryz.ntmps62
   go_upto_region 4 with (go_at_call 115; (with_reducible refine (HOF.1 _ HG.1.g).mono ?_); rintro e_ w1 ⟨rfl, hb⟩; have HB1 := ak hb; clear hb)
   have hm1 := HM.1.below HB1.1
   obtain ⟨cb, k1, k2⟩ := hm1.cpuK HX.1.1 HX.1.2.1
   have p5 := k1.blk.at 5 (.pointer (some ⟨cb, 0, none⟩)) rfl
   have HPO := ak (cache_empty κ (150 + 6 * j + 1) cb k hcl c.L HX.1.2.2 w1 k2)
   have HK := ak (And.intro hm1 k1)
   have HG1 := ak (HG.1.upd (I := fun _ => False) (Upd.of_below κ HB1.1) (fun h => h))
   clear hm1 k1 k2 HG HM
   go_upto_region 12 with (first | (go_at_call 116; (with_reducible refine HPO.1.mono ?_); rintro e_ w2 ⟨rfl, hw2⟩; have hw2 := hw2.symm; subst hw2; clear p5) | (go_at_call 117; (with_reducible refine (HD.1.run κ _ HG1.1 HK.1.1).mono ?_); rintro e_ w2 ⟨rfl, κ2, q1, q2⟩; have HM2 := ak q1; have HG2 := ak (HG1.1.upd q2 (by omega)); have HU2 := ak ((Upd.of_below (I := fun z => 1 ≤ z) κ HB1.1).then q2 (fun _ e => e)); clear q1 q2))
   clear HK HG1 HPO HB1
   go_upto_region 15 with (go_at_call 119; (with_reducible refine (HSZ.1 _ HG2.1.g).mono ?_); rintro e_ w3 ⟨rfl, hb⟩; have HM3 := ak (HM2.1.below hb); have HU3 := ak (HU2.1.below hb); clear hb)
   have c4 := HM3.1.c4
   have hmk := make_bytes z (by omega)
   clear HM2 HG2 HU2
   refine st_ 11 (fun w' => w'.cell? ⟨m, 4, none⟩ = some (.pointer (some ⟨a.mem, 0, none⟩))) [8] (c4) (fun hHeld => ?_)
   have hd_ := below_drew (RowKit.Below.refl w3.heap.size w3)
   have n0_ := ak (HM3.1.below hd_)
   have n1_ := ak (HU3.1.below hd_)
   clear HM3 HU3 c4 hd_
   have HM3 := n0_
   have HU3 := n1_
   clear n0_ n1_
   have c4 := HM3.1.c4
   generalize w3.drew = wd at *
   refine pu_ 0 66 1 ?_
   refine pu_ 1 67 3 ?_
   refine pu_ 2 68 7 ?_
   refine pu_ 3 69 15 ?_
   refine pu_ 5 71 47 ?_
   refine pu_ 6 72 111 ?_
   refine ta_ 4 70 127 hHeld ?_
   refine one_ (i := 7) (N := some 73) (bz 11 255) rfl rfl (by kernel_rfl) (by decide) (fun K hK => ?_)
   refine va_ ?_
   have hUm : Upd (fun _ => False) κ2 wd (κ2.ext wd.heap.size 0) (wd.alloc (.cells (bv (List.replicate z 0)) 5)) := (Upd.of_below κ2 (below_alloc (RowKit.Below.refl _ _) _)).paint _ _ (Nat.le_refl _)
   have HMM := ak (HM3.1.upd hUm (fun _ _ h => h))
   have HUM := ak (HU3.1.then hUm (fun _ h => h.elim))
   have HBM := ak (BlkK.new κ2 wd 0 (bv (List.replicate z 0)) 5)
   refine hK.out _ _ (HMM.1.c4) (fun hHeld => ?_)
   clear hK K
   refine no_ 73 ?_
   refine last_ (i := 8) (N := some 74) (bz 11 511) rfl rfl (by kernel_rfl) (by decide) (fun K hK => ?_)
   have HWR := ak (by have h_ := mem_write1 (κ2.ext wd.heap.size 0) 3 a.mem s'.f (s'.n * s'.f) s'.pn s'.l (List.replicate z 0) s'.pf s'.pg x fr z (some ⟨wd.heap.size, 0, none⟩) HO2.1.N (by simp) (by simp only [List.length_replicate]; exact HO2.1.max) (by simp only [List.length_replicate]; omega) (by simp only [List.length_replicate]; exact HO2.1.fit) HO2.1.f HO2.1.lt _ HMM.1.mem (RdS.blk HBM.1 (by omega) (by simp only [List.length_replicate]; omega)); rw [List.length_replicate] at h_; exact h_)
   refine goes_ Tryz.func66 (by kernel_rfl) rfl #[.pointer (some ⟨a.mem, 0, none⟩), .int .i64 x, .slice (some ⟨wd.heap.size, 0, none⟩) z z] (by rfl) rfl rfl (by simp only [List.map_toArray, List.map_cons, List.map_nil]; rfl) ?_
   with_reducible refine (HWR.1).mono ?_
   rintro e_ w5 ⟨rfl, q1_⟩
   refine ⟨_, rfl, ?_⟩
   have HR := ak q1_
   clear q1_
   refine hK.out _ _ ?_
   clear hK K
   refine no_ 74 ?_
   refine pu_ 9 8 1023 ?_
   refine pu_ 10 9 2047 ?_
   refine done_ (by kernel_rfl) ?_
   go_wp2_with fail
   go_ret2
   obtain ⟨κ3, g1, g2⟩ := HR.1
   have hm5 := HMM.1.putMem _ _ _ _ g1 (g2.mono (fun c e => by omega))
   rw [← HFR.1] at hm5
   exact ⟨rfl, κ3, hm5, HUM.1.then g2 (fun c e => by omega)⟩
  | none =>
   obtain ⟨cur', rfl⟩ : ∃ cur', s' = curT s j c cur' := by cases hT; exact ⟨_, rfl⟩
   have hI1 := hI.cur hc cur'
   have hc1 : (curT s j c cur').cpus[j]? = some { c with cur := cur' } := get_set hc
   have hI2 := hI1.relieve hc1
   have hc2 := relv_cpu hc1
   obtain ⟨res, s2, hT2, hM2, hS2, hD2⟩ := taken_any E t H m a (relvS (curT s j c cur') j { c with cur := cur' }) j p _ k hcl hE ht4 hp hc2 (by show upL c.L 4 k = []; unfold upL; rw [if_pos hcl]) hI2
   refine ⟨res, s2, SmallR.again cur' res s2 hL hT hT2, hM2, hS2, ?_⟩
   cases res with
   | some x =>
    show Do _ _ _ _ _ (zS s2 x (clS k)) (takV (some x))
    intro κ w hg h
    have HO2 := hM2.onPage (hS2 x rfl)
    obtain ⟨fr, hfr⟩ : ∃ fr, frOf s2 x = fr := ⟨_, rfl⟩
    rw [hz] at HO2 ⊢
    rw [hfr] at HO2
    have HO2 := ak HO2
    have HFR := ak hfr
    have HM := ak h
    have HG := ak hg
    have HX := ak (And.intro hp (And.intro hc hL))
    have HD := ak (show Do 117 #[.pointer (some ⟨m, 0, none⟩), .int .i64 j, .pointer (some ⟨p, 0, none⟩), .int .i64 k] m a s (curT s j c cur') (.tuple #[.int .i64 0, .int .i64 5]) from hD)
    have HD2 := ak (show Do 117 #[.pointer (some ⟨m, 0, none⟩), .int .i64 j, .pointer (some ⟨p, 0, none⟩), .int .i64 k] m a (relvS (curT s j c cur') j { c with cur := cur' }) s2 (.tuple #[.int .i64 (x : Int), .int .i64 0]) from hD2)
    have HRV := ak (relieve_own E t H m a (curT s j c cur') j p _ hp hc1 hI1)
    clear h hg hp hc hL hfr hD hD2 hM hM2 hS hS2 hT hT2 hz hI hI1 hI2 hc1 hc2
    go_enter Tryz.func62, Tryz.ntmps62
    go_upto_region 4 with (go_at_call 115; (with_reducible refine (HOF.1 _ HG.1.g).mono ?_); rintro e_ w1 ⟨rfl, hb⟩; have HB1 := ak hb; clear hb)
    have hm1 := HM.1.below HB1.1
    obtain ⟨cb, k1, k2⟩ := hm1.cpuK HX.1.1 HX.1.2.1
    have p5 := k1.blk.at 5 (.pointer (some ⟨cb, 0, none⟩)) rfl
    have HPO := ak (cache_empty κ (150 + 6 * j + 1) cb k hcl c.L HX.1.2.2 w1 k2)
    have HK := ak (And.intro hm1 k1)
    have HG1 := ak (HG.1.upd (I := fun _ => False) (Upd.of_below κ HB1.1) (fun h => h))
    clear hm1 k1 k2 HG HM
    go_upto_region 8 with (first | (go_at_call 116; (with_reducible refine HPO.1.mono ?_); rintro e_ w2 ⟨rfl, hw2⟩; have hw2 := hw2.symm; subst hw2; clear p5) | (go_at_call 117; (with_reducible refine (HD.1.run κ _ HG1.1 HK.1.1).mono ?_); rintro e_ w2 ⟨rfl, κ2, q1, q2⟩; have HM2 := ak q1; have HG2 := ak (HG1.1.upd q2 (by omega)); have HU2 := ak ((Upd.of_below (I := fun z => 1 ≤ z) κ HB1.1).then q2 (fun _ e => e)); clear q1 q2))
    clear HK HG1 HPO HB1
    go_upto_region 12 with (first | (go_at_call 118; (with_reducible refine (HRV.1.run κ2 _ HG2.1 HM2.1).mono ?_); rintro e_ w4 ⟨rfl, κ4, q1, q2⟩; have HM4 := ak q1; have HG4 := ak (HG2.1.upd q2 (by omega)); have HU4 := ak (HU2.1.then q2 (fun _ e => e)); clear q1 q2) | (go_at_call 117; (with_reducible refine (HD2.1.run κ4 _ HG4.1 HM4.1).mono ?_); rintro e_ w5 ⟨rfl, κ5, q1, q2⟩; have HM5 := ak q1; have HG5 := ak (HG4.1.upd q2 (by omega)); have HU5 := ak (HU4.1.then q2 (fun _ e => e)); clear q1 q2))
    clear HM2 HG2 HU2 HM4 HG4 HU4
    go_upto_region 15 with (go_at_call 119; (with_reducible refine (HSZ.1 _ HG5.1.g).mono ?_); rintro e_ w3 ⟨rfl, hb⟩; have HM3 := ak (HM5.1.below hb); have HU3 := ak (HU5.1.below hb); clear hb)
    have c4 := HM3.1.c4
    have hmk := make_bytes z (by omega)
    refine st_ 11 (fun w' => w'.cell? ⟨m, 4, none⟩ = some (.pointer (some ⟨a.mem, 0, none⟩))) [8] (c4) (fun hHeld => ?_)
    have hd_ := below_drew (RowKit.Below.refl w3.heap.size w3)
    have n0_ := ak (HM3.1.below hd_)
    have n1_ := ak (HU3.1.below hd_)
    clear HM3 HU3 c4 hd_
    have HM3 := n0_
    have HU3 := n1_
    clear n0_ n1_
    have c4 := HM3.1.c4
    generalize w3.drew = wd at *
    refine pu_ 0 66 1 ?_
    refine pu_ 1 67 3 ?_
    refine pu_ 2 68 7 ?_
    refine pu_ 3 69 15 ?_
    refine pu_ 5 71 47 ?_
    refine pu_ 6 72 111 ?_
    refine ta_ 4 70 127 hHeld ?_
    refine one_ (i := 7) (N := some 73) (bz 11 255) rfl rfl (by kernel_rfl) (by decide) (fun K hK => ?_)
    refine va_ ?_
    have hUm : Upd (fun _ => False) κ5 wd (κ5.ext wd.heap.size 0) (wd.alloc (.cells (bv (List.replicate z 0)) 5)) := (Upd.of_below κ5 (below_alloc (RowKit.Below.refl _ _) _)).paint _ _ (Nat.le_refl _)
    have HMM := ak (HM3.1.upd hUm (fun _ _ h => h))
    have HUM := ak (HU3.1.then hUm (fun _ h => h.elim))
    have HBM := ak (BlkK.new κ5 wd 0 (bv (List.replicate z 0)) 5)
    refine hK.out _ _ (HMM.1.c4) (fun hHeld => ?_)
    clear hK K
    refine no_ 73 ?_
    refine last_ (i := 8) (N := some 74) (bz 11 511) rfl rfl (by kernel_rfl) (by decide) (fun K hK => ?_)
    have HWR := ak (by have h_ := mem_write1 (κ5.ext wd.heap.size 0) 3 a.mem s2.f (s2.n * s2.f) s2.pn s2.l (List.replicate z 0) s2.pf s2.pg x fr z (some ⟨wd.heap.size, 0, none⟩) HO2.1.N (by simp) (by simp only [List.length_replicate]; exact HO2.1.max) (by simp only [List.length_replicate]; omega) (by simp only [List.length_replicate]; exact HO2.1.fit) HO2.1.f HO2.1.lt _ HMM.1.mem (RdS.blk HBM.1 (by omega) (by simp only [List.length_replicate]; omega)); rw [List.length_replicate] at h_; exact h_)
    refine goes_ Tryz.func66 (by kernel_rfl) rfl #[.pointer (some ⟨a.mem, 0, none⟩), .int .i64 x, .slice (some ⟨wd.heap.size, 0, none⟩) z z] (by rfl) rfl rfl (by simp only [List.map_toArray, List.map_cons, List.map_nil]; rfl) ?_
    with_reducible refine (HWR.1).mono ?_
    rintro e_ w5 ⟨rfl, q1_⟩
    refine ⟨_, rfl, ?_⟩
    have HR := ak q1_
    clear q1_
    refine hK.out _ _ ?_
    clear hK K
    refine no_ 74 ?_
    refine pu_ 9 8 1023 ?_
    refine pu_ 10 9 2047 ?_
    refine done_ (by kernel_rfl) ?_
    go_wp2_with fail
    go_ret2
    obtain ⟨κ3, g1, g2⟩ := HR.1
    have hm5 := HMM.1.putMem _ _ _ _ g1 (g2.mono (fun c e => by omega))
    rw [← HFR.1] at hm5
    exact ⟨rfl, κ3, hm5, HUM.1.then g2 (fun c e => by omega)⟩
   | none =>
    show Do _ _ _ _ _ s2 (takV none)
    intro κ w hg h
    have HM := ak h
    have HG := ak hg
    have HX := ak (And.intro hp (And.intro hc hL))
    have HD := ak (show Do 117 #[.pointer (some ⟨m, 0, none⟩), .int .i64 j, .pointer (some ⟨p, 0, none⟩), .int .i64 k] m a s (curT s j c cur') (.tuple #[.int .i64 0, .int .i64 5]) from hD)
    have HD2 := ak (show Do 117 #[.pointer (some ⟨m, 0, none⟩), .int .i64 j, .pointer (some ⟨p, 0, none⟩), .int .i64 k] m a (relvS (curT s j c cur') j { c with cur := cur' }) s2 (.tuple #[.int .i64 0, .int .i64 5]) from hD2)
    have HRV := ak (relieve_own E t H m a (curT s j c cur') j p _ hp hc1 hI1)
    clear h hg hp hc hL hD hD2 hM hM2 hS hS2 hT hT2 hz hI hI1 hI2 hc1 hc2
    go_enter Tryz.func62, Tryz.ntmps62
    go_upto_region 4 with (go_at_call 115; (with_reducible refine (HOF.1 _ HG.1.g).mono ?_); rintro e_ w1 ⟨rfl, hb⟩; have HB1 := ak hb; clear hb)
    have hm1 := HM.1.below HB1.1
    obtain ⟨cb, k1, k2⟩ := hm1.cpuK HX.1.1 HX.1.2.1
    have p5 := k1.blk.at 5 (.pointer (some ⟨cb, 0, none⟩)) rfl
    have HPO := ak (cache_empty κ (150 + 6 * j + 1) cb k hcl c.L HX.1.2.2 w1 k2)
    have HK := ak (And.intro hm1 k1)
    have HG1 := ak (HG.1.upd (I := fun _ => False) (Upd.of_below κ HB1.1) (fun h => h))
    clear hm1 k1 k2 HG HM
    go_upto_region 8 with (first | (go_at_call 116; (with_reducible refine HPO.1.mono ?_); rintro e_ w2 ⟨rfl, hw2⟩; have hw2 := hw2.symm; subst hw2; clear p5) | (go_at_call 117; (with_reducible refine (HD.1.run κ _ HG1.1 HK.1.1).mono ?_); rintro e_ w2 ⟨rfl, κ2, q1, q2⟩; have HM2 := ak q1; have HG2 := ak (HG1.1.upd q2 (by omega)); have HU2 := ak ((Upd.of_below (I := fun z => 1 ≤ z) κ HB1.1).then q2 (fun _ e => e)); clear q1 q2))
    clear HK HG1 HPO HB1
    go_wp2_with (first | (go_at_call 118; (with_reducible refine (HRV.1.run κ2 _ HG2.1 HM2.1).mono ?_); rintro e_ w4 ⟨rfl, κ4, q1, q2⟩; have HM4 := ak q1; have HG4 := ak (HG2.1.upd q2 (by omega)); have HU4 := ak (HU2.1.then q2 (fun _ e => e)); clear q1 q2) | (go_at_call 117; (with_reducible refine (HD2.1.run κ4 _ HG4.1 HM4.1).mono ?_); rintro e_ w5 ⟨rfl, κ5, q1, q2⟩; have HM5 := ak q1; have HG5 := ak (HG4.1.upd q2 (by omega)); have HU5 := ak (HU4.1.then q2 (fun _ e => e)); clear q1 q2))
    go_ret2
    exact ⟨rfl, κ5, HM5.1, HU5.1⟩
 ·rw [List.concat_eq_append] at hL
  have hM := hI.pop hc hcl hL
  obtain ⟨y, hy⟩ := hM.hand List.mem_cons_self
  have hSx := hM.ob.cch
  obtain ⟨x, rfl⟩ : ∃ n : Nat, x = (n : Int) := by
   obtain ⟨p', hd', i', _, _, e, _⟩ := hy
   exact ⟨_, e⟩
  have hSx : Slot { s with cpus := s.cpus.set j { c with L := setL c.L k l } } (x : Int) k := hI.ob.cch j c k x hc hcl (by rw [hL]; simp)
  have HLL := ak (show l.length ≤ 8 from by have h9 := hI.ob.clen j c k hc hcl; rw [hL, List.length_append] at h9; omega)
  refine ⟨some x, _, SmallR.pop l x hL, hM.more (by omega) (by omega), fun x' hx' => (by obtain rfl := Option.some.inj hx'; exact hSx), ?_⟩
  obtain ⟨s2, hs2⟩ : ∃ s2, ({ s with cpus := s.cpus.set j { c with L := setL c.L k l } } : St) = s2 := ⟨_, rfl⟩
  have HS2 := ak hs2
  rw [hs2] at hM hSx
  rw [hs2]
  show Do _ _ _ _ _ (zS s2 x (clS k)) (takV (some x))
  clear hy y
  intro κ w hg h
  have HO2 := hM.onPage hSx
  obtain ⟨fr, hfr⟩ : ∃ fr, frOf s2 x = fr := ⟨_, rfl⟩
  rw [hz] at HO2 ⊢
  rw [hfr] at HO2
  have HO2 := ak HO2
  have HFR := ak hfr
  have HM := ak h
  have HG := ak hg
  have HX := ak (And.intro hp (And.intro hc hL))
  clear h hg hp hc hL hfr hM hI hz hSx hs2
  go_enter Tryz.func62, Tryz.ntmps62
  go_upto_region 4 with (go_at_call 115; (with_reducible refine (HOF.1 _ HG.1.g).mono ?_); rintro e_ w1 ⟨rfl, hb⟩; have HB1 := ak hb; clear hb)
  have hm1 := HM.1.below HB1.1
  obtain ⟨cb, k1, k2⟩ := hm1.cpuK HX.1.1 HX.1.2.1
  have p5 := k1.blk.at 5 (.pointer (some ⟨cb, 0, none⟩)) rfl
  have HPO := ak (cache_pop κ (150 + 6 * j + 1) cb k hcl c.L l (x : Int) HX.1.2.2 (by have := HLL.1; omega) w1 k2)
  have HK := ak (And.intro hm1 k1)
  have HG1 := ak (HG.1.upd (I := fun _ => False) (Upd.of_below κ HB1.1) (fun h => h))
  clear hm1 k1 k2 HG HM
  go_upto_region 12 with (go_at_call 116; (with_reducible refine HPO.1.mono ?_); rintro e_ w2 ⟨rfl, q1, q2⟩; have HQ := ak (And.intro q1 q2); clear q1 q2)
  have hj16 : j < 16 := Nat.lt_of_lt_of_le (List.getElem?_eq_some_iff.1 HX.1.2.1).1 HK.1.1.hcp
  have hU2 : Upd (fun z => 150 + 6 * j ≤ z ∧ z < 156 + 6 * j) κ w1 κ w2 := HQ.1.2.mono (fun c e => by omega)
  have hm2 := HK.1.1.putCpu (c' := { c with L := setL c.L k l }) HX.1.1 HX.1.2.1 ⟨cb, HK.1.2.upd HQ.1.2 (by omega), HQ.1.1⟩ hU2
  rw [HS2.1] at hm2
  have HM2 := ak hm2
  have HG2 := ak (HG1.1.upd hU2 (by omega))
  have HU2 := ak ((Upd.of_below (I := fun z => 1 ≤ z) κ HB1.1).then hU2 (fun c e => by omega))
  clear HB1 HK HG1 HQ hU2 p5 hj16 hm2
  go_upto_region 15 with (go_at_call 119; (with_reducible refine (HSZ.1 _ HG2.1.g).mono ?_); rintro e_ w3 ⟨rfl, hb⟩; have HM3 := ak (HM2.1.below hb); have HU3 := ak (HU2.1.below hb); clear hb)
  have c4 := HM3.1.c4
  have hmk := make_bytes z (by omega)
  clear HM2 HG2 HU2
  refine st_ 11 (fun w' => w'.cell? ⟨m, 4, none⟩ = some (.pointer (some ⟨a.mem, 0, none⟩))) [8] (c4) (fun hHeld => ?_)
  have hd_ := below_drew (RowKit.Below.refl w3.heap.size w3)
  have n0_ := ak (HM3.1.below hd_)
  have n1_ := ak (HU3.1.below hd_)
  clear HM3 HU3 c4 hd_
  have HM3 := n0_
  have HU3 := n1_
  clear n0_ n1_
  have c4 := HM3.1.c4
  generalize w3.drew = wd at *
  refine pu_ 0 66 1 ?_
  refine pu_ 1 67 3 ?_
  refine pu_ 2 68 7 ?_
  refine pu_ 3 69 15 ?_
  refine pu_ 5 71 47 ?_
  refine pu_ 6 72 111 ?_
  refine ta_ 4 70 127 hHeld ?_
  refine one_ (i := 7) (N := some 73) (bz 11 255) rfl rfl (by kernel_rfl) (by decide) (fun K hK => ?_)
  refine va_ ?_
  have hUm : Upd (fun _ => False) κ wd (κ.ext wd.heap.size 0) (wd.alloc (.cells (bv (List.replicate z 0)) 5)) := (Upd.of_below κ (below_alloc (RowKit.Below.refl _ _) _)).paint _ _ (Nat.le_refl _)
  have HMM := ak (HM3.1.upd hUm (fun _ _ h => h))
  have HUM := ak (HU3.1.then hUm (fun _ h => h.elim))
  have HBM := ak (BlkK.new κ wd 0 (bv (List.replicate z 0)) 5)
  refine hK.out _ _ (HMM.1.c4) (fun hHeld => ?_)
  clear hK K
  refine no_ 73 ?_
  refine last_ (i := 8) (N := some 74) (bz 11 511) rfl rfl (by kernel_rfl) (by decide) (fun K hK => ?_)
  have HWR := ak (by have h_ := mem_write1 (κ.ext wd.heap.size 0) 3 a.mem s2.f (s2.n * s2.f) s2.pn s2.l (List.replicate z 0) s2.pf s2.pg x fr z (some ⟨wd.heap.size, 0, none⟩) HO2.1.N (by simp) (by simp only [List.length_replicate]; exact HO2.1.max) (by simp only [List.length_replicate]; omega) (by simp only [List.length_replicate]; exact HO2.1.fit) HO2.1.f HO2.1.lt _ HMM.1.mem (RdS.blk HBM.1 (by omega) (by simp only [List.length_replicate]; omega)); rw [List.length_replicate] at h_; exact h_)
  refine goes_ Tryz.func66 (by kernel_rfl) rfl #[.pointer (some ⟨a.mem, 0, none⟩), .int .i64 x, .slice (some ⟨wd.heap.size, 0, none⟩) z z] (by rfl) rfl rfl (by simp only [List.map_toArray, List.map_cons, List.map_nil]; rfl) ?_
  with_reducible refine (HWR.1).mono ?_
  rintro e_ w5 ⟨rfl, q1_⟩
  refine ⟨_, rfl, ?_⟩
  have HR := ak q1_
  clear q1_
  refine hK.out _ _ ?_
  clear hK K
  refine no_ 74 ?_
  refine pu_ 9 8 1023 ?_
  refine pu_ 10 9 2047 ?_
  refine done_ (by kernel_rfl) ?_
  go_wp2_with fail
  go_ret2
  obtain ⟨κ3, g1, g2⟩ := HR.1
  have hm5 := HMM.1.putMem _ _ _ _ g1 (g2.mono (fun c e => by omega))
  rw [← HFR.1] at hm5
  exact ⟨rfl, κ3, hm5, HUM.1.then g2 (fun c e => by omega)⟩
end Go.Proofs.YtenkdmloolbdaaaGreatDoor.T
end
