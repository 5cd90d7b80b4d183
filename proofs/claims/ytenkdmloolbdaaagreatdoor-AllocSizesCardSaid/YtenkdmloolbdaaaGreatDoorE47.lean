import Derived.Test.YtenkdmloolbdaaaGreatDoorE45
import Derived.Test.YtenkdmloolbdaaaGreatDoorE46
set_option linter.unusedVariables false
set_option linter.unusedSimpArgs false
set_option maxHeartbeats 8000000
set_option maxRecDepth 100000
section
namespace Go.Proofs.YtenkdmloolbdaaaGreatDoor.T
open Go.RowKit Go.Maps Go.WideShapes Go.Proofs.YtenkdmloolbdaaaGreatDoorW.PrintWords Go.Proofs.YtenkdmloolbdaaaGreatDoorW.PrintLast Go.Proofs.YtenkdmloolbdaaaGreatDoorW.PrintMore
theorem touches_one {j q : Nat} {s : St} {ok : Bool} {s' : St} (h : Touches j q 1 s ok s') : ∃ c, s.cpus[j]? = some c ∧ TouchR s j c q ok s' := by
 cases h with
 | cons _ _ _ c s1 _ _ hc h1 h2 =>
  cases h2
  exact ⟨c, hc, h1⟩
 | stop _ _ _ c s1 hc h1 => exact ⟨c, hc, h1⟩
theorem TakR.cs {s : St} {j : Nat} {c : Cpu} {cls : Nat} {r : Option Nat} {s' : St} (h : TakR s j c cls r s') : s'.cs = s.cs := by
 cases h <;> rfl
theorem beg_malloc (n f q j n1 : Nat) (h1 : 1 ≤ n) (h4 : n ≤ 4) (hf : f ∈ [8, 16, 32]) (hq : q ≤ 2) (hj : j ≤ n) {res : Option Nat} {s1 : St} (h : MallocR (begU n f q) j (newCpu (ndN n j)) n1 res s1) :
 ∃ x, res = some x ∧ s1.cs = (begU n f q).cs ∧ s1.live = putF (fun _ => none) (x : Int) (n1 : Int) ∧ (64 < n1 → s1.bs = (begU n f q).bs ∧ s1.bm = (begU n f q).bm ∧ s1.cpus = (begU n f q).cpus ∧ acqV s1 j (newCpu (ndN n j)) 0 0 0 0 = ((ndN n j : Int), (ndN n j : Int), 0, 0)) := by
 have hno : ∀ cls, cls < 4 → ∀ s', ¬ TakR (begU n f q) j (newCpu (ndN n j)) cls none s' := fun cls hcl s' hT => by
  cases hT with
  | none st cur' _ hv =>
   have hv : acqV (begU n f q) j (newCpu (ndN n j)) 0 0 0 (clO cls) = (0, (st : Int), cur', 5) := hv
   rw [beg_acq n f q j (clO cls) h1 h4 hf hq hj ((by decide : ∀ c, c < 4 → clO c ≤ 2) cls hcl)] at hv
   exact absurd (congrArg (fun z => z.2.2.2) hv) (show ¬ ((0 : Int) = 5) by decide)
 have hcl := clof_lt n1
 have hcur : ∀ cur' s', curT (begU n f q) j (newCpu (ndN n j)) cur' = s' → True := fun _ _ _ => trivial
 have hsm : ∀ {r : Option Nat} {s' : St}, SmallR (begU n f q) j (newCpu (ndN n j)) (clOf n1) r s' → ∃ x, r = some x ∧ s'.cs = (begU n f q).cs ∧ s'.live = (begU n f q).live := fun {r s'} hS => by
  cases hS with
  | pop l x hl =>
   have hl : ([] : List Int) = l ++ [(x : Int)] := hl
   simp at hl
  | tak x s' _ hT => exact ⟨x, rfl, hT.cs, hT.live⟩
  | again cur' res s' _ hT _ => exact absurd hT (hno _ hcl _)
 cases h with
 | small x s1 h64 hS =>
  obtain ⟨y, _, hcs, hl⟩ := hsm hS
  refine ⟨x, rfl, hcs, ?_, fun hh => by omega⟩
  show putF s1.live _ _ = _
  rw [hl]
  rfl
 | fail s1 h64 hS =>
  obtain ⟨y, hy, _⟩ := hsm hS
  cases hy
 | large page l h64 ht => exact ⟨64 * page, rfl, rfl, rfl, fun _ => ⟨rfl, rfl, rfl, beg_acq n f q j 0 h1 h4 hf hq hj (by omega)⟩⟩
structure SizeR (j o : Nat) (m : Nat) (a : Ad) (s0 : St) (x fr : Nat) (s1 s3 : St) : Prop where
 mal : Do 21 #[.pointer (some ⟨m, 0, none⟩), .int .i64 j, .int .i64 ((o + 1 : Nat) : Int)] m a s0 s1 (.tuple #[.int .i64 x, .int .i64 0])
 l1 : s1.live = putF (fun _ => none) (x : Int) ((o + 1 : Nat) : Int)
 l3 : s3.live = putF (fun _ => none) (x : Int) ((o + 1 : Nat) : Int)
 wr : ∀ B cb, 1 ≤ cb → DoesW j x o B 1 cb [9] m a s1 s3
 on : OnPage s3 (x + o) 1 fr
 rd : (s3.l.drop (fr * 64 + (x + o) % 64)).take 1 = [9]
theorem size_run [SortI] (n f q j o m p : Nat) (a : Ad) (h1 : 1 ≤ n) (h4 : n ≤ 4) (hf : f ∈ [8, 16, 32]) (hq : q ≤ 2) (hj : j ≤ n) (ho : o + 1 ≤ 1024) (hp : a.cps[j]? = some p) : ∃ x fr s1 s3, SizeR j o m a (begU n f q) x fr s1 s3 := by
 have hI := Mi.beg n f q h1 h4 hf
 obtain ⟨res, s1, hR, hM, hD⟩ := malloc_any 0 1 [] m a (begU n f q) j p (newCpu (ndN n j)) (o + 1) (by omega) ho (by omega) (by omega) hp (beg_cpu n f q j hj) hI
 obtain ⟨x, rfl, hcs1, hlv, hlg⟩ := beg_malloc n f q j (o + 1) h1 h4 hf hq hj hR
 have hlx : s1.live (x : Int) = some ((o + 1 : Nat) : Int) := by rw [hlv]; exact if_pos rfl
 obtain ⟨c1, hc1⟩ : ∃ c1, s1.cpus[j]? = some c1 := by
  have : j < s1.cpus.length := by
   rw [hM.co.cpl, hcs1]
   show j < (topC n).length
   rw [topC_len]
   omega
  exact ⟨_, List.getElem?_eq_getElem this⟩
 obtain ⟨ok, s2, hT, hM2, hD2⟩ := reach_any (0 + 1) (1 + 16) [] m a s1 j p c1 x o 1 (o + 1) (by omega) (by omega) hp hc1 hM hlx (Nat.le_refl _) (Nat.le_refl _)
 rw [show (x + o + 1 - 1) / 64 + 1 - (x + o) / 64 = 1 from by omega] at hT
 obtain ⟨c, hc, hT⟩ := touches_one hT
 obtain ⟨k1, k2, k3, k4⟩ := hM.ob.live _ _ hlx
 have hxl := hM.lives (x : Int) (by rw [hlx]; rfl)
 have hok : ok = true := by
  cases ok with
  | true => rfl
  | false =>
   exfalso
   by_cases h64 : o + 1 ≤ 64
   ·have hs := k3 (by omega)
    rw [Int.toNat_natCast] at hs
    have hon := hM.onPage hs
    have g1 := clof_ge (o + 1) h64
    have g2 := hon.fit
    cases hT with
    | fail st0 cur0 st1 cur1 hn _ _ =>
     have e := hon.f
     rw [show x / 64 = (x + o) / 64 from by omega, hn] at e
     cases e
   ·obtain ⟨e1, e2, e3, e4⟩ := hlg (by omega)
    rw [e3, beg_cpu n f q j hj] at hc
    obtain rfl := Option.some.inj hc
    cases hT with
    | fail st0 cur0 st1 cur1 hn hv _ =>
     have hb : s1.bm (((x + o) / 64 : Nat) : Int) = none := by rw [e2]; rfl
     unfold polOf at hv
     rw [hb] at hv
     have hv : acqV s1 j (newCpu (ndN n j)) 0 0 0 0 = (0, (st0 : Int), cur0, 5) := hv
     rw [e4] at hv
     exact absurd (congrArg (fun z => z.2.2.2) hv) (show ¬ ((0 : Int) = 5) by decide)
 subst hok
 obtain ⟨f0, hf0⟩ := hT.maps
 obtain ⟨b1, b2, q9, n9, b3, b4, b5⟩ := hM2.fr.dom _ _ hf0
 obtain ⟨fr, rfl⟩ : ∃ fr : Nat, f0 = (fr : Int) := ⟨f0.toNat, by omega⟩
 have hl2 : s2.live = s1.live := hT.live hM hc
 have hN : s2.n * s2.f ≤ 8 * 1024 := Nat.mul_le_mul hM2.co.n8 (p2_le _ hM2.co.f2).2
 have hmx : x + o + 1 ≤ 262144 := by
  by_cases h64 : o + 1 ≤ 64
  ·have hs := k3 (by omega)
   rw [Int.toNat_natCast] at hs
   have hon := hM.onPage hs
   have g1 := clof_ge (o + 1) h64
   have := hon.max
   omega
  ·obtain ⟨pg, e1, e2, e3⟩ := k4 (by omega)
   have htop := hM.co.top _ e2
   have hpq : pgs ((o + 1 : Nat) : Int) = (((o + 1 : Nat) : Int) + 63) / 64 := rfl
   simp only at htop
   omega
 have hon : OnPage s2 (x + o) 1 fr := ⟨hf0, by omega, by omega, hmx, by omega, hM2.fr.len⟩
 refine ⟨x, fr, s1, { s2 with l := spliceB s2.l (fr * 64 + (x + o) % 64) [9] }, hD, hlv, hl2.trans hlv, fun B cb hcb => write_do m a s1 s2 j x o fr cb B [9] (Nat.le_refl _) hcb hD2 hon, ⟨hon.f, hon.lt, hon.fit, hon.max, hon.N, ?_⟩, ?_⟩
 ·have hb := (fr * 64 + (x + o) % 64)
  show (spliceB _ _ _).length = s2.n * s2.f * 64
  rw [splice_len _ _ _ ?_, hon.len]
  rw [hon.len]
  have h2 : (fr + 1) * 64 ≤ s2.n * s2.f * 64 := Nat.mul_le_mul_right _ hon.lt
  simp only [List.length_cons, List.length_nil]
  omega
 ·refine splice_at s2.l _ 1 [9] ?_ (Nat.le_refl _)
  rw [hon.len]
  have h2 : (fr + 1) * 64 ≤ s2.n * s2.f * 64 := Nat.mul_le_mul_right _ hon.lt
  omega
theorem mod_1024 (k : Int) : ∃ n : Nat, wrap64 (1 + wrap64 ((IntKind.u64.wrap k).tmod 1024)) = (n : Int) ∧ 1 ≤ n ∧ n ≤ 1024 := by
 have h0 : 0 ≤ IntKind.u64.wrap k := by rw [IntKind.wrap_u64]; omega
 have h1 := Int.tmod_nonneg 1024 h0
 have h2 := Int.tmod_lt_of_pos (IntKind.u64.wrap k) (show (0 : Int) < 1024 by omega)
 generalize (IntKind.u64.wrap k).tmod 1024 = x at h1 h2
 refine ⟨(1 + x).toNat, ?_, by omega, by omega⟩
 rw [IntWalk.wrap64_in x ⟨by omega, by omega⟩, IntWalk.wrap64_in (1 + x) ⟨by omega, by omega⟩]
 omega
section
variable {w0 w : World} {κ μ : Kol} {b m mo nc : Nat} {t : Top} {a : Ad} {s0 s1 s3 : St} {j o n1 x fr p : Nat}
theorem sz_m (hS : SizeR j o m a s0 x fr s1 s3) (hn : n1 = o + 1) (h : LawK w0 κ μ w b m mo nc t a s0 []) :
 Calls Tryz.prog 21 #[.pointer (some ⟨m, 0, none⟩), .int .i64 j, .int .i64 n1] w fun e w' => e = .returned (.tuple #[.int .i64 x, .int .i64 0]) ∧ ∃ κ' μ', LawK w0 κ' μ' w' b m mo nc t a s1 [] := by
 subst hn
 refine (hS.mal.run κ w h.glob h.mach).mono ?_
 rintro e w' ⟨rfl, κ', q1, q2⟩
 exact ⟨rfl, κ', _, h.stepM q1 q2⟩
theorem sz_s (hS : SizeR j o m a s0 x fr s1 s3) (hn : n1 = o + 1) (h : LawK w0 κ μ w b m mo nc t a s1 []) :
 Calls Tryz.prog 22 #[.pointer (some ⟨m, 0, none⟩), .int .i64 x] w fun e w' => e = .returned (.tuple #[.int .i64 n1, .int .i64 0]) ∧ w' = w := by
 subst hn
 have := msize_own κ m a s1 (x : Int) (i64o _ (by omega) (by have := hS.on.max; omega)) w h.mach
 rw [hS.l1, show putF (fun _ => none) (x : Int) ((o + 1 : Nat) : Int) (x : Int) = some ((o + 1 : Nat) : Int) from if_pos rfl] at this
 exact this
theorem sz_w (hS : SizeR j o m a s0 x fr s1 s3) (h : LawK w0 κ μ w b m mo nc t a s1 []) :
 Calls Tryz.prog 23 #[.pointer (some ⟨m, 0, none⟩), .int .i64 j, .int .i64 x, .int .i64 o, .slice (some ⟨w.heap.size, 0, none⟩) 1 1] (w.alloc (.cells #[.int .u8 9] 5)) fun e w' => e = .returned (.int .i64 0) ∧ ∃ κ' μ', LawK w0 κ' μ' w' b m mo nc t a s3 [] := by
 rw [show (#[Value.int .u8 9] : Array Value) = bv [9] from rfl]
 have h1 := h.row (.cells (bv [9]) 5)
 refine (hS.wr (some ⟨w.heap.size, 0, none⟩) 1 (Nat.le_refl _) _ _ h1.glob h1.mach (RdS.mark κ w [9] (by simp) 5 (0, 0))).mono ?_
 rintro e w' ⟨rfl, κ', q1, q2⟩
 exact ⟨rfl, κ', _, h1.stepM q1 q2⟩
theorem sz_live (hS : SizeR j o m a s0 x fr s1 s3) : s3.live (x : Int) = some ((o + 1 : Nat) : Int) := by rw [hS.l3]; exact if_pos rfl
theorem sz_e (hS : SizeR j o m a s0 x fr s1 s3) (ho : o ≤ 1024) (hp : a.cps[j]? = some p) (hn : n1 = o + 1) (B : Option Addr) (h : LawK w0 κ μ w b m mo nc t a s3 []) :
 Calls Tryz.prog 23 #[.pointer (some ⟨m, 0, none⟩), .int .i64 j, .int .i64 x, .int .i64 n1, .slice B 1 1] w fun e w' => e = .returned (.int .i64 7) ∧ w' = w := by
 subst hn
 exact write_er m j x ((o + 1 : Nat) : Int) 7 B 1 1 (by decide) w (reach_bound κ m a s3 j p x ((o + 1 : Nat) : Int) ((1 : Nat) : Int) (o + 1) hp (i64o _ (by omega) (by have := hS.on.max; omega)) (by omega) (sz_live hS) (i64o _ (by omega) (by omega)) (i64o _ (by omega) (by omega)) (by omega) w h.mach)
theorem sz_z (hS : SizeR j o m a s0 x fr s1 s3) (ho : o ≤ 1024) (hp : a.cps[j]? = some p) (hn : n1 = o + 1) (h : LawK w0 κ μ w b m mo nc t a s3 []) :
 Calls Tryz.prog 23 #[.pointer (some ⟨m, 0, none⟩), .int .i64 j, .int .i64 x, .int .i64 n1, .slice none 0 0] w fun e w' => e = .returned (.int .i64 0) ∧ ∃ κ' μ', LawK w0 κ' μ' w' b m mo nc t a s3 [] := by
 subst hn
 refine (write_zero κ m a s3 j p x (o + 1) (o + 1) 0 none hp (by have := hS.on.max; omega) (sz_live hS) (Nat.le_refl _) (by omega) hS.on.N w h.mach).mono ?_
 rintro e w' ⟨rfl, κ', q1, q2⟩
 exact ⟨rfl, κ', _, h.stepM q1 (q2.mono (fun c e => by have e : c = 4 := e; show 1 ≤ c; omega))⟩
theorem sz_r (hS : SizeR j o m a s0 x fr s1 s3) (ho : o ≤ 1024) (hp : a.cps[j]? = some p) (h : LawK w0 κ μ w b m mo nc t a s3 []) :
 Calls Tryz.prog 24 #[.pointer (some ⟨m, 0, none⟩), .int .i64 j, .int .i64 x, .int .i64 o, .int .i64 (1 : Int)] w fun e w' => ∃ g cp, e = .returned (.tuple #[.slice (some g) 1 cp, .int .i64 0]) ∧ w'.cell? g = some (.int .u8 (9 : Int)) ∧ RowKit.Below w.heap.size w w' := by
 refine (read_own κ m a s3 j p x o 1 (o + 1) fr hp (Nat.le_refl _) ⟨sz_live hS, by omega, Nat.le_refl _, hS.on⟩ w h.mach).mono ?_
 rintro e w' ⟨A, cp, rfl, q1, q2⟩
 rw [hS.rd] at q1
 obtain ⟨g, rfl, hg⟩ := q1.cell (by decide)
 have h0 := hg 0 9 rfl
 rw [show g.add 0 = g from by unfold Addr.add; split <;> simp_all] at h0
 exact ⟨g, cp, rfl, h0, q2⟩
theorem sz_r2 (hS : SizeR j o m a s0 x fr s1 s3) (ho : o ≤ 1024) (hp : a.cps[j]? = some p) (h : LawK w0 κ μ w b m mo nc t a s3 []) :
 Calls Tryz.prog 24 #[.pointer (some ⟨m, 0, none⟩), .int .i64 j, .int .i64 x, .int .i64 o, .int .i64 (2 : Int)] w fun e w' => e = .returned (.tuple #[.slice none 0 0, .int .i64 7]) ∧ w' = w :=
 read_er m j x o 2 7 (by decide) w (reach_bound κ m a s3 j p x o 2 (o + 1) hp (i64o _ (by omega) (by have := hS.on.max; omega)) (by omega) (sz_live hS) (i64o _ (by omega) (by omega)) (i64o _ (by omega) (by omega)) (by omega) w h.mach)
theorem sz_r3 (hS : SizeR j o m a s0 x fr s1 s3) (hp : a.cps[j]? = some p) (h : LawK w0 κ μ w b m mo nc t a s3 []) :
 Calls Tryz.prog 24 #[.pointer (some ⟨m, 0, none⟩), .int .i64 j, .int .i64 ((x : Int) + 1), .int .i64 (0 : Int), .int .i64 (0 : Int)] w fun e w' => e = .returned (.tuple #[.slice none 0 0, .int .i64 6]) ∧ w' = w :=
 read_er m j ((x : Int) + 1) 0 0 6 (by decide) w (reach_bad κ m a s3 j p ((x : Int) + 1) 0 0 hp (i64o _ (by omega) (by have := hS.on.max; omega)) (by rw [hS.l3]; exact if_neg (by omega)) w h.mach)
theorem sz_r4 (hS : SizeR j o m a s0 x fr s1 s3) (ho : o ≤ 1024) (hp : a.cps[j]? = some p) (h : LawK w0 κ μ w b m mo nc t a s3 []) :
 Calls Tryz.prog 24 #[.pointer (some ⟨m, 0, none⟩), .int .i64 j, .int .i64 x, .int .i64 (-1 : Int), .int .i64 (1 : Int)] w fun e w' => e = .returned (.tuple #[.slice none 0 0, .int .i64 7]) ∧ w' = w :=
 read_er m j x (-1) 1 7 (by decide) w (reach_bound κ m a s3 j p x (-1) 1 (o + 1) hp (i64o _ (by omega) (by have := hS.on.max; omega)) (by omega) (sz_live hS) (by constructor <;> decide) (i64o _ (by omega) (by omega)) (.inl (by decide)) w h.mach)
end
theorem sizes_own [SortI] (k0 k1 : Int) (w : World) (hg : GlobR w) :
 Calls Tryz.prog 4 #[.int .i64 k0, .int .i64 k1] w fun e w' => e = .returned (.bool true) ∧ RowKit.Below w.heap.size w w' := by
 obtain ⟨n1, hn1, h1, h2⟩ := mod_1024 k0
 obtain ⟨j, hj, hj2⟩ := least_k k1
 obtain ⟨o, ho⟩ : ∃ o, n1 = o + 1 := ⟨n1 - 1, by omega⟩
 have HBG := ak (law_begin 1 2 0 2 32 0 (by decide +kernel) (by omega) (by omega) (by simp) (fun W => rfl) (by decide +kernel) (by omega) w hg)
 have HN1 := ak hn1
 have HJ := ak hj
 have HO := ak (And.intro ho (show o + 1 ≤ 1024 by omega))
 have HI := ak (And.intro h1 (And.intro h2 hj2))
 clear hg hn1 hj ho h1 h2 hj2
 go_enter Tryz.func4, Tryz.ntmps4
 go_upto_region 2 with (go_at_call 15; (with_reducible refine HBG.1.mono ?_); rintro e_ w1 ⟨κ1, μ1, b, m, mo, A1, ca1, B1, cb1, a, rfl, h1⟩; have HL1 := ak (h1.begU (by omega) (by omega) (by simp)); clear h1)
 clear HBG
 go_upto_region 4 with (go_at_call 16; (with_reducible refine (gives_own w1 (HL1.1.gl.below HL1.1.bel)).mono ?_); rintro e_ w2 ⟨rfl, h2⟩; have HL2 := ak (HL1.1.below h2); clear h2)
 have x4 : w2.cell? ⟨b, 4, none⟩ = some (.slice A1 3 ca1) := HL2.1.box.blk.at 4 _ rfl
 go_upto_region 6 with fail
 clear x4
 rw [HN1.1, HJ.1]
 clear HN1 HJ
 have hlen : (begU 2 32 0).cpus.length = 3 := by show ((topC 2).map newCpu).length = 3; rw [List.length_map, topC_len]
 obtain ⟨p, hp⟩ := HL2.1.mach.cps j (by rw [hlen]; have := HI.1.2.2; omega)
 obtain ⟨x, fr, s1, s3, hS⟩ := size_run 2 32 0 j o m p a (by omega) (by omega) (by simp) (by omega) HI.1.2.2 HO.1.2 hp
 obtain ⟨T, hT⟩ : ∃ T, begT 2 32 A1 ca1 B1 cb1 = T := ⟨_, rfl⟩
 obtain ⟨s0, hs0⟩ : ∃ s0, begU 2 32 0 = s0 := ⟨_, rfl⟩
 rw [hT, hs0] at HL2
 rw [hs0] at hS
 have HS := ak hS
 have HP := ak hp
 have hx : (0 : Int) ≤ (x : Int) ∧ (x : Int) ≤ 900000 := by have := hS.on.max; omega
 have e1 : wrap64 ((n1 : Int) - 1) = (o : Int) := by have g1 := HO.1.1; have g2 := HO.1.2; rw [w64 ((n1 : Int) - 1) (by omega)]; omega
 have e2 : wrap64 ((x : Int) + 1) = (x : Int) + 1 := w64 _ (by omega)
 clear hlen hp hS hT hs0 HL1 hx
 have HE := ak (And.intro e1 e2)
 clear e1 e2
 have x0 := HL2.1.x0
 go_upto_region 8 with (first | (go_at_call 21; (with_reducible refine (sz_m HS.1 HO.1.1 HL2.1).mono ?_); rintro e_ w3 ⟨rfl, κ3, μ3, h3⟩; have HL3 := ak h3; clear x0 h3; have x0 := HL3.1.x0) | (go_at_call 22; (with_reducible refine (sz_s HS.1 HO.1.1 HL3.1).mono ?_); rintro e_ w4 ⟨rfl, hw4⟩; have hw4 := hw4.symm; subst hw4))
 have e1 := HE.1.1
 have ho : o ≤ 1024 := by have := HO.1.2; omega
 have HOO := ak ho
 clear ho
 go_upto_region 10 with (first | (go_at_call 23; (with_reducible refine (sz_w HS.1 HL3.1).mono ?_); rintro e_ w5 ⟨rfl, κ5, μ5, h5⟩; have HL5 := ak h5; clear x0 h5; have x0 := HL5.1.x0) | (go_at_call 23; (with_reducible refine (sz_e HS.1 HOO.1 HP.1 HO.1.1 _ (HL5.1.row _)).mono ?_); rintro e_ w6 ⟨rfl, hw6⟩; have HL6 := ak (show LawK w _ _ w6 b m mo 3 T a s3 [] from by rw [hw6]; exact HL5.1.row _); clear x0 hw6; have x0 := HL6.1.x0) | (go_at_call 23; (with_reducible refine (sz_z HS.1 HOO.1 HP.1 HO.1.1 HL6.1).mono ?_); rintro e_ w7 ⟨rfl, κ7, μ7, h7⟩; have HL7 := ak h7; clear x0 h7; have x0 := HL7.1.x0))
 go_upto_region 12 with (first | (go_at_call 24; (with_reducible refine (sz_r HS.1 HOO.1 HP.1 HL7.1).mono ?_); rintro e_ w8 ⟨g, cp, rfl, hg, hb⟩; have HL8 := ak (HL7.1.below hb); clear x0 hb; have x0 := HL8.1.x0) | (go_at_call 24; (with_reducible refine (sz_r2 HS.1 HOO.1 HP.1 HL8.1).mono ?_); rintro e_ w9 ⟨rfl, hw9⟩; have hw9 := hw9.symm; subst hw9))
 clear e1
 have e2 := HE.1.2
 go_upto_region 13 with (go_at_call 24; (with_reducible refine (sz_r3 HS.1 HP.1 HL8.1).mono ?_); rintro e_ w10 ⟨rfl, hw10⟩; have hw10 := hw10.symm; subst hw10)
 clear e2
 go_wp2_with (go_at_call 24; (with_reducible refine (sz_r4 HS.1 HOO.1 HP.1 HL8.1).mono ?_); rintro e_ w11 ⟨rfl, hw11⟩; have hw11 := hw11.symm; subst hw11)
 go_ret
 exact ⟨rfl, HL8.1.bel⟩
end Go.Proofs.YtenkdmloolbdaaaGreatDoor.T
end
