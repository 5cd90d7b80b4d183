import Derived.Test.YtenkdmloolbdaaaGreatDoorE41
import Derived.Test.YtenkdmloolbdaaaGreatDoorE44
set_option linter.unusedVariables false
set_option linter.unusedSimpArgs false
set_option maxHeartbeats 8000000
set_option maxRecDepth 100000
section
namespace Go.Proofs.YtenkdmloolbdaaaGreatDoor.T
open Go.RowKit Go.Maps Go.WideShapes Go.Proofs.YtenkdmloolbdaaaGreatDoorW.PrintWords Go.Proofs.YtenkdmloolbdaaaGreatDoorW.PrintLast Go.Proofs.YtenkdmloolbdaaaGreatDoorW.PrintMore
theorem free_none (n : Nat) : freeT n (fun _ => none) = fun z => decide (z < n) := by
 funext z
 unfold freeT
 rw [show ((List.range n).all fun y => true) = true from List.all_eq_true.2 (fun _ _ => rfl), Bool.and_true]
theorem canon_ini_all : (p2s.all fun f => (List.range 11).all fun k => canonL f (fun z => decide (z < f)) k == iniS f k) = true := by decide +kernel
theorem canon_ini (f : Nat) (hf : f ∈ p2s) : iniS f = canonL f (fun z => decide (z < f)) := by
 funext k
 by_cases hk : k < 11
 ·exact (eq_of_beq (List.all_eq_true.1 (List.all_eq_true.1 canon_ini_all f hf) k (List.mem_range.2 hk))).symm
 ·rw [canon_big (p2_le f hf).2 (fun z hz => by simpa using hz) (by omega)]
  unfold iniS
  rw [if_neg (fun e => ?_)]
  have h1 := (p2_le f hf).2
  have h2 : 2 ^ 11 ≤ 2 ^ k := Nat.pow_le_pow_right (by decide) (by omega)
  omega
def newT (n f : Nat) (cs : List Int) (ds : List (List Int)) (mn lo hi : Int) : St :=
 { newS n f cs ds mn lo hi with pn := 8192, sn := 4096, ln := 262144, bs := List.replicate n ⟨f, iniS f, fun _ => none⟩ }
theorem tk_none (n : Nat) : TkOK n (fun _ => none) := ⟨fun y o h => (by cases h), fun y y' k k' h => (by cases h)⟩
theorem bud_fresh (f : Nat) (hf : f ∈ p2s) : BudI f ⟨f, iniS f, fun _ => none⟩ := ⟨hf, rfl, tk_none f, by show iniS f = canonL f (freeT f fun _ => none); rw [free_none, canon_ini f hf]⟩
theorem pol_zero (n : Nat) (h1 : 1 ≤ n) (h8 : n ≤ 8) : PolI n 0 0 0 := ⟨by decide, (by decide : ∀ k, k < 9 → 1 ≤ k → TZ.polR 0 0 0 (k : Nat) = 0) n (by omega) h1⟩
theorem Mi.new {n f : Nat} {cs : List Int} {ds : List (List Int)} {mn lo hi : Int} (hchk : TZ.chk n f cs ds = 0) (h1 : 1 ≤ n) (h8 : n ≤ 8) (hf : f ∈ p2s) (hc16 : cs.length ≤ 16) (m0 : 0 ≤ mn) : Mi 0 1 (newT n f cs ds mn lo hi) [] := by
 have hsp : ∀ p, (newT n f cs ds mn lo hi).sp p = none := fun _ => rfl
 have hsl : ∀ x c, ¬ Slot (newT n f cs ds mn lo hi) x c := fun x c ⟨p, hd, i, k1, _⟩ => by rw [hsp] at k1; cases k1
 have hbs : ∀ (k : Nat) (x : Bud), (newT n f cs ds mn lo hi).bs[k]? = some x → x = ⟨f, iniS f, fun _ => none⟩ := fun k x hx => List.eq_of_mem_replicate (List.mem_of_getElem? hx)
 have hcp : ∀ (j : Nat) (c : Cpu), (newT n f cs ds mn lo hi).cpus[j]? = some c → ∃ x, cs[j]? = some x ∧ c = newCpu x := fun j c hc => by
  have hc : (cs.map newCpu)[j]? = some c := hc
  rw [List.getElem?_map] at hc
  obtain ⟨x, k1, k2⟩ := Option.map_eq_some_iff.1 hc
  exact ⟨x, k1, k2.symm⟩
 have hho : homes (newT n f cs ds mn lo hi) = [] := by
  unfold homes
  rw [List.append_eq_nil_iff]
  refine ⟨List.flatMap_eq_nil_iff.2 (fun c hc => ?_), List.flatten_eq_nil_iff.2 (fun q hq => List.eq_of_mem_replicate hq)⟩
  obtain ⟨j, hj⟩ := List.getElem?_of_mem hc
  obtain ⟨x, _, rfl⟩ := hcp j c hj
  rfl
 refine ⟨⟨h1, h8, hf, hchk, hc16, by show (cs.map newCpu).length = cs.length; simp, fun j c hc => ?_, m0, by show (List.replicate n []).length = n; simp, rfl, rfl, rfl, Nat.zero_le _, Nat.le_refl _, fun r hr => (by cases hr)⟩, ⟨by show (List.replicate n _).length = n; simp, fun k x hx => by rw [hbs k x hx]; exact bud_fresh f hf, by show (List.replicate _ _).length = _; rw [List.length_replicate]; rfl, trivial, fun p fr => ⟨fun h => (by cases h), fun h => (by cases h)⟩, fun p fr h => (by cases h), fun p hd h => (by rw [hsp] at h; cases h), fun k y o x hx hy => (by rw [hbs k x hx] at hy; cases hy), fun p fr h => (by cases h)⟩, ⟨fun p hd h => (by rw [hsp] at h; cases h), fun x sz h => (by cases h), fun q n h => (by cases h), by rw [hho]; exact List.nodup_nil, fun x => ⟨fun h => (by rw [hho] at h; cases h), fun ⟨⟨c, hc⟩, _⟩ => absurd hc (hsl x c)⟩, fun j c k x hc hk hx => ?_, fun j c k hc hk => ?_, fun q hq => ?_, fun p pol h => (by cases h)⟩⟩
 ·obtain ⟨x, h2, rfl⟩ := hcp j c hc
  exact ⟨h2, pol_zero n h1 h8⟩
 ·obtain ⟨x, _, rfl⟩ := hcp j c hc
  cases hx
 ·obtain ⟨x, _, rfl⟩ := hcp j c hc
  exact Nat.zero_le _
 ·rw [List.eq_of_mem_replicate hq]
  exact Nat.zero_le _
theorem MachK.newT {κ : Kol} {w : World} {m : Nat} {a : Ad} {n f : Nat} {cs : List Int} {ds : List (List Int)} {mn lo hi : Int} (h : MachK κ w m a (newS n f cs ds mn lo hi)) (hchk : TZ.chk n f cs ds = 0) (h1 : 1 ≤ n) (h8 : n ≤ 8) (hf : f ∈ p2s) (hc16 : cs.length ≤ 16) (m0 : 0 ≤ mn) : MachK κ w m a (newT n f cs ds mn lo hi) := by
 refine h.fix (Mi.new hchk h1 h8 hf hc16 m0) rfl (by show (List.replicate n _).length = (List.replicate n _).length; simp) (fun j x x' hx hx' => ?_)
 rw [List.eq_of_mem_replicate (List.mem_of_getElem? hx), List.eq_of_mem_replicate (List.mem_of_getElem? hx')]
 exact ⟨rfl, rfl⟩
def begU (n f q : Nat) : St := newT n f (topC n) (topD n) (q : Int) ((q : Int) + 1) ((q : Int) + 2)
theorem LawK.begU {w0 w : World} {κ μ : Kol} {b m mo n f q : Nat} {t : Top} {a : Ad} {l : List Ob} (h : LawK w0 κ μ w b m mo (n + 1) t a (begS n f q) l) (h1 : 1 ≤ n) (h4 : n ≤ 4) (hf : f ∈ [8, 16, 32]) : LawK w0 κ μ w b m mo (n + 1) t a (begU n f q) l :=
 { h with mach := h.mach.newT (top_chk n (by omega) h1 f hf) h1 (by omega) (top_p2 f hf).1 (by rw [topC_len]; omega) (by omega) }
theorem Mi.beg (n f q : Nat) (h1 : 1 ≤ n) (h4 : n ≤ 4) (hf : f ∈ [8, 16, 32]) : Mi 0 1 (begU n f q) [] := Mi.new (top_chk n (by omega) h1 f hf) h1 (by omega) (top_p2 f hf).1 (by rw [topC_len]; omega) (by omega)
theorem beg_cpu (n f q j : Nat) (hj : j ≤ n) : (begU n f q).cpus[j]? = some (newCpu (ndN n j)) := by
 show ((topC n).map newCpu)[j]? = _
 rw [List.getElem?_map, topC_get n j hj]
 rfl
theorem beg_acq (n f q j o : Nat) (h1 : 1 ≤ n) (h4 : n ≤ 4) (hf : f ∈ [8, 16, 32]) (hq : q ≤ 2) (hj : j ≤ n) (ho : o ≤ 2) : acqV (begU n f q) j (newCpu (ndN n j)) 0 0 0 o = ((ndN n j : Int), (ndN n j : Int), 0, 0) := by
 have hmay : mayB (q : Int) ⟨f, iniS f, fun _ => none⟩ o = true := by
  have h := (by decide +kernel : (([8, 16, 32] : List Nat).all fun f => (List.range 3).all fun q => (List.range 3).all fun o => mayB (q : Int) ⟨f, iniS f, fun _ => none⟩ o) = true)
  exact List.all_eq_true.1 (List.all_eq_true.1 (List.all_eq_true.1 h f hf) q (List.mem_range.2 (by omega))) o (List.mem_range.2 (by omega))
 have hn0 : (n == 0) = false := beq_eq_false_iff_ne.mpr (by omega)
 have hch := List.all_eq_true.1 ch_all n (List.mem_range.2 (by omega))
 rw [hn0, Bool.false_or] at hch
 have hch := eq_of_beq (List.all_eq_true.1 (List.all_eq_true.1 hch f hf) j (List.mem_range.2 (by omega)))
 show TZ.chV (n : Int) (f : Int) (topC n) (topD n) 0 0 0 (j : Int) 0 ((List.replicate n ⟨f, iniS f, fun _ => none⟩).map fun x => mayB (q : Int) x o) = _
 rw [List.map_replicate, hmay]
 exact hch
section
variable (κ : Kol) (m : Nat) (a : Ad) (s : St) (j : Nat)
theorem msize_own (x : Int) (hx : I64 x) (w : World) (h : MachK κ w m a s) :
 Calls Tryz.prog 22 #[.pointer (some ⟨m, 0, none⟩), .int .i64 x] w fun e w' => e = .returned (.tuple #[.int .i64 ((s.live x).getD 0), .int .i64 (if (s.live x).isSome = true then 0 else 6)]) ∧ w' = w := by
 have HO := ak (object_own κ m a s x hx w h)
 obtain ⟨u, hu⟩ : ∃ u, (s.live x).getD 0 = u := ⟨_, rfl⟩
 obtain ⟨v, hv⟩ : ∃ v : Int, (if (s.live x).isSome = true then 0 else 6) = v := ⟨_, rfl⟩
 rw [hu, hv] at HO ⊢
 clear h hx hu hv
 go_enter Tryz.func22, Tryz.ntmps22
 go_wp2_with (go_at_call 64; (with_reducible refine HO.1.mono ?_); rintro e_ w1 ⟨rfl, hw1⟩; have hw1 := hw1.symm; subst hw1)
 go_ret2
 exact ⟨rfl, rfl⟩
theorem write_er (x o er : Int) (B : Option Addr) (n cb : Nat) (her : er ≠ 0) (w : World)
 (hR : Calls Tryz.prog 65 #[.pointer (some ⟨m, 0, none⟩), .int .i64 j, .int .i64 x, .int .i64 o, .int .i64 n] w fun e w' => e = .returned (.int .i64 er) ∧ w' = w) :
 Calls Tryz.prog 23 #[.pointer (some ⟨m, 0, none⟩), .int .i64 j, .int .i64 x, .int .i64 o, .slice B n cb] w fun e w' => e = .returned (.int .i64 er) ∧ w' = w := by
 have HR := ak hR
 have he : ¬ (er = 0) := her
 have he2 : (er == 0) = false := beq_eq_false_iff_ne.mpr her
 clear hR her
 go_enter Tryz.func23, Tryz.ntmps23
 go_wp2_with (go_at_call 65; (with_reducible refine HR.1.mono ?_); rintro e_ w1 ⟨rfl, hw1⟩; have hw1 := hw1.symm; subst hw1)
 go_ret
 exact ⟨rfl, rfl⟩
theorem read_er (x o n er : Int) (her : er ≠ 0) (w : World)
 (hR : Calls Tryz.prog 65 #[.pointer (some ⟨m, 0, none⟩), .int .i64 j, .int .i64 x, .int .i64 o, .int .i64 n] w fun e w' => e = .returned (.int .i64 er) ∧ w' = w) :
 Calls Tryz.prog 24 #[.pointer (some ⟨m, 0, none⟩), .int .i64 j, .int .i64 x, .int .i64 o, .int .i64 n] w fun e w' => e = .returned (.tuple #[.slice none 0 0, .int .i64 er]) ∧ w' = w := by
 have HR := ak hR
 have he : ¬ (er = 0) := her
 have he2 : (er == 0) = false := beq_eq_false_iff_ne.mpr her
 clear hR her
 go_enter Tryz.func24, Tryz.ntmps24
 go_wp2_with (go_at_call 65; (with_reducible refine HR.1.mono ?_); rintro e_ w1 ⟨rfl, hw1⟩; have hw1 := hw1.symm; subst hw1)
 go_ret2
 exact ⟨rfl, rfl⟩
end
theorem write_do (m : Nat) (a : Ad) (s s2 : St) (j x o fr cb : Nat) (B : Option Addr) (bs : List Nat) (hn : 1 ≤ bs.length) (hcb : bs.length ≤ cb) (hD : Do 65 #[.pointer (some ⟨m, 0, none⟩), .int .i64 j, .int .i64 x, .int .i64 o, .int .i64 bs.length] m a s s2 (.int .i64 (0 : Int))) (hon : OnPage s2 (x + o) bs.length fr) :
 DoesW j x o B bs.length cb bs m a s { s2 with l := spliceB s2.l (fr * 64 + (x + o) % 64) bs } := by
 intro κ w hg h hb
 have HR := ak (hD.run κ w hg h)
 have HB := ak hb
 have HW := ak (fun (κ' : Kol) (W : World) (hW : MachK κ' W m a s2) (hB : RdS (· = 4) κ' W B bs) => mem_write1 κ' 3 a.mem s2.f (s2.n * s2.f) s2.pn s2.l bs s2.pf s2.pg (x + o) fr cb B hon.N hcb hon.max hn hon.fit hon.f hon.lt W hW.mem hB)
 obtain ⟨n, hnn⟩ : ∃ n, bs.length = n := ⟨_, rfl⟩
 rw [hnn] at HR HW ⊢
 have g : (0 : Int) ≤ (x : Int) + (o : Int) ∧ (x : Int) + (o : Int) ≤ 1000000 := by have := hon.max; omega
 have e1 := w64 _ g
 simp only [Int.natCast_add] at HW
 clear h hb hg hon hD g hnn hcb
 go_enter Tryz.func23, Tryz.ntmps23
 go_upto_region 4 with (go_at_call 65; (with_reducible refine HR.1.mono ?_); rintro e_ w1 ⟨rfl, κ1, q1, q2⟩; have HM1 := ak q1; have HU1 := ak q2; clear q1 q2)
 have c4 := HM1.1.c4
 have HB1 := ak (show RdS (· = 4) κ1 w1 B bs from fun κ' w' hU => HB.1 κ' w' (HU1.1.then hU (fun c e => by have e : c = 4 := e; show 1 ≤ c; omega)))
 go_wp2_with (go_at_call 66; (with_reducible refine (HW.1 _ _ HM1.1 HB1.1).mono ?_); rintro e_ w2 ⟨rfl, κ2, q1, q2⟩; have HQ := ak (And.intro q1 q2); clear q1 q2)
 go_ret
 clear e1
 exact ⟨rfl, κ2, HM1.1.putMem _ _ _ _ HQ.1.1 (HQ.1.2.mono (fun c e => by omega)), HU1.1.then HQ.1.2 (fun c e => by have e : c = 4 := e; show 1 ≤ c; omega)⟩
theorem TouchR.maps {s : St} {j : Nat} {c : Cpu} {q : Nat} {s' : St} (h : TouchR s j c q true s') : ∃ f, s'.pf (q : Int) = some f := by
 cases h with
 | had f hf => exact ⟨f, hf⟩
 | got k st ow cur' x K y r hf hR => exact ⟨_, if_pos rfl⟩
 | again st0 cur0 k st ow cur' x K y r hf hv hR => exact ⟨_, if_pos rfl⟩
theorem touch_live {s : St} {j : Nat} {c : Cpu} {k st ow : Nat} {cur' : Int} {x : Bud} {K y q : Nat} {po : Int} : (touchT s j c k st ow cur' x K y q po).live = s.live := rfl
theorem cur_live {s : St} {j : Nat} {c : Cpu} {cur' : Int} : (curT s j c cur').live = s.live := rfl
theorem TouchR.live {E t : Nat} {s : St} {H : List Int} (h : Mi E t s H) {j : Nat} {c : Cpu} (hc : s.cpus[j]? = some c) {q : Nat} {ok : Bool} {s' : St} (hT : TouchR s j c q ok s') : s'.live = s.live := by
 cases hT with
 | had f hf => rfl
 | got k st ow cur' x K y r hf hR => rfl
 | again st0 cur0 k st ow cur' x K y r hf hv hR => exact touch_live.trans (keep_relT h hc cur0).live
 | fail st0 cur0 st1 cur1 hf hv hR => exact cur_live.trans (keep_relT h hc cur0).live
theorem TakR.live {s : St} {j : Nat} {c : Cpu} {cls : Nat} {r : Option Nat} {s' : St} (h : TakR s j c cls r s') : s'.live = s.live := by
 cases h <;> rfl
end Go.Proofs.YtenkdmloolbdaaaGreatDoor.T
end
