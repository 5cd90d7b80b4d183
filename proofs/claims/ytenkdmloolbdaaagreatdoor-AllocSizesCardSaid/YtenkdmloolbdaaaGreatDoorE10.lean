import Derived.Test.YtenkdmloolbdaaaGreatDoorE09
import Derived.Test.YtenkdmloolbdaaaGreatDoorE04
import Derived.Test.YtenkdmloolbdaaaGreatDoorE05
import Derived.Conc.SmallLaws
set_option linter.unusedVariables false
set_option linter.unusedSimpArgs false
set_option maxHeartbeats 8000000
set_option maxRecDepth 100000
section
namespace Go.Proofs.YtenkdmloolbdaaaGreatDoor.T
open Go.RowKit Go.Proofs.YtenkdmloolbdaaaGreatDoorW.PrintWords Go.Proofs.YtenkdmloolbdaaaGreatDoorW.PrintLast Go.Proofs.YtenkdmloolbdaaaGreatDoorW.PrintMore
def RdS (I : Nat → Prop) (κ : Kol) (w : World) (A : Option Addr) (xs : List Nat) : Prop := ∀ κ' w', Upd I κ w κ' w' → RdB w' A xs.length xs
theorem u8_info : ∃ it, Tryz.prog.info? 5 = some it ∧ it.size = 1 := by
 have h : (Tryz.prog.info? 5).map (fun i => i.size) = some 1 := by kernel_rfl
 obtain ⟨it, h1, h2⟩ := Option.map_eq_some_iff.1 h
 exact ⟨it, h1, h2⟩
theorem slice_to (A : Option Addr) (m c s : Nat) (hs : s ≤ m) (hc : m ≤ c) (W : World) : (Instr.slice 23 (.slice A m c) none (some (.int .i64 (s : Int))) none).run Tryz.prog W = .ok (.slice A s c) W := by
 obtain ⟨it, h1, h2⟩ := u8_info
 have h := (print_take_int (P := Tryz.prog) (k := .u8) 23 5 Tryz.underlying23 h1 h2 A c (List.replicate m (0 : Int)) (s : Int) (by omega) (by simp; omega) (by simp; omega)).1 W
 rw [List.length_replicate] at h
 rw [h]
 simp
 omega
theorem slice_from (A : Option Addr) (m c s : Nat) (hs : s ≤ m) (hc : m ≤ c) : ∃ A', (∀ W : World, (Instr.slice 23 (.slice A m c) (some (.int .i64 (s : Int))) none none).run Tryz.prog W = .ok (.slice A' (m - s) (c - s)) W) ∧ ∀ (w : World) (xs : List Nat), xs.length = m → RdB w A m xs → RdB w A' (m - s) (xs.drop s) := by
 obtain ⟨it, h1, h2⟩ := u8_info
 obtain ⟨A', k1, k2⟩ := print_cut_of (P := Tryz.prog) (Value.int .u8) (0 : Int) 23 5 .i64 Tryz.underlying23 h1 h2 A m c s hs
 refine ⟨A', k1, fun w xs hl h => ?_⟩
 have := Kd.C_of_reads (h1 := fun _ => rfl) (k2 w _ hc (Kd.reads_of_C (d := (0 : Int)) h))
 unfold RdB
 rw [List.map_drop]
 exact this
theorem pc_own {w : World} {base : Nat} {ok : Nat → Prop} {v : Value} {ps : List (Nat × Nat × Nat)} (h : Kd.R pcK 186 w base ok v ps) (i x y z : Nat) (hx : ps[i]? = some (x, y, z)) :
 ∃ g c, v = .slice (some ⟨g, 0, none⟩) ps.length c ∧ w.cell? ⟨g, i * 3, none⟩ = some (.int .i64 x) ∧ w.cell? ⟨g, i * 3 + 1, none⟩ = some (.int .i64 y) ∧ w.cell? ⟨g, i * 3 + 2, none⟩ = some (.int .i64 z) := by
 have hi := (List.getElem?_eq_some_iff.1 hx).1
 obtain ⟨inner, ho⟩ := Kd.R_own h
 obtain ⟨A, c, e, _, hC⟩ := Kd.R_reads h
 obtain ⟨ad, e2, p0, p1, p2⟩ := pc_at hC i hi x y z hx
 rcases ho.2 with ⟨h1, _⟩ | ⟨g, cap, cur, h1, _⟩
 ·rw [h1] at e
  injection e with _ e3 _
  omega
 ·rw [h1] at e
  injection e with e3 e4 e5
  subst e2
  obtain rfl := Option.some.inj e3
  have ha : ∀ k, (⟨g, 0, none⟩ : Addr).add k = ⟨g, k, none⟩ := fun k => by unfold Addr.add; split <;> simp_all
  rw [ha] at p0 p1 p2
  exact ⟨g, cap, h1, p0, p1, p2⟩
theorem RdB.takeAt {w : World} {ad : Addr} {n z : Nat} {xs : List Nat} (h : RdB w (some ad) n xs) (h0 : 0 < n) (j u : Nat) (hu : (xs.take z)[j]? = some u) : w.cell? (ad.add j) = some (.int .u8 u) := by
 rw [List.getElem?_take] at hu
 split at hu
 ·obtain ⟨ad3, e3, h3⟩ := h.cell h0
  obtain rfl := Option.some.inj e3
  exact h3 j u hu
 ·simp at hu
def saveS (ps : List (Nat × Nat × Nat)) (s : List Nat × List Nat) : List Nat × List Nat := ps.foldl (fun s p => (spliceB s.1 (p.1 * 64 + p.2.1) (s.2.take p.2.2), s.2.drop p.2.2)) s
theorem saveS_snoc (ps : List (Nat × Nat × Nat)) (p : Nat × Nat × Nat) (s : List Nat × List Nat) : saveS (ps ++ [p]) s = (spliceB (saveS ps s).1 (p.1 * 64 + p.2.1) ((saveS ps s).2.take p.2.2), (saveS ps s).2.drop p.2.2) := by
 unfold saveS
 rw [List.foldl_append]
 rfl
theorem pcs_len (pf : Nat → Nat) : ∀ k a n, (pcs pf k a n).length ≤ n
 | 0, _, _ => by simp [pcs]
 | k + 1, a, n => by
  rw [pcs]
  split
  ·simp
  ·have := pcs_len pf k (a + min n (64 - a % 64)) (n - min n (64 - a % 64))
   rw [List.length_cons]
   omega
def RelWr (κ : Kol) (i b each N c : Nat) (l bs : List Nat) (f g : Int → Option Int) (pf : Nat → Nat) (a0 : Nat) (w w1 : World) (v2 v22 : Value) (wr : World) : Prop :=
 ∃ k a n don A2 c2 l' rest, v22 = .int .i64 ((don.length : Nat) : Int) ∧ v2 = .slice A2 n c2 ∧ n ≤ c2 ∧ n ≤ k ∧ pcs pf bs.length a0 bs.length = don ++ pcs pf k a n ∧ a + n = a0 + bs.length ∧ a0 ≤ a ∧ rest.length = n ∧ saveS don (l, bs) = (l', rest) ∧ RdS (· = i + 1) κ w A2 rest ∧ MemK (κ.ext w.heap.size (i + 999999)) i wr b each N l' c f g ∧ Upd (· = i + 1) (κ.ext w.heap.size (i + 999999)) w1 (κ.ext w.heap.size (i + 999999)) wr
theorem pc_row {κ1 : Kol} {base i : Nat} {w1 wr : World} {v : Value} {ps : List (Nat × Nat × Nat)} (h : Kd.R pcK 186 w1 base (fun _ => True) v ps) (hk : ∀ b, base ≤ b → κ1 b = i + 999999) (hU : Upd (· = i + 1) κ1 w1 κ1 wr) : Kd.R pcK 186 wr base (fun _ => True) v ps :=
 Kd.R_mono (Kd.R_move (Kd.R_bound h) (fun b hb => hU.chg.block b hb.2.2.1 (fun e => by have e : κ1 b = i + 1 := e; rw [hk b hb.2.1] at e; omega))) (fun _ _ => trivial)
theorem mem_write (κ : Kol) (i b each N c : Nat) (l bs : List Nat) (f g : Int → Option Int) (pf : Nat → Nat) (a0 cb : Nat) (B : Option Addr) (hNN : N ≤ 100000) (hN : bs.length ≤ 65536) (hcb : bs.length ≤ cb) (ha : a0 + bs.length ≤ 262144) (hf : ∀ q, 0 < bs.length → a0 / 64 ≤ q → q * 64 < a0 + bs.length → f (q : Int) = some ((pf q : Nat) : Int) ∧ pf q < N) (w : World) (h : MemK κ i w b each N l c f g) (hb : RdS (· = i + 1) κ w B bs) :
 Calls Tryz.prog 66 #[.pointer (some ⟨b, 0, none⟩), .int .i64 a0, .slice B bs.length cb] w fun e w' => e = .returned (.int .i64 0) ∧ ∃ κ', MemK κ' i w' b each N (saveS (pcs pf bs.length a0 bs.length) (l, bs)).1 c f g ∧ Upd (· = i + 1) κ w κ' w' := by
 have HP := ak (pieces_own κ i b each N c l f g pf a0 bs.length hN ha (fun q h0 h1 h2 => (hf q h0 h1 h2).1) w h)
 have HM := ak h
 have HRB := ak hb
 have HF := ak hf
 obtain ⟨m0, hm0⟩ : ∃ m, bs.length = m := ⟨_, rfl⟩
 obtain ⟨ps, hps⟩ : ∃ ps, pcs pf bs.length a0 bs.length = ps := ⟨_, rfl⟩
 have HPS := ak hps
 rw [hps] at HP
 have HM0 := ak hm0
 rw [hm0] at HP hcb ⊢
 clear h hb hf hps hm0
 go_enter Tryz.func66, Tryz.ntmps66
 go_wp2_with (go_at_call 122; (with_reducible refine HP.1.mono ?_); rintro e_ w1 ⟨A1, cp, rfl, q1, q2⟩; have HR1 := ak q1; have HB1 := ak q2; clear q1 q2)
 have H0 := ak (show RelWr κ i b each N c l bs f g pf a0 w w1 (.slice B m0 cb) (.int .i64 0) w1 from
  ⟨m0, a0, m0, [], B, cb, l, bs, rfl, rfl, hcb, Nat.le_refl _, by rw [HM0.1]; rfl, by rw [HM0.1], Nat.le_refl _, HM0.1, rfl, HRB.1, HM.1.upd (I := fun _ => False) ((Upd.of_below κ HB1.1).paint _ _ (Nat.le_refl _)) (fun _ _ h => h), Upd.refl _ _ _⟩)
 obtain ⟨pn, hpn⟩ : ∃ pn, ps.length = pn := ⟨_, rfl⟩
 have hpn2 : pn ≤ 65536 := by rw [← hpn, ← HPS.1]; exact Nat.le_trans (pcs_len pf _ _ _) hN
 have HPN := ak hpn
 rw [hpn] at HR1 ⊢
 clear hpn
 go_loopw [2, 10, 11, 22] (fun v2 _ _ v22 wr => RelWr κ i b each N c l bs f g pf a0 w w1 v2 v22 wr) (fun _ _ _ v22 _ => pn - (intOf v22).toNat)
 case atStart => exact H0.1
 case round =>
  clear H0
  obtain ⟨k, a, n, don, A2, c2, l', rest, rfl, rfl, hn2, hk, hp, han, haa, hrl, hsv, hrd, hmem, hU⟩ := hrel
  have HE := ak (And.intro hp hsv)
  have HRD := ak hrd
  have HME := ak hmem
  have HU := ak hU
  obtain ⟨dl, hdl⟩ : ∃ dl, don.length = dl := ⟨_, rfl⟩
  have HDL := ak hdl
  rw [hdl]
  have HRW := ak (pc_row HR1.1 (fun b hb => Kol.ext_new κ hb) hU)
  by_cases hz : 0 < n
  ·obtain ⟨k', rfl⟩ : ∃ k', k = k' + 1 := ⟨k - 1, by omega⟩
   obtain ⟨z, hzz⟩ : ∃ z, min n (64 - a % 64) = z := ⟨_, rfl⟩
   obtain ⟨x, hx⟩ : ∃ x, pf (a / 64) = x := ⟨_, rfl⟩
   obtain ⟨y, hy⟩ : ∃ y, a % 64 = y := ⟨_, rfl⟩
   have hcons : pcs pf (k' + 1) a n = (x, y, z) :: pcs pf k' (a + z) (n - z) := by rw [pcs, if_neg (by omega), hzz, hx, hy]
   have hz1 : 1 ≤ z ∧ z ≤ n ∧ y + z ≤ 64 := by omega
   have hxN : x < N := by rw [← hx]; exact (HF.1 (a / 64) (by omega) (by omega) (by omega)).2
   have hpe : ps = don ++ (x, y, z) :: pcs pf k' (a + z) (n - z) := by rw [← HPS.1, hp, hcons]
   have HPE := ak hpe
   have hlt : dl < pn := by rw [← HPN.1, hpe, ← hdl]; simp
   have hpl := HPN.1
   obtain ⟨gp, cp', e1, p0, p1, p2⟩ := pc_own HRW.1 dl x y z (by rw [hpe, ← hdl]; simp)
   rw [hpl] at e1
   injection e1 with e1 e2 e3
   subst e1
   clear e2 e3
   have hltI : (dl : Int) < (pn : Int) := by omega
   have d0 : (0 : Int) ≤ (dl : Int) := by omega
   obtain ⟨fb, tb, k1, k2, k3⟩ := HME.1
   have m0_ := k1.blk.at 0 (.pointer (some ⟨fb, 0, none⟩)) rfl
   have HK := ak (And.intro k1 (And.intro k2 k3))
   have hsl := slice_to A2 n c2 z hz1.2.1 hn2
   obtain ⟨A3, hct, hrd3⟩ := slice_from A2 n c2 z hz1.2.1 hn2
   have HR3 := ak hrd3
   clear hp hsv hrd hmem hU hdl hzz hx hy hcons hpe hpl k1 k2 k3 hrd3
   obtain ⟨ad2, rfl, _⟩ := (HRD.1 _ _ (((Upd.of_below κ HB1.1).paint _ _ (Nat.le_refl _)).then HU.1 (fun _ h => h))).cell (by rw [hrl]; exact hz)
   have HTL := ak (show (rest.take z).length = z by rw [List.length_take]; omega)
   go_upto_region 5 with fail
   have HBP := ak (Blk.new wr #[.int .i64 x, .int .i64 y, .int .i64 z] 186)
   have q0 := HBP.1.at 0 (.int .i64 x) rfl
   have q1 := HBP.1.at 1 (.int .i64 y) rfl
   have q2 := HBP.1.at 2 (.int .i64 z) rfl
   have mm := ((HK.1.1.blk.alloc (.cells #[.int .i64 x, .int .i64 y, .int .i64 z] 186))).at 0 (.pointer (some ⟨fb, 0, none⟩)) rfl
   refine st_ 14 (fun w' => w'.cell? ⟨b, 0, none⟩ = some (.pointer (some ⟨fb, 0, none⟩)) ∧ w'.cell? ⟨wr.heap.size, 0, none⟩ = some (.int .i64 x) ∧ w'.cell? ⟨wr.heap.size, 1, none⟩ = some (.int .i64 y) ∧ w'.cell? ⟨wr.heap.size, 2, none⟩ = some (.int .i64 z)) [12] ⟨mm, q0, q1, q2⟩ (fun hHeld => ?_)
   have hd_ := below_drew (below_alloc (RowKit.Below.refl wr.heap.size wr) (.cells #[.int .i64 x, .int .i64 y, .int .i64 z] 186))
   have HUD := ak (HU.1.below hd_)
   have HBD := ak (HBP.1.below (below_drew (RowKit.Below.refl _ _)))
   have n0_ := ak (And.intro (HK.1.1.below hd_) (And.intro (HK.1.2.1.below hd_) (HK.1.2.2.upd (I := fun _ => False) (Upd.of_below _ hd_) (fun _ _ h => h))))
   clear HK HBP hd_
   generalize (wr.alloc (.cells #[.int .i64 x, .int .i64 y, .int .i64 z] 186)).drew = wd at *
   have HN := n0_
   clear n0_
   have HSV := ak (save_own (κ.ext w.heap.size (i + 999999)) (i + 1) fb each N x y l' (rest.take z) ad2 c2 hxN hNN (by rw [HTL.1]; omega) (by rw [HTL.1]; omega) wd HN.1.2.1 (RdB.takeAt (HRD.1 _ _ (((Upd.of_below κ HB1.1).paint _ _ (Nat.le_refl _)).then HUD.1 (fun _ h => h))) (by rw [hrl]; exact hz)))
   rw [HTL.1] at HSV
   refine pu_ 0 26 1 ?_
   refine pu_ 1 27 3 ?_
   refine pu_ 2 28 7 ?_
   refine pu_ 4 30 23 ?_
   refine pu_ 6 32 87 ?_
   refine pu_ 8 34 343 ?_
   refine pu_ 9 35 855 ?_
   refine ta_ 3 29 863 hHeld ?_
   refine ta_ 5 31 895 hHeld ?_
   refine ta_ 7 33 1023 hHeld ?_
   refine ta_ 10 36 2047 hHeld ?_
   refine pu_ 11 37 4095 ?_
   refine last_ (i := 12) (N := some 38) (bz 14 8191) rfl rfl (by kernel_rfl) (by decide) (fun K hK => ?_)
   refine goes_ Tryz.func123 (by kernel_rfl) rfl #[.pointer (some ⟨fb, 0, none⟩), .int .i64 x, .int .i64 y, .slice (some ad2) z c2] (by rfl) rfl rfl (by simp only [List.map_toArray, List.map_cons, List.map_nil]; rfl) ?_
   with_reducible refine (HSV.1).mono ?_
   rintro e_ w5 ⟨rfl, q1_, q2_⟩
   refine ⟨_, rfl, ?_⟩
   have HQ := ak (And.intro q1_ q2_)
   have t2 := (BlkK.upd (κ1 := κ.ext w.heap.size (i + 999999)) ⟨Kol.ext_new κ (Nat.le_trans HB1.1.size HU.1.chg.size), HBD.1⟩ q2_ (by omega)).blk.at 2 (.int .i64 z) rfl
   clear q1_ q2_
   refine hK.out _ _ ?_
   clear hK K
   refine no_ 38 ?_
   refine pu_ 13 11 16383 ?_
   refine done_ (by kernel_rfl) ?_
   go_wp2_with fail
   refine ⟨⟨k', a + z, n - z, don ++ [(x, y, z)], A3, c2 - z, spliceB l' (x * 64 + y) (rest.take z), rest.drop z, ?_, by rfl, by omega, by omega, ?_, by omega, by omega, by rw [List.length_drop, hrl], ?_, ?_, ?_, ?_⟩, ?_⟩
   ·rw [List.length_append, HDL.1]; simp
   ·rw [HPS.1, HPE.1]; simp
   ·rw [saveS_snoc, HE.1.2]
   ·intro κ' w' hu
    have := HR3.1 w' rest hrl (by rw [← hrl]; exact HRD.1 κ' w' hu)
    rwa [List.length_drop, hrl]
   ·exact ⟨fb, tb, HN.1.1.upd HQ.1.2 (by omega), HQ.1.1, HN.1.2.2.upd HQ.1.2 (fun c hc => by omega)⟩
   ·exact HUD.1.then HQ.1.2 (fun _ h => h)
   ·simp only [intOf]; omega
  ·obtain rfl : n = 0 := by omega
   rw [pcs_zero, List.append_nil] at hp
   have hdn : dl = pn := by rw [← HPN.1, ← HPS.1, hp, hdl]
   subst hdn
   clear hp hsv hrd hmem hU hdl
   go_wp2_with fail
   go_ret
   refine ⟨rfl, _, ?_, ((Upd.of_below κ HB1.1).paint _ _ (Nat.le_refl _)).then HU.1 (fun _ h => h)⟩
   have he := HE.1.1
   rw [pcs_zero, List.append_nil] at he
   rw [← HM0.1, he, HE.1.2]
   exact HME.1
def loadS (l : List Nat) (ps : List (Nat × Nat × Nat)) : List Nat := ps.flatMap fun p => (l.drop (p.1 * 64 + p.2.1)).take p.2.2
def RelRd (each N n0 : Nat) (l : List Nat) (pf : Nat → Nat) (a0 : Nat) (w w1 : World) (v10 v24 : Value) (wr : World) : Prop :=
 ∃ k a n don, v24 = .int .i64 ((don.length : Nat) : Int) ∧ n ≤ k ∧ pcs pf n0 a0 n0 = don ++ pcs pf k a n ∧ a + n = a0 + n0 ∧ a0 ≤ a ∧ (loadS l don).length ≤ n0 - n ∧ wr.ownsRow w1.heap.size 5 1 v10 (loadS l don).length (nums .u8 ((loadS l don).map fun (x : Nat) => (x : Int))) ∧ RowKit.Below w1.heap.size w1 wr
theorem mem_read (κ : Kol) (i b each N c n0 : Nat) (l : List Nat) (f g : Int → Option Int) (pf : Nat → Nat) (a0 : Nat) (hNN : N ≤ 100000) (hN : n0 ≤ 65536) (ha : a0 + n0 ≤ 262144) (hf : ∀ q, 0 < n0 → a0 / 64 ≤ q → q * 64 < a0 + n0 → f (q : Int) = some ((pf q : Nat) : Int) ∧ pf q < N) (w : World) (h : MemK κ i w b each N l c f g) :
 Calls Tryz.prog 67 #[.pointer (some ⟨b, 0, none⟩), .int .i64 a0, .int .i64 n0] w fun e w' => ∃ A cp, e = .returned (.tuple #[.slice A (loadS l (pcs pf n0 a0 n0)).length cp, .int .i64 0]) ∧ RdB w' A (loadS l (pcs pf n0 a0 n0)).length (loadS l (pcs pf n0 a0 n0)) ∧ RowKit.Below w.heap.size w w' := by
 have HP := ak (pieces_own κ i b each N c l f g pf a0 n0 hN ha (fun q h0 h1 h2 => (hf q h0 h1 h2).1) w h)
 have HM := ak h
 have HF := ak hf
 obtain ⟨ps, hps⟩ : ∃ ps, pcs pf n0 a0 n0 = ps := ⟨_, rfl⟩
 have HPS := ak hps
 rw [hps] at HP ⊢
 have info1 : (Tryz.prog.info? 5).map (fun i => (i.zero, i.size, i.bytes)) = some (some (.int .u8 0), 1, 1) := by kernel_rfl
 clear h hf hps
 go_enter Tryz.func67, Tryz.ntmps67
 go_wp2_with (go_at_call 122; (with_reducible refine HP.1.mono ?_); rintro e_ w1 ⟨A1, cp, rfl, q1, q2⟩; have HR1 := ak q1; have HB1 := ak q2; clear q1 q2)
 have H0 := ak (show RelRd each N n0 l pf a0 w w1 (.slice none 0 0) (.int .i64 0) w1 from
  ⟨n0, a0, n0, [], rfl, Nat.le_refl _, rfl, rfl, Nat.le_refl _, by simp [loadS], ⟨rfl, .inl ⟨rfl, rfl⟩⟩, RowKit.Below.refl _ _⟩)
 obtain ⟨pn, hpn⟩ : ∃ pn, ps.length = pn := ⟨_, rfl⟩
 have hpn2 : pn ≤ 65536 := by rw [← hpn, ← HPS.1]; exact Nat.le_trans (pcs_len pf _ _ _) hN
 have HPN := ak hpn
 rw [hpn] at HR1 ⊢
 clear hpn
 go_loopw [10, 12, 13, 14, 24] (fun v10 _ _ _ v24 wr => RelRd each N n0 l pf a0 w w1 v10 v24 wr) (fun _ _ _ _ v24 _ => pn - (intOf v24).toNat)
 case atStart => exact H0.1
 case round =>
  clear H0
  obtain ⟨k, a, n, don, rfl, hk, hp, han, haa, hll, hrow, hB⟩ := hrel
  have HE := ak hp
  have HROW := ak hrow
  have HBB := ak hB
  obtain ⟨dl, hdl⟩ : ∃ dl, don.length = dl := ⟨_, rfl⟩
  have HDL := ak hdl
  rw [hdl]
  have HRW := ak (Kd.R_below HR1.1 (show RowKit.Below w1.heap.size w1 wr from hB))
  by_cases hz : 0 < n
  ·obtain ⟨k', rfl⟩ : ∃ k', k = k' + 1 := ⟨k - 1, by omega⟩
   obtain ⟨z, hzz⟩ : ∃ z, min n (64 - a % 64) = z := ⟨_, rfl⟩
   obtain ⟨x, hx⟩ : ∃ x, pf (a / 64) = x := ⟨_, rfl⟩
   obtain ⟨y, hy⟩ : ∃ y, a % 64 = y := ⟨_, rfl⟩
   have hcons : pcs pf (k' + 1) a n = (x, y, z) :: pcs pf k' (a + z) (n - z) := by rw [pcs, if_neg (by omega), hzz, hx, hy]
   have hz1 : 1 ≤ z ∧ z ≤ n ∧ y + z ≤ 64 := by omega
   have hxN : x < N := by rw [← hx]; exact (HF.1 (a / 64) (by omega) (by omega) (by omega)).2
   have hpe : ps = don ++ (x, y, z) :: pcs pf k' (a + z) (n - z) := by rw [← HPS.1, hp, hcons]
   have HPE := ak hpe
   have hlt : dl < pn := by rw [← HPN.1, hpe, ← hdl]; simp
   have hpl := HPN.1
   obtain ⟨gp, cp', e1, p0, p1, p2⟩ := pc_own HRW.1 dl x y z (by rw [hpe, ← hdl]; simp)
   rw [hpl] at e1
   injection e1 with e1 e2 e3
   subst e1
   clear e2 e3
   have hltI : (dl : Int) < (pn : Int) := by omega
   have d0 : (0 : Int) ≤ (dl : Int) := by omega
   obtain ⟨fb, tb, k1, k2, k3⟩ := HM.1.below (below_then HB1.1 HB1.1.size hB)
   have m0_ := k1.blk.at 0 (.pointer (some ⟨fb, 0, none⟩)) rfl
   have HK := ak (And.intro k1 k2)
   have HLL := ak hll
   clear hp hrow hB hdl hzz hx hy hcons hpe hpl k1 k2 k3 hll
   go_upto_region 6 with fail
   have HBP := ak (Blk.new wr #[.int .i64 x, .int .i64 y, .int .i64 z] 186)
   have q0 := HBP.1.at 0 (.int .i64 x) rfl
   have q1 := HBP.1.at 1 (.int .i64 y) rfl
   have q2 := HBP.1.at 2 (.int .i64 z) rfl
   have mm := ((HK.1.1.blk.alloc (.cells #[.int .i64 x, .int .i64 y, .int .i64 z] 186))).at 0 (.pointer (some ⟨fb, 0, none⟩)) rfl
   refine st_ 16 (fun w' => w'.cell? ⟨b, 0, none⟩ = some (.pointer (some ⟨fb, 0, none⟩)) ∧ w'.cell? ⟨wr.heap.size, 0, none⟩ = some (.int .i64 x) ∧ w'.cell? ⟨wr.heap.size, 1, none⟩ = some (.int .i64 y) ∧ w'.cell? ⟨wr.heap.size, 2, none⟩ = some (.int .i64 z)) [10] ⟨mm, q0, q1, q2⟩ (fun hHeld => ?_)
   have hd_ := below_drew (below_alloc (RowKit.Below.refl wr.heap.size wr) (.cells #[.int .i64 x, .int .i64 y, .int .i64 z] 186))
   have HBD := ak (below_then HBB.1 HBB.1.size hd_)
   have HRD := ak (Kd.R_below (Kd.R_of_own (enc := Value.int .u8) (h1 := fun _ => rfl) (ok := fun _ => True) (xs := (loadS l don).map fun (x : Nat) => (x : Int)) (by rw [List.length_map]; exact HROW.1) (fun _ _ => trivial)) hd_)
   have n0_ := ak (HK.1.2.below hd_)
   clear HK HBP hd_
   generalize (wr.alloc (.cells #[.int .i64 x, .int .i64 y, .int .i64 z] 186)).drew = wd at *
   have HN := n0_
   clear n0_
   have HLD := ak (load_own κ (i + 1) fb each N x y z l hxN hNN hz1.2.2 (by omega) wd HN.1)
   refine pu_ 0 29 1 ?_
   refine pu_ 1 30 3 ?_
   refine pu_ 2 31 7 ?_
   refine pu_ 4 33 23 ?_
   refine pu_ 6 35 87 ?_
   refine pu_ 8 37 343 ?_
   refine ta_ 3 32 351 hHeld ?_
   refine ta_ 5 34 383 hHeld ?_
   refine ta_ 7 36 511 hHeld ?_
   refine ta_ 9 38 1023 hHeld ?_
   refine last_ (i := 10) (N := some 39) (bz 16 2047) rfl rfl (by kernel_rfl) (by decide) (fun K hK => ?_)
   refine goes_ Tryz.func124 (by kernel_rfl) rfl #[.pointer (some ⟨fb, 0, none⟩), .int .i64 x, .int .i64 y, .int .i64 z] (by rfl) rfl rfl (by simp only [List.map_toArray, List.map_cons, List.map_nil]; rfl) ?_
   with_reducible refine (HLD.1).mono ?_
   rintro e_ w5 ⟨A4, c4, rfl, q1_, q2_, q3_⟩
   refine ⟨_, rfl, ?_⟩
   have HQ := ak (And.intro q1_ (And.intro q2_ q3_))
   clear q1_ q2_ q3_
   refine hK.out _ _ ?_
   clear hK K
   refine no_ 39 ?_
   refine pu_ 11 28 4095 ?_
   refine pu_ 12 40 8191 ?_
   refine pu_ 13 41 16383 ?_
   refine pu_ 14 13 32767 ?_
   refine pu_ 15 14 65535 ?_
   refine done_ (by kernel_rfl) ?_
   have HL2 := ak (show (loadS l (don ++ [(x, y, z)])) = loadS l don ++ (l.drop (x * 64 + y)).take z by unfold loadS; rw [List.flatMap_append]; simp)
   have HZ := ak HQ.1.2.1.len
   go_wp2_with ((with_reducible refine gate_builtin (b := .append) (xs := #[.tmp 45, .tmp 46]) rfl ?_); at_builtin; refine print_append_row (w0 := w1) w1.heap.size rfl (.tmp 45) (.tmp 46) 23 5 .u8 1 rfl Tryz.underlying23 info1 (by decide) u10 ((loadS l don).map fun (x : Nat) => (x : Int)) (((l.drop (x * 64 + y)).take z).map fun (x : Nat) => (x : Int)) A4 z c4 rfl rfl (Kd.own_of_R (Kd.R_below HRD.1 HQ.1.2.2)) (Kd.reads_of_C (d := (0 : Int)) HQ.1.2.1) (below_then HBD.1 HBD.1.size HQ.1.2.2) (below_then HBD.1 HBD.1.size HQ.1.2.2).size (by have := HLL.1; rw [List.length_map]; omega) ?_; intro v7 w7 ho7 hb7 hg7 hat7; obtain ⟨A7, c7, rfl⟩ := own_slice ho7; have H7 := ak (And.intro ho7 hb7); clear ho7 hb7 hg7 hat7)
   refine ⟨⟨k', a + z, n - z, don ++ [(x, y, z)], ?_, by omega, ?_, by omega, by omega, ?_, ?_, H7.1.2⟩, ?_⟩
   ·rw [List.length_append, HDL.1]; simp
   ·rw [HPS.1, HPE.1]; simp
   ·rw [HL2.1, List.length_append]
    have := HLL.1; have := HZ.1; omega
   ·rw [HL2.1]
    have := H7.1.1
    rw [← List.map_append, List.length_map] at this
    rw [show (loadS l don).length + min z (l.length - (x * 64 + y)) = (loadS l don ++ List.take z (List.drop (x * 64 + y) l)).length by simp]
    exact this
   ·simp only [intOf]; omega
  ·obtain rfl : n = 0 := by omega
   rw [pcs_zero, List.append_nil] at hp
   have hdn : dl = pn := by rw [← HPN.1, ← HPS.1, hp, hdl]
   subst hdn
   obtain ⟨A5, c5, rfl⟩ := own_slice hrow
   clear hp hrow hB hdl
   go_wp2_with fail
   go_ret2
   have he := HE.1
   rw [pcs_zero, List.append_nil] at he
   have hpd : ps = don := by rw [← HPS.1, he]
   subst hpd
   refine ⟨A5, c5, rfl, ?_, below_then HB1.1 HB1.1.size HBB.1⟩
   have hl2 : ((loadS l ps).map fun (x : Nat) => (x : Int)).length = (loadS l ps).length := List.length_map _
   obtain ⟨A, c_, e, _, hC⟩ := Kd.R_reads (Kd.R_of_own (enc := Value.int .u8) (h1 := fun _ => rfl) (ok := fun _ => True) (xs := (loadS l ps).map fun (x : Nat) => (x : Int)) (by rw [hl2]; exact HROW.1) (fun _ _ => trivial))
   rw [hl2] at e hC
   injection e with e1 e2
   subst e1
   exact hC
theorem book_new (nodes : Nat) (hn : 1 ≤ nodes) (hn2 : nodes ≤ 8) (w : World) :
 Calls Tryz.prog 141 #[.int .i64 nodes] w fun e w' => e = .returned (.tuple #[.pointer (some ⟨w.heap.size + 1, 0, none⟩), .int .i64 0]) ∧ w' = (w.alloc (.map #[] 0)).alloc (.cells #[.int .i64 nodes, .map (some w.heap.size)] 241) := by
 have hmm := @run_makeMap Tryz.prog
 have n1 : (1 : Int) ≤ (nodes : Int) := by omega
 have n2 : (nodes : Int) ≤ 8 := by omega
 go_enter Tryz.func141, Tryz.ntmps141
 go_wp2_with fail
 go_ret2
 exact ⟨rfl, rfl⟩
theorem ring_new (w : World) :
 Calls Tryz.prog 87 #[.int .i64 16] w fun e w' => e = .returned (.tuple #[.pointer (some ⟨w.heap.size + 1, 0, none⟩), .int .i64 0]) ∧ w' = (w.alloc (.chan 16 #[] false 0 0 false)).alloc (.cells #[.chan (some w.heap.size)] 227) := by
 have hinfo : (Tryz.prog.info? 3).map (·.bytes) = some 8 := by kernel_rfl
 have hmk : (Instr.makeChan 225 (.int .i64 16)).run Tryz.prog w = .ok (.chan (some w.heap.size)) (w.alloc (.chan 16 #[] false 0 0 false)) := by
  obtain ⟨it, hi, hb⟩ := Option.map_eq_some_iff.1 hinfo
  simpa using Go.Conc.run_makeChan (P := Tryz.prog) (w := w) Tryz.underlying225 hi .i64 16 (by omega) (by rw [hb]; omega)
 clear hinfo
 go_enter Tryz.func87, Tryz.ntmps87
 go_wp2_with fail
 go_ret2
 exact ⟨rfl, rfl⟩
end Go.Proofs.YtenkdmloolbdaaaGreatDoor.T
end
