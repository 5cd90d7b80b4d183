/- Memory: Write and Read. A new buddy. -/
import Derived.Test.YtenkdmloolbdaaaGreatDoorB09
import Derived.Test.YtenkdmloolbdaaaGreatDoorB05
import Derived.Test.YtenkdmloolbdaaaGreatDoorB06
section
namespace Go.Proofs.YtenkdmloolbdaaaGreatDoor.T
open Go.RowKit Go.Proofs.YtenkdmloolbdaaaGreatDoorW.PrintWords Go.Proofs.YtenkdmloolbdaaaGreatDoorW.PrintLast Go.Proofs.YtenkdmloolbdaaaGreatDoorW.PrintMore
set_option linter.unusedVariables false
set_option linter.unusedSimpArgs false
/-- Bytes that can be read whatever changes of the colours I. -/
def RdS (I : Nat → Prop) (κ : Kol) (w : World) (A : Option Addr) (xs : List Nat) : Prop := ∀ κ' w', Upd I κ w κ' w' → RdB w' A xs.length xs
theorem u8_info : ∃ it, Tryz.prog.info? 5 = some it ∧ it.size = 1 := by
  have h : (Tryz.prog.info? 5).map (fun i => i.size) = some 1 := by kernel_rfl
  obtain ⟨it, h1, h2⟩ := Option.map_eq_some_iff.1 h
  exact ⟨it, h1, h2⟩
theorem slice_to (A : Option Addr) (m c s : Nat) (hs : s ≤ m) (hc : m ≤ c) (W : World) : (Instr.slice 23 (.slice A m c) none (some (.int .i64 (s : Int))) none).run Tryz.prog W = .ok (.slice A s c) W := by
  obtain ⟨it, h1, h2⟩ := u8_info
  have h := (print_take_int (P := Tryz.prog) (k := .u8) 23 5 Tryz.underlying23 h1 h2 A c (List.replicate m (0 : Int)) (s : Int) (by omega) (by simp; omega) (by simp; omega)).1 W
  rw [List.length_replicate] at h
  rw [h]
  simp
  omega
theorem slice_from (A : Option Addr) (m c s : Nat) (hs : s ≤ m) (hc : m ≤ c) : ∃ A', (∀ W : World, (Instr.slice 23 (.slice A m c) (some (.int .i64 (s : Int))) none none).run Tryz.prog W = .ok (.slice A' (m - s) (c - s)) W) ∧ ∀ (w : World) (xs : List Nat), xs.length = m → RdB w A m xs → RdB w A' (m - s) (xs.drop s) := by
  obtain ⟨it, h1, h2⟩ := u8_info
  obtain ⟨A', k1, k2⟩ := print_cut_of (P := Tryz.prog) (Value.int .u8) (0 : Int) 23 5 .i64 Tryz.underlying23 h1 h2 A m c s hs
  refine ⟨A', k1, fun w xs hl h => ?_⟩
  have := Kd.C_of_reads (h1 := fun _ => rfl) (k2 w _ hc (Kd.reads_of_C (d := (0 : Int)) h))
  unfold RdB
  rw [List.map_drop]
  exact this
theorem pc_own {w : World} {base : Nat} {ok : Nat → Prop} {v : Value} {ps : List (Nat × Nat × Nat)} (h : Kd.R pcK 186 w base ok v ps) (i x y z : Nat) (hx : ps[i]? = some (x, y, z)) :
    ∃ g c, v = .slice (some ⟨g, 0, none⟩) ps.length c ∧ w.cell? ⟨g, i * 3, none⟩ = some (.int .i64 x) ∧ w.cell? ⟨g, i * 3 + 1, none⟩ = some (.int .i64 y) ∧ w.cell? ⟨g, i * 3 + 2, none⟩ = some (.int .i64 z) := by
  have hi := (List.getElem?_eq_some_iff.1 hx).1
  obtain ⟨inner, ho⟩ := Kd.R_own h
  obtain ⟨A, c, e, _, hC⟩ := Kd.R_reads h
  obtain ⟨ad, e2, p0, p1, p2⟩ := pc_at hC i hi x y z hx
  rcases ho.2 with ⟨h1, _⟩ | ⟨g, cap, cur, h1, _⟩
  · rw [h1] at e
    injection e with _ e3 _
    omega
  · rw [h1] at e
    injection e with e3 e4 e5
    subst e2
    obtain rfl := Option.some.inj e3
    have ha : ∀ k, (⟨g, 0, none⟩ : Addr).add k = ⟨g, k, none⟩ := fun k => by unfold Addr.add; split <;> simp_all
    rw [ha] at p0 p1 p2
    exact ⟨g, cap, h1, p0, p1, p2⟩
theorem RdB.takeAt {w : World} {ad : Addr} {n z : Nat} {xs : List Nat} (h : RdB w (some ad) n xs) (h0 : 0 < n) (j u : Nat) (hu : (xs.take z)[j]? = some u) : w.cell? (ad.add j) = some (.int .u8 u) := by
  rw [List.getElem?_take] at hu
  split at hu
  · obtain ⟨ad3, e3, h3⟩ := h.cell h0
    obtain rfl := Option.some.inj e3
    exact h3 j u hu
  · simp at hu
/-- Bytes saved, piece by piece: the frames, and the bytes that are left. -/
def saveS (ps : List (Nat × Nat × Nat)) (s : List Nat × List Nat) : List Nat × List Nat := ps.foldl (fun s p => (spliceB s.1 (p.1 * 64 + p.2.1) (s.2.take p.2.2), s.2.drop p.2.2)) s
theorem saveS_snoc (ps : List (Nat × Nat × Nat)) (p : Nat × Nat × Nat) (s : List Nat × List Nat) : saveS (ps ++ [p]) s = (spliceB (saveS ps s).1 (p.1 * 64 + p.2.1) ((saveS ps s).2.take p.2.2), (saveS ps s).2.drop p.2.2) := by
  unfold saveS
  rw [List.foldl_append]
  rfl
theorem pcs_len (pf : Nat → Nat) : ∀ k a n, (pcs pf k a n).length ≤ n
  | 0, _, _ => by simp [pcs]
  | k + 1, a, n => by
    rw [pcs]
    split
    · simp
    · have := pcs_len pf k (a + min n (64 - a % 64)) (n - min n (64 - a % 64))
      rw [List.length_cons]
      omega
def RelWr (κ : Kol) (i b each N c : Nat) (l bs : List Nat) (f g : Int → Option Int) (pf : Nat → Nat) (a0 : Nat) (w w1 : World) (v2 v22 : Value) (wr : World) : Prop :=
  ∃ k a n don A2 c2 l' rest, v22 = .int .i64 ((don.length : Nat) : Int) ∧ v2 = .slice A2 n c2 ∧ n ≤ c2 ∧ n ≤ k ∧ pcs pf bs.length a0 bs.length = don ++ pcs pf k a n ∧ a + n = a0 + bs.length ∧ a0 ≤ a ∧ rest.length = n ∧ saveS don (l, bs) = (l', rest) ∧ RdS (· = i + 1) κ w A2 rest ∧ MemK (κ.ext w.heap.size (i + 999999)) i wr b each N l' c f g ∧ Upd (· = i + 1) (κ.ext w.heap.size (i + 999999)) w1 (κ.ext w.heap.size (i + 999999)) wr
theorem pc_row {κ1 : Kol} {base i : Nat} {w1 wr : World} {v : Value} {ps : List (Nat × Nat × Nat)} (h : Kd.R pcK 186 w1 base (fun _ => True) v ps) (hk : ∀ b, base ≤ b → κ1 b = i + 999999) (hU : Upd (· = i + 1) κ1 w1 κ1 wr) : Kd.R pcK 186 wr base (fun _ => True) v ps :=
  Kd.R_mono (Kd.R_move (Kd.R_bound h) (fun b hb => hU.chg.block b hb.2.2.1 (fun e => by have e : κ1 b = i + 1 := e; rw [hk b hb.2.1] at e; omega))) (fun _ _ => trivial)
set_option maxHeartbeats 4000000 in
set_option maxRecDepth 100000 in
theorem mem_write (κ : Kol) (i b each N c : Nat) (l bs : List Nat) (f g : Int → Option Int) (pf : Nat → Nat) (a0 cb : Nat) (B : Option Addr) (hNN : N ≤ 100000) (hN : bs.length ≤ 65536) (hcb : bs.length ≤ cb) (ha : a0 + bs.length ≤ 262144) (hf : ∀ q, 0 < bs.length → a0 / 64 ≤ q → q * 64 < a0 + bs.length → f (q : Int) = some ((pf q : Nat) : Int) ∧ pf q < N) (w : World) (h : MemK κ i w b each N l c f g) (hb : RdS (· = i + 1) κ w B bs) :
    Calls Tryz.prog 66 #[.pointer (some ⟨b, 0, none⟩), .int .i64 a0, .slice B bs.length cb] w fun e w' => e = .returned (.int .i64 0) ∧ ∃ κ', MemK κ' i w' b each N (saveS (pcs pf bs.length a0 bs.length) (l, bs)).1 c f g ∧ Upd (· = i + 1) κ w κ' w' := by
  have HP := Aside0.mk (pieces_own κ i b each N c l f g pf a0 bs.length hN ha (fun q h0 h1 h2 => (hf q h0 h1 h2).1) w h)
  have HM := Aside0.mk h
  have HRB := Aside0.mk hb
  have HF := Aside0.mk hf
  obtain ⟨m0, hm0⟩ : ∃ m, bs.length = m := ⟨_, rfl⟩
  obtain ⟨ps, hps⟩ : ∃ ps, pcs pf bs.length a0 bs.length = ps := ⟨_, rfl⟩
  have HPS := Aside0.mk hps
  rw [hps] at HP
  have HM0 := Aside0.mk hm0
  rw [hm0] at HP hcb ⊢
  clear h hb hf hps hm0
  go_enter Tryz.func66, Tryz.ntmps66
  go_wp2_with (go_at_call 122; (with_reducible refine HP.out.mono ?_); rintro e_ w1 ⟨A1, cp, rfl, q1, q2⟩; have HR1 := Aside0.mk q1; have HB1 := Aside0.mk q2; clear q1 q2)
  have H0 := Aside0.mk (show RelWr κ i b each N c l bs f g pf a0 w w1 (.slice B m0 cb) (.int .i64 0) w1 from
    ⟨m0, a0, m0, [], B, cb, l, bs, rfl, rfl, hcb, Nat.le_refl _, by rw [HM0.out]; rfl, by rw [HM0.out], Nat.le_refl _, HM0.out, rfl, HRB.out, HM.out.upd (I := fun _ => False) ((Upd.of_below κ HB1.out).paint _ _ (Nat.le_refl _)) (fun _ _ h => h), Upd.refl _ _ _⟩)
  obtain ⟨pn, hpn⟩ : ∃ pn, ps.length = pn := ⟨_, rfl⟩
  have hpn2 : pn ≤ 65536 := by rw [← hpn, ← HPS.out]; exact Nat.le_trans (pcs_len pf _ _ _) hN
  have HPN := Aside0.mk hpn
  rw [hpn] at HR1 ⊢
  clear hpn
  go_loopw [2, 10, 11, 22] (fun v2 _ _ v22 wr => RelWr κ i b each N c l bs f g pf a0 w w1 v2 v22 wr) (fun _ _ _ v22 _ => pn - (intOf v22).toNat)
  case atStart => exact H0.out
  case round =>
    clear H0
    obtain ⟨k, a, n, don, A2, c2, l', rest, rfl, rfl, hn2, hk, hp, han, haa, hrl, hsv, hrd, hmem, hU⟩ := hrel
    have HE := Aside0.mk (And.intro hp hsv)
    have HRD := Aside0.mk hrd
    have HME := Aside0.mk hmem
    have HU := Aside0.mk hU
    obtain ⟨dl, hdl⟩ : ∃ dl, don.length = dl := ⟨_, rfl⟩
    have HDL := Aside0.mk hdl
    rw [hdl]
    have HRW := Aside0.mk (pc_row HR1.out (fun b hb => Kol.ext_new κ hb) hU)
    by_cases hz : 0 < n
    · obtain ⟨k', rfl⟩ : ∃ k', k = k' + 1 := ⟨k - 1, by omega⟩
      obtain ⟨z, hzz⟩ : ∃ z, min n (64 - a % 64) = z := ⟨_, rfl⟩
      obtain ⟨x, hx⟩ : ∃ x, pf (a / 64) = x := ⟨_, rfl⟩
      obtain ⟨y, hy⟩ : ∃ y, a % 64 = y := ⟨_, rfl⟩
      have hcons : pcs pf (k' + 1) a n = (x, y, z) :: pcs pf k' (a + z) (n - z) := by rw [pcs, if_neg (by omega), hzz, hx, hy]
      have hz1 : 1 ≤ z ∧ z ≤ n ∧ y + z ≤ 64 := by omega
      have hxN : x < N := by rw [← hx]; exact (HF.out (a / 64) (by omega) (by omega) (by omega)).2
      have hpe : ps = don ++ (x, y, z) :: pcs pf k' (a + z) (n - z) := by rw [← HPS.out, hp, hcons]
      have HPE := Aside0.mk hpe
      have hlt : dl < pn := by rw [← HPN.out, hpe, ← hdl]; simp
      have hpl := HPN.out
      obtain ⟨gp, cp', e1, p0, p1, p2⟩ := pc_own HRW.out dl x y z (by rw [hpe, ← hdl]; simp)
      rw [hpl] at e1
      injection e1 with e1 e2 e3
      subst e1
      clear e2 e3
      have hltI : (dl : Int) < (pn : Int) := by omega
      have d0 : (0 : Int) ≤ (dl : Int) := by omega
      obtain ⟨fb, tb, k1, k2, k3⟩ := HME.out
      have m0_ := k1.blk.at 0 (.pointer (some ⟨fb, 0, none⟩)) rfl
      have HK := Aside0.mk (And.intro k1 (And.intro k2 k3))
      have hsl := slice_to A2 n c2 z hz1.2.1 hn2
      obtain ⟨A3, hct, hrd3⟩ := slice_from A2 n c2 z hz1.2.1 hn2
      have HR3 := Aside0.mk hrd3
      clear hp hsv hrd hmem hU hdl hzz hx hy hcons hpe hpl k1 k2 k3 hrd3
      obtain ⟨ad2, rfl, _⟩ := (HRD.out _ _ (((Upd.of_below κ HB1.out).paint _ _ (Nat.le_refl _)).then HU.out (fun _ h => h))).cell (by rw [hrl]; exact hz)
      have HTL := Aside0.mk (show (rest.take z).length = z by rw [List.length_take]; omega)
      go_upto_region 5 with fail
      have HBP := Aside0.mk (Blk.new wr #[.int .i64 x, .int .i64 y, .int .i64 z] 186)
      have q0 := HBP.out.at 0 (.int .i64 x) rfl
      have q1 := HBP.out.at 1 (.int .i64 y) rfl
      have q2 := HBP.out.at 2 (.int .i64 z) rfl
      have mm := ((HK.out.1.blk.alloc (.cells #[.int .i64 x, .int .i64 y, .int .i64 z] 186))).at 0 (.pointer (some ⟨fb, 0, none⟩)) rfl
      refine st_ 14 (fun w' => w'.cell? ⟨b, 0, none⟩ = some (.pointer (some ⟨fb, 0, none⟩)) ∧ w'.cell? ⟨wr.heap.size, 0, none⟩ = some (.int .i64 x) ∧ w'.cell? ⟨wr.heap.size, 1, none⟩ = some (.int .i64 y) ∧ w'.cell? ⟨wr.heap.size, 2, none⟩ = some (.int .i64 z)) [12] ⟨mm, q0, q1, q2⟩ (fun hHeld => ?_)
      have hd_ := below_drew (below_alloc (RowKit.Below.refl wr.heap.size wr) (.cells #[.int .i64 x, .int .i64 y, .int .i64 z] 186))
      have HUD := Aside0.mk (HU.out.below hd_)
      have HBD := Aside0.mk (HBP.out.below (below_drew (RowKit.Below.refl _ _)))
      have n0_ := Aside0.mk (And.intro (HK.out.1.below hd_) (And.intro (HK.out.2.1.below hd_) (HK.out.2.2.upd (I := fun _ => False) (Upd.of_below _ hd_) (fun _ _ h => h))))
      clear HK HBP hd_
      generalize (wr.alloc (.cells #[.int .i64 x, .int .i64 y, .int .i64 z] 186)).drew = wd at *
      have HN := n0_
      clear n0_
      have HSV := Aside0.mk (save_own (κ.ext w.heap.size (i + 999999)) (i + 1) fb each N x y l' (rest.take z) ad2 c2 hxN hNN (by rw [HTL.out]; omega) (by rw [HTL.out]; omega) wd HN.out.2.1 (RdB.takeAt (HRD.out _ _ (((Upd.of_below κ HB1.out).paint _ _ (Nat.le_refl _)).then HUD.out (fun _ h => h))) (by rw [hrl]; exact hz)))
      rw [HTL.out] at HSV
      refine pu_ 0 26 1 ?_
      refine pu_ 1 27 3 ?_
      refine pu_ 2 28 7 ?_
      refine pu_ 4 30 23 ?_
      refine pu_ 6 32 87 ?_
      refine pu_ 8 34 343 ?_
      refine pu_ 9 35 855 ?_
      refine ta_ 3 29 863 hHeld ?_
      refine ta_ 5 31 895 hHeld ?_
      refine ta_ 7 33 1023 hHeld ?_
      refine ta_ 10 36 2047 hHeld ?_
      refine pu_ 11 37 4095 ?_
      refine last_ (i := 12) (N := some 38) (bz 14 8191) rfl rfl (by kernel_rfl) (by decide) (fun K hK => ?_)
      refine goes_ Tryz.func123 (by kernel_rfl) rfl #[.pointer (some ⟨fb, 0, none⟩), .int .i64 x, .int .i64 y, .slice (some ad2) z c2] (by rfl) rfl rfl (by simp only [List.map_toArray, List.map_cons, List.map_nil]; rfl) ?_
      with_reducible refine (HSV.out).mono ?_
      rintro e_ w5 ⟨rfl, q1_, q2_⟩
      refine ⟨_, rfl, ?_⟩
      have HQ := Aside0.mk (And.intro q1_ q2_)
      have t2 := (BlkK.upd (κ1 := κ.ext w.heap.size (i + 999999)) ⟨Kol.ext_new κ (Nat.le_trans HB1.out.size HU.out.chg.size), HBD.out⟩ q2_ (by omega)).blk.at 2 (.int .i64 z) rfl
      clear q1_ q2_
      refine hK.out _ _ ?_
      clear hK K
      refine no_ 38 ?_
      refine pu_ 13 11 16383 ?_
      refine done_ (by kernel_rfl) ?_
      go_wp2_with fail
      refine ⟨⟨k', a + z, n - z, don ++ [(x, y, z)], A3, c2 - z, spliceB l' (x * 64 + y) (rest.take z), rest.drop z, ?_, by rfl, by omega, by omega, ?_, by omega, by omega, by rw [List.length_drop, hrl], ?_, ?_, ?_, ?_⟩, ?_⟩
      · rw [List.length_append, HDL.out]; simp
      · rw [HPS.out, HPE.out]; simp
      · rw [saveS_snoc, HE.out.2]
      · intro κ' w' hu
        have := HR3.out w' rest hrl (by rw [← hrl]; exact HRD.out κ' w' hu)
        rwa [List.length_drop, hrl]
      · exact ⟨fb, tb, HN.out.1.upd HQ.out.2 (by omega), HQ.out.1, HN.out.2.2.upd HQ.out.2 (fun c hc => by omega)⟩
      · exact HUD.out.then HQ.out.2 (fun _ h => h)
      · simp only [intOf]; omega
    · obtain rfl : n = 0 := by omega
      rw [pcs_zero, List.append_nil] at hp
      have hdn : dl = pn := by rw [← HPN.out, ← HPS.out, hp, hdl]
      subst hdn
      clear hp hsv hrd hmem hU hdl
      go_wp2_with fail
      go_ret
      refine ⟨rfl, _, ?_, ((Upd.of_below κ HB1.out).paint _ _ (Nat.le_refl _)).then HU.out (fun _ h => h)⟩
      have he := HE.out.1
      rw [pcs_zero, List.append_nil] at he
      rw [← HM0.out, he, HE.out.2]
      exact HME.out
/-- Bytes loaded, piece by piece. -/
def loadS (l : List Nat) (ps : List (Nat × Nat × Nat)) : List Nat := ps.flatMap fun p => (l.drop (p.1 * 64 + p.2.1)).take p.2.2
def RelRd (each N n0 : Nat) (l : List Nat) (pf : Nat → Nat) (a0 : Nat) (w w1 : World) (v10 v24 : Value) (wr : World) : Prop :=
  ∃ k a n don, v24 = .int .i64 ((don.length : Nat) : Int) ∧ n ≤ k ∧ pcs pf n0 a0 n0 = don ++ pcs pf k a n ∧ a + n = a0 + n0 ∧ a0 ≤ a ∧ (loadS l don).length ≤ n0 - n ∧ wr.ownsRow w1.heap.size 5 1 v10 (loadS l don).length (nums .u8 ((loadS l don).map fun (x : Nat) => (x : Int))) ∧ RowKit.Below w1.heap.size w1 wr
set_option maxHeartbeats 4000000 in
set_option maxRecDepth 100000 in
theorem mem_read (κ : Kol) (i b each N c n0 : Nat) (l : List Nat) (f g : Int → Option Int) (pf : Nat → Nat) (a0 : Nat) (hNN : N ≤ 100000) (hN : n0 ≤ 65536) (ha : a0 + n0 ≤ 262144) (hf : ∀ q, 0 < n0 → a0 / 64 ≤ q → q * 64 < a0 + n0 → f (q : Int) = some ((pf q : Nat) : Int) ∧ pf q < N) (w : World) (h : MemK κ i w b each N l c f g) :
    Calls Tryz.prog 67 #[.pointer (some ⟨b, 0, none⟩), .int .i64 a0, .int .i64 n0] w fun e w' => ∃ A cp, e = .returned (.tuple #[.slice A (loadS l (pcs pf n0 a0 n0)).length cp, .int .i64 0]) ∧ RdB w' A (loadS l (pcs pf n0 a0 n0)).length (loadS l (pcs pf n0 a0 n0)) ∧ RowKit.Below w.heap.size w w' := by
  have HP := Aside0.mk (pieces_own κ i b each N c l f g pf a0 n0 hN ha (fun q h0 h1 h2 => (hf q h0 h1 h2).1) w h)
  have HM := Aside0.mk h
  have HF := Aside0.mk hf
  obtain ⟨ps, hps⟩ : ∃ ps, pcs pf n0 a0 n0 = ps := ⟨_, rfl⟩
  have HPS := Aside0.mk hps
  rw [hps] at HP ⊢
  have info1 : (Tryz.prog.info? 5).map (fun i => (i.zero, i.size, i.bytes)) = some (some (.int .u8 0), 1, 1) := by kernel_rfl
  clear h hf hps
  go_enter Tryz.func67, Tryz.ntmps67
  go_wp2_with (go_at_call 122; (with_reducible refine HP.out.mono ?_); rintro e_ w1 ⟨A1, cp, rfl, q1, q2⟩; have HR1 := Aside0.mk q1; have HB1 := Aside0.mk q2; clear q1 q2)
  have H0 := Aside0.mk (show RelRd each N n0 l pf a0 w w1 (.slice none 0 0) (.int .i64 0) w1 from
    ⟨n0, a0, n0, [], rfl, Nat.le_refl _, rfl, rfl, Nat.le_refl _, by simp [loadS], ⟨rfl, .inl ⟨rfl, rfl⟩⟩, RowKit.Below.refl _ _⟩)
  obtain ⟨pn, hpn⟩ : ∃ pn, ps.length = pn := ⟨_, rfl⟩
  have hpn2 : pn ≤ 65536 := by rw [← hpn, ← HPS.out]; exact Nat.le_trans (pcs_len pf _ _ _) hN
  have HPN := Aside0.mk hpn
  rw [hpn] at HR1 ⊢
  clear hpn
  go_loopw [10, 12, 13, 14, 24] (fun v10 _ _ _ v24 wr => RelRd each N n0 l pf a0 w w1 v10 v24 wr) (fun _ _ _ _ v24 _ => pn - (intOf v24).toNat)
  case atStart => exact H0.out
  case round =>
    clear H0
    obtain ⟨k, a, n, don, rfl, hk, hp, han, haa, hll, hrow, hB⟩ := hrel
    have HE := Aside0.mk hp
    have HROW := Aside0.mk hrow
    have HBB := Aside0.mk hB
    obtain ⟨dl, hdl⟩ : ∃ dl, don.length = dl := ⟨_, rfl⟩
    have HDL := Aside0.mk hdl
    rw [hdl]
    have HRW := Aside0.mk (Kd.R_below HR1.out (show RowKit.Below w1.heap.size w1 wr from hB))
    by_cases hz : 0 < n
    · obtain ⟨k', rfl⟩ : ∃ k', k = k' + 1 := ⟨k - 1, by omega⟩
      obtain ⟨z, hzz⟩ : ∃ z, min n (64 - a % 64) = z := ⟨_, rfl⟩
      obtain ⟨x, hx⟩ : ∃ x, pf (a / 64) = x := ⟨_, rfl⟩
      obtain ⟨y, hy⟩ : ∃ y, a % 64 = y := ⟨_, rfl⟩
      have hcons : pcs pf (k' + 1) a n = (x, y, z) :: pcs pf k' (a + z) (n - z) := by rw [pcs, if_neg (by omega), hzz, hx, hy]
      have hz1 : 1 ≤ z ∧ z ≤ n ∧ y + z ≤ 64 := by omega
      have hxN : x < N := by rw [← hx]; exact (HF.out (a / 64) (by omega) (by omega) (by omega)).2
      have hpe : ps = don ++ (x, y, z) :: pcs pf k' (a + z) (n - z) := by rw [← HPS.out, hp, hcons]
      have HPE := Aside0.mk hpe
      have hlt : dl < pn := by rw [← HPN.out, hpe, ← hdl]; simp
      have hpl := HPN.out
      obtain ⟨gp, cp', e1, p0, p1, p2⟩ := pc_own HRW.out dl x y z (by rw [hpe, ← hdl]; simp)
      rw [hpl] at e1
      injection e1 with e1 e2 e3
      subst e1
      clear e2 e3
      have hltI : (dl : Int) < (pn : Int) := by omega
      have d0 : (0 : Int) ≤ (dl : Int) := by omega
      obtain ⟨fb, tb, k1, k2, k3⟩ := HM.out.below (below_then HB1.out HB1.out.size hB)
      have m0_ := k1.blk.at 0 (.pointer (some ⟨fb, 0, none⟩)) rfl
      have HK := Aside0.mk (And.intro k1 k2)
      have HLL := Aside0.mk hll
      clear hp hrow hB hdl hzz hx hy hcons hpe hpl k1 k2 k3 hll
      go_upto_region 6 with fail
      have HBP := Aside0.mk (Blk.new wr #[.int .i64 x, .int .i64 y, .int .i64 z] 186)
      have q0 := HBP.out.at 0 (.int .i64 x) rfl
      have q1 := HBP.out.at 1 (.int .i64 y) rfl
      have q2 := HBP.out.at 2 (.int .i64 z) rfl
      have mm := ((HK.out.1.blk.alloc (.cells #[.int .i64 x, .int .i64 y, .int .i64 z] 186))).at 0 (.pointer (some ⟨fb, 0, none⟩)) rfl
      refine st_ 16 (fun w' => w'.cell? ⟨b, 0, none⟩ = some (.pointer (some ⟨fb, 0, none⟩)) ∧ w'.cell? ⟨wr.heap.size, 0, none⟩ = some (.int .i64 x) ∧ w'.cell? ⟨wr.heap.size, 1, none⟩ = some (.int .i64 y) ∧ w'.cell? ⟨wr.heap.size, 2, none⟩ = some (.int .i64 z)) [10] ⟨mm, q0, q1, q2⟩ (fun hHeld => ?_)
      have hd_ := below_drew (below_alloc (RowKit.Below.refl wr.heap.size wr) (.cells #[.int .i64 x, .int .i64 y, .int .i64 z] 186))
      have HBD := Aside0.mk (below_then HBB.out HBB.out.size hd_)
      have HRD := Aside0.mk (Kd.R_below (Kd.R_of_own (enc := Value.int .u8) (h1 := fun _ => rfl) (ok := fun _ => True) (xs := (loadS l don).map fun (x : Nat) => (x : Int)) (by rw [List.length_map]; exact HROW.out) (fun _ _ => trivial)) hd_)
      have n0_ := Aside0.mk (HK.out.2.below hd_)
      clear HK HBP hd_
      generalize (wr.alloc (.cells #[.int .i64 x, .int .i64 y, .int .i64 z] 186)).drew = wd at *
      have HN := n0_
      clear n0_
      have HLD := Aside0.mk (load_own κ (i + 1) fb each N x y z l hxN hNN hz1.2.2 (by omega) wd HN.out)
      refine pu_ 0 29 1 ?_
      refine pu_ 1 30 3 ?_
      refine pu_ 2 31 7 ?_
      refine pu_ 4 33 23 ?_
      refine pu_ 6 35 87 ?_
      refine pu_ 8 37 343 ?_
      refine ta_ 3 32 351 hHeld ?_
      refine ta_ 5 34 383 hHeld ?_
      refine ta_ 7 36 511 hHeld ?_
      refine ta_ 9 38 1023 hHeld ?_
      refine last_ (i := 10) (N := some 39) (bz 16 2047) rfl rfl (by kernel_rfl) (by decide) (fun K hK => ?_)
      refine goes_ Tryz.func124 (by kernel_rfl) rfl #[.pointer (some ⟨fb, 0, none⟩), .int .i64 x, .int .i64 y, .int .i64 z] (by rfl) rfl rfl (by simp only [List.map_toArray, List.map_cons, List.map_nil]; rfl) ?_
      with_reducible refine (HLD.out).mono ?_
      rintro e_ w5 ⟨A4, c4, rfl, q1_, q2_, q3_⟩
      refine ⟨_, rfl, ?_⟩
      have HQ := Aside0.mk (And.intro q1_ (And.intro q2_ q3_))
      clear q1_ q2_ q3_
      refine hK.out _ _ ?_
      clear hK K
      refine no_ 39 ?_
      refine pu_ 11 28 4095 ?_
      refine pu_ 12 40 8191 ?_
      refine pu_ 13 41 16383 ?_
      refine pu_ 14 13 32767 ?_
      refine pu_ 15 14 65535 ?_
      refine done_ (by kernel_rfl) ?_
      have HL2 := Aside0.mk (show (loadS l (don ++ [(x, y, z)])) = loadS l don ++ (l.drop (x * 64 + y)).take z by unfold loadS; rw [List.flatMap_append]; simp)
      have HZ := Aside0.mk HQ.out.2.1.len
      go_wp2_with ((with_reducible refine gate_builtin (b := .append) (xs := #[.tmp 45, .tmp 46]) rfl ?_); at_builtin; refine print_append_row (w0 := w1) w1.heap.size rfl (.tmp 45) (.tmp 46) 23 5 .u8 1 rfl Tryz.underlying23 info1 (by decide) u10 ((loadS l don).map fun (x : Nat) => (x : Int)) (((l.drop (x * 64 + y)).take z).map fun (x : Nat) => (x : Int)) A4 z c4 rfl rfl (Kd.own_of_R (Kd.R_below HRD.out HQ.out.2.2)) (Kd.reads_of_C (d := (0 : Int)) HQ.out.2.1) (below_then HBD.out HBD.out.size HQ.out.2.2) (below_then HBD.out HBD.out.size HQ.out.2.2).size (by have := HLL.out; rw [List.length_map]; omega) ?_; intro v7 w7 ho7 hb7 hg7 hat7; obtain ⟨A7, c7, rfl⟩ := own_slice ho7; have H7 := Aside0.mk (And.intro ho7 hb7); clear ho7 hb7 hg7 hat7)
      refine ⟨⟨k', a + z, n - z, don ++ [(x, y, z)], ?_, by omega, ?_, by omega, by omega, ?_, ?_, H7.out.2⟩, ?_⟩
      · rw [List.length_append, HDL.out]; simp
      · rw [HPS.out, HPE.out]; simp
      · rw [HL2.out, List.length_append]
        have := HLL.out; have := HZ.out; omega
      · rw [HL2.out]
        have := H7.out.1
        rw [← List.map_append, List.length_map] at this
        rw [show (loadS l don).length + min z (l.length - (x * 64 + y)) = (loadS l don ++ List.take z (List.drop (x * 64 + y) l)).length by simp]
        exact this
      · simp only [intOf]; omega
    · obtain rfl : n = 0 := by omega
      rw [pcs_zero, List.append_nil] at hp
      have hdn : dl = pn := by rw [← HPN.out, ← HPS.out, hp, hdl]
      subst hdn
      obtain ⟨A5, c5, rfl⟩ := own_slice hrow
      clear hp hrow hB hdl
      go_wp2_with fail
      go_ret2
      have he := HE.out
      rw [pcs_zero, List.append_nil] at he
      have hpd : ps = don := by rw [← HPS.out, he]
      subst hpd
      refine ⟨A5, c5, rfl, ?_, below_then HB1.out HB1.out.size HBB.out⟩
      have hl2 : ((loadS l ps).map fun (x : Nat) => (x : Int)).length = (loadS l ps).length := List.length_map _
      obtain ⟨A, c_, e, _, hC⟩ := Kd.R_reads (Kd.R_of_own (enc := Value.int .u8) (h1 := fun _ => rfl) (ok := fun _ => True) (xs := (loadS l ps).map fun (x : Nat) => (x : Int)) (by rw [hl2]; exact HROW.out) (fun _ _ => trivial))
      rw [hl2] at e hC
      injection e with e1 e2
      subst e1
      exact hC
end Go.Proofs.YtenkdmloolbdaaaGreatDoor.T
end
section
namespace Go.Proofs.YtenkdmloolbdaaaGreatDoor.T
open Go.RowKit Go.Maps Go.WideShapes Go.Proofs.YtenkdmloolbdaaaGreatDoorW.PrintWords Go.Proofs.YtenkdmloolbdaaaGreatDoorW.PrintLast Go.Proofs.YtenkdmloolbdaaaGreatDoorW.PrintMore
set_option linter.unusedVariables false
set_option linter.unusedSimpArgs false
/-- A buddy's cells, of any values where the sets stand. -/
def budC (n : Nat) (v : Nat → Value) (t : Nat) : Array Value := #[.int .i64 n, v 0, v 1, v 2, v 3, v 4, v 5, v 6, v 7, v 8, v 9, v 10, .map (some t)]
theorem budC_at (n : Nat) (v : Nat → Value) (t k : Nat) (hk : k < 11) : (budC n v t)[1 + k]? = some (v k) := by
  match k, hk with
  | 0, _ => rfl
  | 1, _ => rfl
  | 2, _ => rfl
  | 3, _ => rfl
  | 4, _ => rfl
  | 5, _ => rfl
  | 6, _ => rfl
  | 7, _ => rfl
  | 8, _ => rfl
  | 9, _ => rfl
  | 10, _ => rfl
theorem budC_set (n : Nat) (v : Nat → Value) (t k : Nat) (hk : k < 11) (u : Value) : (budC n v t).setIfInBounds (1 + k) u = budC n (fun j => if j = k then u else v j) t := by
  match k, hk with
  | 0, _ => rfl
  | 1, _ => rfl
  | 2, _ => rfl
  | 3, _ => rfl
  | 4, _ => rfl
  | 5, _ => rfl
  | 6, _ => rfl
  | 7, _ => rfl
  | 8, _ => rfl
  | 9, _ => rfl
  | 10, _ => rfl
theorem budC_eq {n t : Nat} {v u : Nat → Value} (h : ∀ k, k < 11 → v k = u k) : budC n v t = budC n u t := by
  unfold budC
  rw [h 0 (by decide), h 1 (by decide), h 2 (by decide), h 3 (by decide), h 4 (by decide), h 5 (by decide), h 6 (by decide), h 7 (by decide), h 8 (by decide), h 9 (by decide), h 10 (by decide)]
def p2s : List Nat := [1, 2, 4, 8, 16, 32, 64, 128, 256, 512, 1024]
theorem p2_and : ∀ n ∈ p2s, Go.bits .and .i64 ((n : Nat) : Int) ((n : Int) - 1) = 0 := by decide +kernel
theorem p2_le : ∀ n ∈ p2s, 1 ≤ n ∧ n ≤ 1024 := by decide +kernel
theorem shl_64 : ∀ j : Nat, j < 11 → wrap64 ((2 : Int) ^ j) = ((2 ^ j : Nat) : Int) := by decide +kernel
/-- The free runs of an order of a new buddy. -/
def iniS (n k : Nat) : List Nat := if 2 ^ k = n then [0] else []
theorem Upd.of_grown {κ : Kol} {i b : Nat} {w w1 : World} (h : w.grownBy w1 (some b)) (hk : κ b = i) : Upd (· = i) κ w κ w1 :=
  ⟨fun _ _ => rfl, ⟨h.os, h.tape, h.output, h.size, fun x hx hne => h.block x hx (fun e => hne (by injection e with e; rw [e]; exact hk))⟩⟩
def RelNew (κ : Kol) (i n : Nat) (w : World) (b t : Nat) (v23 : Value) (wr : World) : Prop :=
  ∃ (j : Nat) (m : Nat → Nat) (κ1 : Kol), v23 = .int .i64 ((j : Nat) : Int) ∧ j ≤ 11 ∧ BlkK κ1 i wr b (budC n (fun k => if k < j then .map (some (m k)) else .map none) t) 199 ∧ (∀ k, k < j → SetK κ1 (i + 1 + k) wr (m k) (iniS n k)) ∧ MapI κ1 (i + 12) wr t 0 (fun _ => none) ∧ (∀ x, x < w.heap.size → κ1 x = κ x) ∧ RowKit.Below w.heap.size w wr
theorem RelNew.step {κ κ1 : Kol} {i n j b t : Nat} {m : Nat → Nat} {w wr w1 : World} (hlt : j < 11) (hb : BlkK κ1 i wr b (budC n (fun k => if k < j then .map (some (m k)) else .map none) t) 199) (hs : ∀ k, k < j → SetK κ1 (i + 1 + k) wr (m k) (iniS n k)) (ht : MapI κ1 (i + 12) wr t 0 (fun _ => none)) (hκ : ∀ x, x < w.heap.size → κ1 x = κ x) (hB : RowKit.Below w.heap.size w wr) (hbw : w.heap.size ≤ b)
    (hU : Upd (· = i + 1 + j) (κ1.ext wr.heap.size (i + 1 + j)) ((wr.alloc (.map #[] 0)).setCell ⟨b, 1 + j, none⟩ (.map (some wr.heap.size))) (κ1.ext wr.heap.size (i + 1 + j)) w1) (hset : SetK (κ1.ext wr.heap.size (i + 1 + j)) (i + 1 + j) w1 wr.heap.size (iniS n j)) (hB1 : RowKit.Below w.heap.size ((wr.alloc (.map #[] 0)).setCell ⟨b, 1 + j, none⟩ (.map (some wr.heap.size))) w1) :
    RelNew κ i n w b t (.int .i64 (((j + 1 : Nat)) : Int)) w1 := by
  have hU1 : Upd (fun _ => False) κ1 wr (κ1.ext wr.heap.size (i + 1 + j)) (wr.alloc (.map #[] 0)) := (Upd.of_below κ1 (below_alloc (RowKit.Below.refl _ _) _)).paint _ _ (Nat.le_refl _)
  have hb1 := hb.upd hU1 (fun h => h)
  have hU2 : Upd (· = i) (κ1.ext wr.heap.size (i + 1 + j)) (wr.alloc (.map #[] 0)) (κ1.ext wr.heap.size (i + 1 + j)) ((wr.alloc (.map #[] 0)).setCell ⟨b, 1 + j, none⟩ (.map (some wr.heap.size))) := (Upd.refl _ _ _).set ⟨b, 1 + j, none⟩ (fun _ => hb1.kol) _
  have hb2 := (hb1.set (1 + j) (.map (some wr.heap.size))).upd hU (by omega)
  rw [budC_set n _ t j hlt] at hb2
  refine ⟨j + 1, fun k => if k = j then wr.heap.size else m k, κ1.ext wr.heap.size (i + 1 + j), rfl, hlt, ?_, fun k hk => ?_, ((ht.upd hU1 (fun h => h)).upd hU2 (by omega)).upd hU (by omega), fun x hx => (Kol.ext_old κ1 (Nat.lt_of_lt_of_le hx hB.size)).trans (hκ x hx), ?_⟩
  · rw [budC_eq (u := fun k => if k < j + 1 then .map (some (if k = j then wr.heap.size else m k)) else .map none)] at hb2
    · exact hb2
    · intro k hk
      by_cases e : k = j
      · subst e; simp
      · by_cases e2 : k < j
        · simp [e, e2, show k < j + 1 by omega]
        · simp [e, e2, show ¬ k < j + 1 by omega]
  · by_cases e : k = j
    · subst e; simpa using hset
    · simp only [if_neg e]
      exact (((hs k (by omega)).upd hU1 (fun h => h)).upd hU2 (by omega)).upd hU (by omega)
  · have h1 : RowKit.Below w.heap.size w ((wr.alloc (.map #[] 0)).setCell ⟨b, 1 + j, none⟩ (.map (some wr.heap.size))) := RowKit.Below.setCell (p := ⟨b, 1 + j, none⟩) (below_alloc hB _) hbw _
    exact h1.trans hB1
set_option maxHeartbeats 2000000 in
set_option maxRecDepth 100000 in
theorem bud_new (κ : Kol) (i n : Nat) (hn : n ∈ p2s) (w : World) :
    Calls Tryz.prog 137 #[.int .i64 n] w fun e w' => ∃ κ' b, e = .returned (.tuple #[.pointer (some ⟨b, 0, none⟩), .int .i64 0]) ∧ BuddyK κ' i w' b n 0 (iniS n) (fun _ => none) ∧ w.heap.size ≤ b ∧ (∀ x, x < w.heap.size → κ' x = κ x) ∧ RowKit.Below w.heap.size w w' := by
  have hle := p2_le n hn
  have n1 : (1 : Int) ≤ (n : Int) := by omega
  have n2 : (n : Int) ≤ 1024 := by omega
  have ea := p2_and n hn
  have ew : wrap64 ((n : Int) - 1) = (n : Int) - 1 := IntWalk.wrap64_in _ ⟨by omega, by omega⟩
  have hmm := @run_makeMap Tryz.prog
  clear hn hle
  go_enter Tryz.func137, Tryz.ntmps137
  go_wp2_with fail
  have H0 := Aside0.mk (show RelNew κ i n w (w.heap.size + 1) w.heap.size (.int .i64 0) ((w.alloc (.map #[] 0)).alloc (.cells #[.int .i64 n, .map none, .map none, .map none, .map none, .map none, .map none, .map none, .map none, .map none, .map none, .map none, .map (some w.heap.size)] 199)) from by
    refine ⟨0, fun _ => 0, fun x => if x < w.heap.size then κ x else if x = w.heap.size then i + 12 else i, rfl, Nat.zero_le _, ⟨?_, Blk.new1 w _ _ _⟩, fun k hk => absurd hk (Nat.not_lt_zero _), ⟨?_, .map [], (World.ownsMap_made w _ _ _).alloc _, fun k _ => ⟨rfl, rfl⟩⟩, fun x hx => if_pos hx, below_alloc (below_alloc (RowKit.Below.refl _ _) _) _⟩
    · show (if w.heap.size + 1 < w.heap.size then _ else _) = _
      rw [if_neg (by omega), if_neg (by omega)]
    · show (if w.heap.size < w.heap.size then _ else _) = _
      rw [if_neg (by omega), if_pos rfl])
  go_loopw [5, 23] (fun _ v23 wr => RelNew κ i n w (w.heap.size + 1) w.heap.size v23 wr) (fun _ v23 _ => 11 - (intOf v23).toNat)
  case atStart => exact H0.out
  case round =>
    clear H0
    obtain ⟨j, m, κ1, rfl, hj, hb, hs, ht, hκ, hB⟩ := hrel
    have HBK := Aside0.mk hb
    have HS := Aside0.mk hs
    have HT := Aside0.mk ht
    have HK := Aside0.mk hκ
    have HB := Aside0.mk hB
    by_cases hlt : j < 11
    · have s0 := (hb.blk.alloc (.map #[] 0)).at (1 + j) _ (budC_at n _ _ j hlt)
      have f0 := (hb.blk.alloc (.map #[] 0)).fz (1 + j)
      simp only [Nat.lt_irrefl, if_false] at s0
      have j0 : (0 : Int) ≤ (j : Int) := by omega
      have jl : (j : Int) < 11 := by omega
      have hj10 : (j : Int) + 1 ≤ 11 := by omega
      have es := shl_64 j hlt
      have hown0 : ((wr.alloc (.map #[] 0)).setCell ⟨w.heap.size + 1, 1 + j, none⟩ (.map (some wr.heap.size))).ownsMap Tryz.prog 3 (plainElem (H := Unit) Tryz.prog 4) wr.heap.size 0 (.map []) :=
        owns_chg (F := (· = w.heap.size + 1)) (World.ownsMap_made _ _ _ _) ((Chg.refl (· = w.heap.size + 1) _).set ⟨w.heap.size + 1, 1 + j, none⟩ (fun _ => rfl) _) (fun e => by have := hb.blk.lt; omega)
      have HO := Aside0.mk hown0
      clear hb hs ht hκ hB hown0
      by_cases he : 2 ^ j = n
      · have ec : (wrap64 ((2 : Int) ^ j) == (n : Int)) = true := by rw [es, he]; simp
        have HI := Aside0.mk (show iniS n j = [0] from if_pos he)
        clear es he
        go_wp2_with (at_mapUpdate; refine wpList_mapUpdate_own _ rfl _ _ _ 196 rfl 3 4 int_law Tryz.underlying196 (plainElem Tryz.prog 4) wr.heap.size 0 (.map []) rfl HO.out (by decide) _ (.bool true) (.int .i64 ((0 : Nat) : Int)) rfl rfl (keyOf_int_mk Tryz.underlying3 (by decide)) (.lit (.bool true)) [] (plainElem_bool Tryz.underlying4 true) ?_; intro w1 hown1 hg1; have HW := Aside0.mk (And.intro hown1 hg1); clear hown1 hg1)
        refine ⟨HBK.out.blk.lt |> fun _ => ?_, ?_⟩
        · have h1 := RelNew.step hlt HBK.out HS.out HT.out HK.out HB.out (by omega) (Upd.of_grown HW.out.2 (Kol.ext_new _ (Nat.le_refl _))) ⟨Kol.ext_new _ (Nat.le_refl _), _, by rw [HI.out]; exact HW.out.1, by rw [HI.out]; exact SV.put (s := []) ⟨List.nodup_nil, rfl, fun k _ => ⟨rfl, rfl⟩⟩ tidy_empty 0 (by simp) (by decide) (List.Perm.refl _)⟩ ((RowKit.Below.refl _ _).grown HW.out.2 (by have := HB.out.size; have := setCell_size (wr.alloc (.map #[] 0)) ⟨w.heap.size + 1, 1 + j, none⟩ (.map (some wr.heap.size)); rw [World.size_alloc] at this; omega) (fun k e => by injection e with e; have := HB.out.size; omega))
          exact h1
        · simp only [intOf]; omega
      · have ec : (wrap64 ((2 : Int) ^ j) == (n : Int)) = false := by rw [es]; exact beq_eq_false_iff_ne.mpr (fun e => he (by exact_mod_cast e))
        have HI := Aside0.mk (show iniS n j = [] from if_neg he)
        clear es he
        go_wp2_with fail
        refine ⟨?_, ?_⟩
        · have h1 := RelNew.step hlt HBK.out HS.out HT.out HK.out HB.out (by omega) (Upd.refl _ _ _) ⟨Kol.ext_new _ (Nat.le_refl _), .map [], by rw [HI.out]; exact HO.out, by rw [HI.out]; exact ⟨List.nodup_nil, rfl, fun k _ => ⟨rfl, rfl⟩⟩⟩ (RowKit.Below.refl _ _)
          exact h1
        · simp only [intOf]; omega
    · obtain rfl : j = 11 := by omega
      clear hb hs ht hκ hB
      go_wp2_with fail
      go_ret2
      refine ⟨κ1, w.heap.size + 1, rfl, ⟨m, w.heap.size, ?_, fun k hk => HS.out k hk, HT.out⟩, by omega, HK.out, HB.out⟩
      have := HBK.out
      rw [budC_eq (u := fun k => .map (some (m k))) (fun k hk => if_pos hk)] at this
      exact this
end Go.Proofs.YtenkdmloolbdaaaGreatDoor.T
end
