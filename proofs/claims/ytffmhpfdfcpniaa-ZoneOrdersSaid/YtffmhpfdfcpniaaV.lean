/- The law ZoneOrders, walked. -/
import Derived.Test.YtffmhpfdfcpniaaU
import Derived.Deep.DeepCutAuto
namespace Go.Proofs.Ytffmhpfdfcpniaa.T
open Go.RowKit Go.Proofs.YtffmhpfdfcpniaaW.PrintWords Go.Proofs.YtffmhpfdfcpniaaW.PrintLast Go.Proofs.YtffmhpfdfcpniaaW.PrintMore Go.Proofs.Ytffmhpfdfcpniaa.PH
set_option linter.unusedVariables false
set_option linter.unusedSimpArgs false
/-- What was asked, in a box. -/
def AskR (w : World) (b : Nat) (node s : Int) (M : Option Addr) (m cm : Nat) : Prop :=
  w.heap[b]? = some (.cells #[.int .i64 node, .int .u8 s, .slice M m cm] 28 (0, 0))
section
variable {w w' : World} {b : Nat} {node s : Int} {M : Option Addr} {m cm : Nat}
theorem AskR.a0 (h : AskR w b node s M m cm) : w.cell? ⟨b, 0, none⟩ = some (.int .i64 node) := by simp only [World.cell?]; rw [show w.heap[b]? = _ from h]; rfl
theorem AskR.a1 (h : AskR w b node s M m cm) : w.cell? ⟨b, 1, none⟩ = some (.int .u8 s) := by simp only [World.cell?]; rw [show w.heap[b]? = _ from h]; rfl
theorem AskR.a2 (h : AskR w b node s M m cm) : w.cell? ⟨b, 2, none⟩ = some (.slice M m cm) := by simp only [World.cell?]; rw [show w.heap[b]? = _ from h]; rfl
theorem AskR.below (h : AskR w b node s M m cm) (hb : RowKit.Below w.heap.size w w') : AskR w' b node s M m cm := (hb.block b (Array.getElem?_eq_some_iff.1 (show w.heap[b]? = _ from h)).1).trans h
theorem AskR.new (w : World) (o : Obj) (node s : Int) (M : Option Addr) (m cm : Nat) : AskR ((w.alloc o).alloc (.cells #[.int .i64 node, .int .u8 s, .slice M m cm] 28)) (w.heap.size + 1) node s M m cm := alloc_two _ _ _
theorem AskR.set (h : AskR w b node s M m cm) (p : Addr) (hp : b ≠ p.block) (u : Value) : AskR (w.setCell p u) b node s M m cm := (RowKit.Below.heap_setCell w p u b hp).trans h
theorem AskR.store (h : AskR w b node s M m cm) (g : Nat) (hp : b ≠ g) (v0 v1 v2 v3 : Value) : AskR ((((w.setCell ⟨g, 0, none⟩ v0).setCell ⟨g, 1, none⟩ v1).setCell ⟨g, 2, none⟩ v2).setCell ⟨g, 3, none⟩ v3) b node s M m cm :=
  (((h.set ⟨g, 0, none⟩ hp v0).set ⟨g, 1, none⟩ hp v1).set ⟨g, 2, none⟩ hp v2).set ⟨g, 3, none⟩ hp v3
end
/-- A list that a call gave: none, or a row of its own. -/
def OwnL (w : World) (v : Value) (l : List Int) : Prop := (v = .slice none 0 0 ∧ l = []) ∨ ∃ g cap cur, v = .slice (some ⟨g, 0, none⟩) l.length cap ∧ RowAt w 0 g cap cur l
theorem own_ol {w : World} {base : Nat} {v : Value} {l : List Int} (h : w.ownsRow base 3 1 v l.length (nums .i64 l)) : OwnL w v l := by
  rcases own_open h with h | ⟨g, cap, cur, h1, h2⟩
  · exact .inl h
  · exact .inr ⟨g, cap, cur, h1, Nat.zero_le _, h2.cell, h2.lc, h2.cm, h2.cs, h2.tk⟩
theorem OwnL.below {w w' : World} {v : Value} {l : List Int} (h : OwnL w v l) (hb : RowKit.Below w.heap.size w w') : OwnL w' v l := by
  rcases h with h | ⟨g, cap, cur, h1, h2⟩
  · exact .inl h
  · exact .inr ⟨g, cap, cur, h1, h2.below hb⟩
theorem own_C {w : World} {base q : Nat} {v : Value} {l : List Int} (h : w.ownsRow base 3 1 v l.length (nums .i64 l)) (hq : l.length = q ∧ q ≤ 1000) : ∃ A c, v = .slice A q c ∧ q ≤ c ∧ Kd.C (Kd.int .i64) w A q l := by
  obtain ⟨rfl, h1⟩ := hq
  rcases own_open h with ⟨rfl, rfl⟩ | ⟨g, cap, cur, rfl, h2⟩
  · exact ⟨none, 0, rfl, Nat.le_refl _, Kd.C_nil _ _⟩
  · exact ⟨_, cap, rfl, h2.lc, h2.C h1⟩
theorem OwnL.sl {w : World} {v : Value} {l : List Int} {p : Nat} (h : OwnL w v l) (hp : l.length = p) : ∃ A c, v = .slice A p c := by
  subst hp
  rcases h with ⟨rfl, rfl⟩ | ⟨g, cap, cur, rfl, _⟩
  · exact ⟨_, _, rfl⟩
  · exact ⟨_, _, rfl⟩
theorem OwnL.row {w : World} {v : Value} {l : List Int} {p : Nat} (h : OwnL w v l) (hp : l.length = p) (h0 : 0 < p) : ∃ g cap cur, v = .slice (some ⟨g, 0, none⟩) p cap ∧ RowAt w 0 g cap cur l := by
  subst hp
  rcases h with ⟨rfl, rfl⟩ | h
  · simp at h0
  · exact h
theorem RowAt.Cp {w : World} {base g cap : Nat} {cur : Array Value} {l : List Int} {p : Nat} (h : RowAt w base g cap cur l) (hp : l.length = p) (hl : l.length ≤ 1000) : Kd.C (Kd.int .i64) w (some ⟨g, 0, none⟩) p l := hp ▸ h.C hl
theorem RowAt.lp {w : World} {base g cap : Nat} {cur : Array Value} {l : List Int} {p : Nat} (h : RowAt w base g cap cur l) (hp : l.length = p) : p ≤ cap := hp ▸ h.lc
theorem R_open {w : World} {t base q : Nat} {ok : Nat → Prop} {v : Value} {xs : List Int} (h : Kd.R (Kd.int .i64) t w base ok v xs) (hq : xs.length = q) : ∃ A c, v = .slice A q c ∧ q ≤ c ∧ Kd.C (Kd.int .i64) w A q xs := by
  subst hq
  exact Kd.R_reads h
def RelOr (q : Nat) (ws : List Int) (mm : List Bool) (w3 : World) (v14 : Value) (wr : World) : Prop :=
  ∃ i : Nat, v14 = .int .i64 i ∧ i ≤ q ∧ (∀ j, j < i → okB mm (rd ws (j : Int)) = false) ∧ RowKit.Below w3.heap.size w3 wr
theorem no_next {f : Nat → Bool} {i : Nat} (h : ∀ j, j < i → f j = false) (hi : f i = false) : ∀ j, j < i + 1 → f j = false := by
  intro j hj
  rcases Nat.lt_or_ge j i with h1 | h1
  · exact h j h1
  · obtain rfl : j = i := by omega
    exact hi
theorem inL_len (s : Int) (l : List Int) : (inL s l).length ≤ l.length := List.length_filter_le _ _
set_option maxHeartbeats 4000000 in
set_option maxRecDepth 100000 in
theorem orders_own (n f : Int) (A : Option Addr) (ca : Nat) (cpus : List Int) (B : Option Addr) (cb : Nat) (dist : List (List Int)) (node s : Int) (M : Option Addr) (cm : Nat) (may : List Bool) (w : World) (hr2 : Kd.C (Kd.int .i64) w A cpus.length cpus) (hca : cpus.length ≤ ca) (hr3 : Kd.C (Kd.slice 3 (Kd.int .i64)) w B dist.length dist) (hcb : dist.length ≤ cb) (hrm : Kd.C Kd.bool w M may.length may) (hcm : may.length ≤ cm) :
    Calls Try.prog 3 #[.agg #[.int .i64 n, .int .i64 f, .slice A cpus.length ca, .slice B dist.length cb], .agg #[.int .i64 node, .int .u8 s, .slice M may.length cm]] w fun e w' => e = .returned (.bool true) ∧ RowKit.Below w.heap.size w w' := by
  obtain ⟨cs, hcs⟩ : ∃ cs, cpus.take 20 = cs := ⟨_, rfl⟩
  obtain ⟨ds, hds⟩ : ∃ ds, dist.take 10 = ds := ⟨_, rfl⟩
  obtain ⟨mm, hmm⟩ : ∃ mm, may.take 10 = mm := ⟨_, rfl⟩
  obtain ⟨m, hm⟩ : ∃ m, mm.length = m := ⟨_, rfl⟩
  obtain ⟨lm, hlm⟩ : ∃ lm, may.length = lm := ⟨_, rfl⟩
  have h20 : min cpus.length 20 = cs.length := by rw [← hcs, List.length_take]; omega
  have h10 : min dist.length 10 = ds.length := by rw [← hds, List.length_take]; omega
  have hm10 : min lm 10 = m := by rw [← hm, ← hmm, List.length_take]; omega
  have HT := Aside0.mk (fun (W : World) => tame_own n f A cpus.length ca B dist.length cb cs.length ds.length W h20 h10 hca hcb hr2.2.1 hr3.2.1)
  have HC2 := Aside0.mk (show Kd.C (Kd.int .i64) w A cs.length cs from hcs ▸ C_take' hr2 20)
  have HC3 := Aside0.mk (show Kd.C (Kd.slice 3 (Kd.int .i64)) w B ds.length ds from hds ▸ C_take' hr3 10)
  have HCM := Aside0.mk (show Kd.C Kd.bool w M mm.length mm from hmm ▸ C_take' hrm 10)
  have hca' : cs.length ≤ ca := by omega
  have hcb' : ds.length ≤ cb := by omega
  obtain ⟨l, hl⟩ : ∃ l, lstN n f cs ds node = l := ⟨_, rfl⟩
  obtain ⟨p, hp⟩ : ∃ p, l.length = p := ⟨_, rfl⟩
  obtain ⟨ws, hws⟩ : ∃ ws, inL s l = ws := ⟨_, rfl⟩
  obtain ⟨q, hq⟩ : ∃ q, ws.length = q := ⟨_, rfl⟩
  obtain ⟨er, her⟩ : ∃ er, erN n f cs ds node = er := ⟨_, rfl⟩
  obtain ⟨o, ho⟩ : ∃ o, nearR mm ws = o := ⟨_, rfl⟩
  obtain ⟨c, hc⟩ : ∃ c, chk n f cs ds = c := ⟨_, rfl⟩
  have hp8 : p ≤ 8 := by rw [← hp, ← hl]; exact lstN_len _ _ _ _ _
  have hq8 : q ≤ 8 := by have := inL_len s l; rw [hws, hq] at this; omega
  have HQL := Aside0.mk (show ws.length = q ∧ q ≤ 1000 from ⟨hq, by omega⟩)
  have HOR := Aside0.mk (show ∀ W : World, RowKit.Below w.heap.size w W → Calls Try.prog 11 #[.agg #[.int .i64 n, .int .i64 f, .slice A cs.length ca, .slice B ds.length cb], .int .i64 node] W (fun e w' => ∃ v, e = .returned (.tuple #[v, .int .i64 er]) ∧ w'.ownsRow W.heap.size 3 1 v l.length (nums .i64 l) ∧ RowKit.Below W.heap.size W w') from fun W hW => by
    have := order_own n f A ca cs B cb ds node W (Kd.C_below HC2.out hW) hca' (Kd.C_below HC3.out hW) hcb'
    rw [hl, her] at this
    exact this)
  have HWI := Aside0.mk (show ∀ (W : World), RowKit.Below w.heap.size w W → Calls Try.prog 13 #[.agg #[.int .i64 n, .int .i64 f, .slice A cs.length ca, .slice B ds.length cb], .int .i64 node, .int .u8 s] W (fun e w' => ∃ v, e = .returned (.tuple #[v, .int .i64 er]) ∧ w'.ownsRow W.heap.size 3 1 v ws.length (nums .i64 ws) ∧ RowKit.Below W.heap.size W w') from fun W hW => by
    have := within_own n f A ca cs B cb ds node s W (Kd.C_below HC2.out hW) hca' (Kd.C_below HC3.out hW) hcb'
    rw [hl, her, hws] at this
    exact this)
  have HNE := Aside0.mk (show ∀ W : World, RowKit.Below w.heap.size w W → Calls Try.prog 14 #[.agg #[.int .i64 n, .int .i64 f, .slice A cs.length ca, .slice B ds.length cb], .int .i64 node, .int .u8 s, .slice M m cm] W (fun e w' => e = .returned (.tuple #[.int .i64 (o.getD 0), .bool o.isSome]) ∧ RowKit.Below W.heap.size W w') from fun W hW => by
    have := nearest_own n f A ca cs B cb ds node s M cm mm W (Kd.C_below HC2.out hW) hca' (Kd.C_below HC3.out hW) hcb' (Kd.C_below HCM.out hW)
    rw [hl, hws, ho, hm] at this
    exact this)
  have HCK := Aside0.mk (show ∀ W : World, RowKit.Below w.heap.size w W → Calls Try.prog 16 #[.agg #[.int .i64 n, .int .i64 f, .slice A cs.length ca, .slice B ds.length cb]] W (fun e w' => e = .returned (.int .i64 c) ∧ RowKit.Below W.heap.size W w') from fun W hW =>
    messuageref03_Check.calls 200 n f A ca cs B cb ds c W (Kd.C_below HC2.out hW) hca' (Kd.C_below HC3.out hW) hcb' (by rw [r03_f n f cs ds HC3.out.2.1 HC2.out.2.1, hc]))
  have HO := Aside0.mk ho
  have HCE := Aside0.mk hc
  have HL := Aside0.mk hl
  have HER := Aside0.mk her
  have HWS := Aside0.mk hws
  have HP := Aside0.mk hp
  have HPL := Aside0.mk (show l.length ≤ 1000 by omega)
  have HMM := Aside0.mk hm
  have hlcm : lm ≤ cm := by omega
  rw [hlm]
  rw [hm] at HCM
  clear hr2 hr3 hrm hcm h20 h10 hcs hds ho hc hl her hws hp hq hmm hm hlm hp8 hq8
  go_enter Try.func3, Try.ntmps3
  go_upto_region 2 with (first | (go_at_call 10; (with_reducible refine (HT.out _).mono ?_); rintro e_ w2 ⟨rfl, hb⟩; have HX := Aside0.mk (((BoxR.new w n f A cpus.length ca B dist.length cb).below (below_alloc (RowKit.Below.refl _ _) _)).below hb); have HA := Aside0.mk ((AskR.new w _ node s M lm cm).below hb); have HB := Aside0.mk (below_then (below_alloc (below_alloc (RowKit.Below.refl w.heap.size w) _) _) (below_alloc (below_alloc (RowKit.Below.refl w.heap.size w) _) _).size hb); have c0 := HX.out.c0; have c1 := HX.out.c1; have c2 := HX.out.c2; have c3 := HX.out.c3; have f0 := HX.out.fz 0; have f1 := HX.out.fz 1; have f2 := HX.out.fz 2; have f3 := HX.out.fz 3; clear hb))
  have HX2 := Aside0.mk (HX.out.store n f A cs.length ca B ds.length cb)
  have HA2 := Aside0.mk (HA.out.store w.heap.size (by omega) (.int .i64 n) (.int .i64 f) (.slice A cs.length ca) (.slice B ds.length cb))
  have HB2 := Aside0.mk (below_store HB.out (Nat.le_refl _) (.int .i64 n) (.int .i64 f) (.slice A cs.length ca) (.slice B ds.length cb))
  clear HX HB HA c0 c1 c2 c3 f0 f1 f2 f3
  generalize (((w2.setCell { block := w.heap.size, off := 0 } (Value.int IntKind.i64 n)).setCell { block := w.heap.size, off := 1 } (Value.int IntKind.i64 f)).setCell { block := w.heap.size, off := 2 } (Value.slice A cs.length ca)).setCell { block := w.heap.size, off := 3 } (Value.slice B ds.length cb) = W at *
  have HX := HX2
  have HB := HB2
  have HA := HA2
  clear HX2 HB2 HA2 HT
  have c0 := HX.out.c0
  have c1 := HX.out.c1
  have c2 := HX.out.c2
  have c3 := HX.out.c3
  have a0 := HA.out.a0
  have a1 := HA.out.a1
  have a2 := HA.out.a2
  go_cut [5] from 17 to 23 (fun t5 wc => t5 = .slice M m cm ∧ wc = W)
  case first =>
    rcases Nat.lt_or_ge 10 lm with hlt | hge
    · have i1 : 10 < (lm : Int) := by omega
      go_wp2_with fail
      all_goals first | (exfalso; omega) | skip
      go_meet
      case rel => exact ⟨congrArg (fun x => Value.slice M x cm) (by omega), rfl⟩
    · have i1 : (lm : Int) ≤ 10 := by omega
      go_wp2_with fail
      all_goals first | (exfalso; omega) | skip
      go_meet
      case rel => exact ⟨congrArg (fun x => Value.slice M x cm) (by omega), rfl⟩
  case rest =>
  obtain ⟨rfl, rfl⟩ := hcut
  clear a2 hm10 hlcm
  go_upto_region 3 with fail
  refine start_ (n := 10) (S := fun w' => w'.cell? ⟨w.heap.size, 0, none⟩ = some (.int .i64 n) ∧ w'.cell? ⟨w.heap.size, 1, none⟩ = some (.int .i64 f) ∧ w'.cell? ⟨w.heap.size, 2, none⟩ = some (.slice A cs.length ca) ∧ w'.cell? ⟨w.heap.size, 3, none⟩ = some (.slice B ds.length cb) ∧ w'.cell? ⟨w.heap.size + 1, 0, none⟩ = some (.int .i64 node) ∧ w'.cell? ⟨w.heap.size + 1, 1, none⟩ = some (.int .u8 s)) (ds := []) #[false, false, false, false, false, false, false, false, false, false] (by kernel_rfl) rfl rfl ⟨c0, c1, c2, c3, a0, a1⟩ (fun hHeld => ?_)
  have hd_ := below_drew (RowKit.Below.refl wc.heap.size wc)
  have n0_ := Aside0.mk (below_then HB.out HB.out.size hd_)
  have n1_ := Aside0.mk (HX.out.below hd_)
  have n2_ := Aside0.mk (HA.out.below hd_)
  clear HB HX HA c0 c1 c2 c3 a0 a1 hd_
  have HB := n0_
  have HX := n1_
  have HA := n2_
  clear n0_ n1_ n2_
  have c0 := HX.out.c0
  have c1 := HX.out.c1
  have c2 := HX.out.c2
  have c3 := HX.out.c3
  have a0 := HA.out.a0
  have a1 := HA.out.a1
  generalize wc.drew = wd3 at *
  refine pure_ (i := 2) (N := some 27) (v := ?_) (a' := ?_) #[false, false, true, false, false, false, false, false, false, false] rfl rfl (by kernel_rfl) (fun _ _ _ h => h) (Or.inl ⟨by rfl, ?_⟩) ?_ ?_
  rotate_left
  · intro w'
    go_simp
    with_reducible rfl
  rotate_left
  · simp only [Act.put, List.setIfInBounds_toArray, List.set_cons_zero, List.set_cons_succ, i64_w, i32_w]
    rfl
  refine take_ (i := 0) (N := some 25) (v := ?_) (a' := ?_) #[true, false, true, false, false, false, false, false, false, false] rfl rfl (by kernel_rfl) (fun _ _ _ h => h) (Or.inl ⟨by rfl, ?_⟩) hHeld ?_ ?_
  rotate_left
  · rintro w' ⟨s0, s1, s2, s3, s4, s5⟩
    go_simp
    with_reducible rfl
  rotate_left
  · simp only [Act.put, List.setIfInBounds_toArray, List.set_cons_zero, List.set_cons_succ, i64_w, i32_w]
    rfl
  refine take_ (i := 3) (N := some 28) (v := ?_) (a' := ?_) #[true, false, true, true, false, false, false, false, false, false] rfl rfl (by kernel_rfl) (fun _ _ _ h => h) (Or.inl ⟨by rfl, ?_⟩) hHeld ?_ ?_
  rotate_left
  · rintro w' ⟨s0, s1, s2, s3, s4, s5⟩
    go_simp
    with_reducible rfl
  rotate_left
  · simp only [Act.put, List.setIfInBounds_toArray, List.set_cons_zero, List.set_cons_succ, i64_w, i32_w]
    rfl
  refine one_ (i := 1) (N := some 26) #[true, true, true, true, false, false, false, false, false, false] rfl rfl (by kernel_rfl) (by decide) (fun K hK => ?_)
  refine goes_ Try.func12 (by kernel_rfl) rfl #[.agg #[.int .i64 n, .int .i64 f, .slice A cs.length ca, .slice B ds.length cb]] (by rfl) rfl rfl (by simp only [List.map_toArray, List.map_cons, List.map_nil]; rfl) ?_
  with_reducible refine (to_own n f A cs.length ca B ds.length cb _).mono ?_
  rintro e_ w31 ⟨rfl, hb⟩
  refine ⟨_, rfl, ?_⟩
  have n0_ := Aside0.mk (below_then HB.out HB.out.size hb)
  have n1_ := Aside0.mk (HX.out.below hb)
  have n2_ := Aside0.mk (HA.out.below hb)
  clear HB HX HA c0 c1 c2 c3 a0 a1 hb
  have HB := n0_
  have HX := n1_
  have HA := n2_
  clear n0_ n1_ n2_
  have c0 := HX.out.c0
  have c1 := HX.out.c1
  have c2 := HX.out.c2
  have c3 := HX.out.c3
  have a0 := HA.out.a0
  have a1 := HA.out.a1
  refine hK.out _ _ ⟨HX.out.c0, HX.out.c1, HX.out.c2, HX.out.c3, HA.out.a0, HA.out.a1⟩ (fun hHeld => ?_)
  clear hK K
  refine norm_ (a' := ?_) ?_ ?_
  rotate_left
  · show Act.put _ (some 26) _ = _
    simp only [Act.put, List.setIfInBounds_toArray, List.set_cons_zero, List.set_cons_succ, i64_w, i32_w]
    rfl
  refine one_ (i := 4) (N := some 29) #[true, true, true, true, true, false, false, false, false, false] rfl rfl (by kernel_rfl) (by decide) (fun K hK => ?_)
  refine goes_ Try.func11 (by kernel_rfl) rfl #[.agg #[.int .i64 n, .int .i64 f, .slice A cs.length ca, .slice B ds.length cb], .int .i64 node] (by rfl) rfl rfl (by simp only [List.map_toArray, List.map_cons, List.map_nil]; rfl) ?_
  with_reducible refine (HOR.out _ HB.out).mono ?_
  rintro e_ w32 ⟨v, rfl, hown, hb⟩
  refine ⟨_, rfl, ?_⟩
  have HOL := Aside0.mk (own_ol hown)
  clear hown
  have n0_ := Aside0.mk (below_then HB.out HB.out.size hb)
  have n1_ := Aside0.mk (HX.out.below hb)
  have n2_ := Aside0.mk (HA.out.below hb)
  clear HB HX HA c0 c1 c2 c3 a0 a1 hb
  have HB := n0_
  have HX := n1_
  have HA := n2_
  clear n0_ n1_ n2_
  have c0 := HX.out.c0
  have c1 := HX.out.c1
  have c2 := HX.out.c2
  have c3 := HX.out.c3
  have a0 := HA.out.a0
  have a1 := HA.out.a1
  refine hK.out _ _ ⟨HX.out.c0, HX.out.c1, HX.out.c2, HX.out.c3, HA.out.a0, HA.out.a1⟩ (fun hHeld => ?_)
  clear hK K
  refine norm_ (a' := ?_) ?_ ?_
  rotate_left
  · show Act.put _ (some 29) _ = _
    simp only [Act.put, List.setIfInBounds_toArray, List.set_cons_zero, List.set_cons_succ, i64_w, i32_w]
    rfl
  refine pure_ (i := 5) (N := some 24) (v := ?_) (a' := ?_) #[true, true, true, true, true, true, false, false, false, false] rfl rfl (by kernel_rfl) (fun _ _ _ h => h) (Or.inl ⟨by rfl, ?_⟩) ?_ ?_
  rotate_left
  · intro w'
    go_simp
    with_reducible rfl
  rotate_left
  · simp only [Act.put, List.setIfInBounds_toArray, List.set_cons_zero, List.set_cons_succ, i64_w, i32_w]
    rfl
  refine pure_ (i := 6) (N := some 30) (v := ?_) (a' := ?_) #[true, true, true, true, true, true, true, false, false, false] rfl rfl (by kernel_rfl) (fun _ _ _ h => h) (Or.inl ⟨by rfl, ?_⟩) ?_ ?_
  rotate_left
  · intro w'
    go_simp
    with_reducible rfl
  rotate_left
  · simp only [Act.put, List.setIfInBounds_toArray, List.set_cons_zero, List.set_cons_succ, i64_w, i32_w]
    rfl
  refine pure_ (i := 7) (N := some 31) (v := ?_) (a' := ?_) #[true, true, true, true, true, true, true, true, false, false] rfl rfl (by kernel_rfl) (fun _ _ _ h => h) (Or.inl ⟨by rfl, ?_⟩) ?_ ?_
  rotate_left
  · intro w'
    go_simp
    with_reducible rfl
  rotate_left
  · simp only [Act.put, List.setIfInBounds_toArray, List.set_cons_zero, List.set_cons_succ, i64_w, i32_w]
    rfl
  refine pure_ (i := 8) (N := some 6) (v := ?_) (a' := ?_) #[true, true, true, true, true, true, true, true, true, false] rfl rfl (by kernel_rfl) (fun _ _ _ h => h) (Or.inl ⟨by rfl, ?_⟩) ?_ ?_
  rotate_left
  · intro w'
    go_simp
    with_reducible rfl
  rotate_left
  · simp only [Act.put, List.setIfInBounds_toArray, List.set_cons_zero, List.set_cons_succ, i64_w, i32_w]
    rfl
  refine pure_ (i := 9) (N := some 7) (v := ?_) (a' := ?_) #[true, true, true, true, true, true, true, true, true, true] rfl rfl (by kernel_rfl) (fun _ _ _ h => h) (Or.inl ⟨by rfl, ?_⟩) ?_ ?_
  rotate_left
  · intro w'
    go_simp
    with_reducible rfl
  rotate_left
  · simp only [Act.put, List.setIfInBounds_toArray, List.set_cons_zero, List.set_cons_succ, i64_w, i32_w]
    rfl
  refine done_ (by kernel_rfl) ?_
  go_upto_region 4 with fail
  refine start_ (n := 12) (S := fun w' => w'.cell? ⟨w.heap.size, 0, none⟩ = some (.int .i64 n) ∧ w'.cell? ⟨w.heap.size, 1, none⟩ = some (.int .i64 f) ∧ w'.cell? ⟨w.heap.size, 2, none⟩ = some (.slice A cs.length ca) ∧ w'.cell? ⟨w.heap.size, 3, none⟩ = some (.slice B ds.length cb) ∧ w'.cell? ⟨w.heap.size + 1, 0, none⟩ = some (.int .i64 node) ∧ w'.cell? ⟨w.heap.size + 1, 1, none⟩ = some (.int .u8 s)) (ds := []) #[false, false, false, false, false, false, false, false, false, false, false, false] (by kernel_rfl) rfl rfl ⟨c0, c1, c2, c3, a0, a1⟩ (fun hHeld => ?_)
  have hd_ := below_drew (RowKit.Below.refl w32.heap.size w32)
  have n0_ := Aside0.mk (below_then HB.out HB.out.size hd_)
  have n1_ := Aside0.mk (HX.out.below hd_)
  have n2_ := Aside0.mk (HA.out.below hd_)
  have n3_ := Aside0.mk (HOL.out.below hd_)
  clear HB HX HA HOL c0 c1 c2 c3 a0 a1 hd_
  have HB := n0_
  have HX := n1_
  have HA := n2_
  have HOL := n3_
  clear n0_ n1_ n2_ n3_
  have c0 := HX.out.c0
  have c1 := HX.out.c1
  have c2 := HX.out.c2
  have c3 := HX.out.c3
  have a0 := HA.out.a0
  have a1 := HA.out.a1
  generalize w32.drew = wd4 at *
  refine pure_ (i := 2) (N := some 35) (v := ?_) (a' := ?_) #[false, false, true, false, false, false, false, false, false, false, false, false] rfl rfl (by kernel_rfl) (fun _ _ _ h => h) (Or.inl ⟨by rfl, ?_⟩) ?_ ?_
  rotate_left
  · intro w'
    go_simp
    with_reducible rfl
  rotate_left
  · simp only [Act.put, List.setIfInBounds_toArray, List.set_cons_zero, List.set_cons_succ, i64_w, i32_w]
    rfl
  refine pure_ (i := 4) (N := some 37) (v := ?_) (a' := ?_) #[false, false, true, false, true, false, false, false, false, false, false, false] rfl rfl (by kernel_rfl) (fun _ _ _ h => h) (Or.inl ⟨by rfl, ?_⟩) ?_ ?_
  rotate_left
  · intro w'
    go_simp
    with_reducible rfl
  rotate_left
  · simp only [Act.put, List.setIfInBounds_toArray, List.set_cons_zero, List.set_cons_succ, i64_w, i32_w]
    rfl
  refine take_ (i := 0) (N := some 33) (v := ?_) (a' := ?_) #[true, false, true, false, true, false, false, false, false, false, false, false] rfl rfl (by kernel_rfl) (fun _ _ _ h => h) (Or.inl ⟨by rfl, ?_⟩) hHeld ?_ ?_
  rotate_left
  · rintro w' ⟨s0, s1, s2, s3, s4, s5⟩
    go_simp
    with_reducible rfl
  rotate_left
  · simp only [Act.put, List.setIfInBounds_toArray, List.set_cons_zero, List.set_cons_succ, i64_w, i32_w]
    rfl
  refine take_ (i := 3) (N := some 36) (v := ?_) (a' := ?_) #[true, false, true, true, true, false, false, false, false, false, false, false] rfl rfl (by kernel_rfl) (fun _ _ _ h => h) (Or.inl ⟨by rfl, ?_⟩) hHeld ?_ ?_
  rotate_left
  · rintro w' ⟨s0, s1, s2, s3, s4, s5⟩
    go_simp
    with_reducible rfl
  rotate_left
  · simp only [Act.put, List.setIfInBounds_toArray, List.set_cons_zero, List.set_cons_succ, i64_w, i32_w]
    rfl
  refine take_ (i := 5) (N := some 38) (v := ?_) (a' := ?_) #[true, false, true, true, true, true, false, false, false, false, false, false] rfl rfl (by kernel_rfl) (fun _ _ _ h => h) (Or.inl ⟨by rfl, ?_⟩) hHeld ?_ ?_
  rotate_left
  · rintro w' ⟨s0, s1, s2, s3, s4, s5⟩
    go_simp
    with_reducible rfl
  rotate_left
  · simp only [Act.put, List.setIfInBounds_toArray, List.set_cons_zero, List.set_cons_succ, i64_w, i32_w]
    rfl
  refine one_ (i := 1) (N := some 34) #[true, true, true, true, true, true, false, false, false, false, false, false] rfl rfl (by kernel_rfl) (by decide) (fun K hK => ?_)
  refine goes_ Try.func12 (by kernel_rfl) rfl #[.agg #[.int .i64 n, .int .i64 f, .slice A cs.length ca, .slice B ds.length cb]] (by rfl) rfl rfl (by simp only [List.map_toArray, List.map_cons, List.map_nil]; rfl) ?_
  with_reducible refine (to_own n f A cs.length ca B ds.length cb _).mono ?_
  rintro e_ w41 ⟨rfl, hb⟩
  refine ⟨_, rfl, ?_⟩
  have n0_ := Aside0.mk (below_then HB.out HB.out.size hb)
  have n1_ := Aside0.mk (HX.out.below hb)
  have n2_ := Aside0.mk (HA.out.below hb)
  have n3_ := Aside0.mk (HOL.out.below hb)
  clear HB HX HA HOL c0 c1 c2 c3 a0 a1 hb
  have HB := n0_
  have HX := n1_
  have HA := n2_
  have HOL := n3_
  clear n0_ n1_ n2_ n3_
  have c0 := HX.out.c0
  have c1 := HX.out.c1
  have c2 := HX.out.c2
  have c3 := HX.out.c3
  have a0 := HA.out.a0
  have a1 := HA.out.a1
  refine hK.out _ _ ⟨HX.out.c0, HX.out.c1, HX.out.c2, HX.out.c3, HA.out.a0, HA.out.a1⟩ (fun hHeld => ?_)
  clear hK K
  refine norm_ (a' := ?_) ?_ ?_
  rotate_left
  · show Act.put _ (some 34) _ = _
    simp only [Act.put, List.setIfInBounds_toArray, List.set_cons_zero, List.set_cons_succ, i64_w, i32_w]
    rfl
  refine one_ (i := 6) (N := some 39) #[true, true, true, true, true, true, true, false, false, false, false, false] rfl rfl (by kernel_rfl) (by decide) (fun K hK => ?_)
  refine goes_ Try.func13 (by kernel_rfl) rfl #[.agg #[.int .i64 n, .int .i64 f, .slice A cs.length ca, .slice B ds.length cb], .int .i64 node, .int .u8 s] (by rfl) rfl rfl (by simp only [List.map_toArray, List.map_cons, List.map_nil]; rfl) ?_
  with_reducible refine (HWI.out _ HB.out).mono ?_
  rintro e_ w42 ⟨v2, rfl, hown, hb⟩
  refine ⟨_, rfl, ?_⟩
  obtain ⟨A2, c2_, rfl, hc2, hC2⟩ := own_C hown HQL.out
  have HRB := Aside0.mk hC2
  have HCB := Aside0.mk hc2
  clear hown hC2 hc2
  have n0_ := Aside0.mk (below_then HB.out HB.out.size hb)
  have n1_ := Aside0.mk (HX.out.below hb)
  have n2_ := Aside0.mk (HA.out.below hb)
  have n3_ := Aside0.mk (HOL.out.below hb)
  clear HB HX HA HOL c0 c1 c2 c3 a0 a1 hb
  have HB := n0_
  have HX := n1_
  have HA := n2_
  have HOL := n3_
  clear n0_ n1_ n2_ n3_
  have c0 := HX.out.c0
  have c1 := HX.out.c1
  have c2 := HX.out.c2
  have c3 := HX.out.c3
  have a0 := HA.out.a0
  have a1 := HA.out.a1
  refine hK.out _ _ ⟨HX.out.c0, HX.out.c1, HX.out.c2, HX.out.c3, HA.out.a0, HA.out.a1⟩ (fun hHeld => ?_)
  clear hK K
  refine norm_ (a' := ?_) ?_ ?_
  rotate_left
  · show Act.put _ (some 39) _ = _
    simp only [Act.put, List.setIfInBounds_toArray, List.set_cons_zero, List.set_cons_succ, i64_w, i32_w]
    rfl
  refine pure_ (i := 7) (N := some 32) (v := ?_) (a' := ?_) #[true, true, true, true, true, true, true, true, false, false, false, false] rfl rfl (by kernel_rfl) (fun _ _ _ h => h) (Or.inl ⟨by rfl, ?_⟩) ?_ ?_
  rotate_left
  · intro w'
    go_simp
    with_reducible rfl
  rotate_left
  · simp only [Act.put, List.setIfInBounds_toArray, List.set_cons_zero, List.set_cons_succ, i64_w, i32_w]
    rfl
  refine pure_ (i := 8) (N := some 40) (v := ?_) (a' := ?_) #[true, true, true, true, true, true, true, true, true, false, false, false] rfl rfl (by kernel_rfl) (fun _ _ _ h => h) (Or.inl ⟨by rfl, ?_⟩) ?_ ?_
  rotate_left
  · intro w'
    go_simp
    with_reducible rfl
  rotate_left
  · simp only [Act.put, List.setIfInBounds_toArray, List.set_cons_zero, List.set_cons_succ, i64_w, i32_w]
    rfl
  refine pure_ (i := 9) (N := some 41) (v := ?_) (a' := ?_) #[true, true, true, true, true, true, true, true, true, true, false, false] rfl rfl (by kernel_rfl) (fun _ _ _ h => h) (Or.inl ⟨by rfl, ?_⟩) ?_ ?_
  rotate_left
  · intro w'
    go_simp
    with_reducible rfl
  rotate_left
  · simp only [Act.put, List.setIfInBounds_toArray, List.set_cons_zero, List.set_cons_succ, i64_w, i32_w]
    rfl
  refine pure_ (i := 10) (N := some 8) (v := ?_) (a' := ?_) #[true, true, true, true, true, true, true, true, true, true, true, false] rfl rfl (by kernel_rfl) (fun _ _ _ h => h) (Or.inl ⟨by rfl, ?_⟩) ?_ ?_
  rotate_left
  · intro w'
    go_simp
    with_reducible rfl
  rotate_left
  · simp only [Act.put, List.setIfInBounds_toArray, List.set_cons_zero, List.set_cons_succ, i64_w, i32_w]
    rfl
  refine pure_ (i := 11) (N := some 9) (v := ?_) (a' := ?_) #[true, true, true, true, true, true, true, true, true, true, true, true] rfl rfl (by kernel_rfl) (fun _ _ _ h => h) (Or.inl ⟨by rfl, ?_⟩) ?_ ?_
  rotate_left
  · intro w'
    go_simp
    with_reducible rfl
  rotate_left
  · simp only [Act.put, List.setIfInBounds_toArray, List.set_cons_zero, List.set_cons_succ, i64_w, i32_w]
    rfl
  refine done_ (by kernel_rfl) ?_
  go_upto_region 5 with fail
  refine start_ (n := 13) (S := fun w' => w'.cell? ⟨w.heap.size, 0, none⟩ = some (.int .i64 n) ∧ w'.cell? ⟨w.heap.size, 1, none⟩ = some (.int .i64 f) ∧ w'.cell? ⟨w.heap.size, 2, none⟩ = some (.slice A cs.length ca) ∧ w'.cell? ⟨w.heap.size, 3, none⟩ = some (.slice B ds.length cb) ∧ w'.cell? ⟨w.heap.size + 1, 0, none⟩ = some (.int .i64 node) ∧ w'.cell? ⟨w.heap.size + 1, 1, none⟩ = some (.int .u8 s)) (ds := []) #[false, false, false, false, false, false, false, false, false, false, false, false, false] (by kernel_rfl) rfl rfl ⟨c0, c1, c2, c3, a0, a1⟩ (fun hHeld => ?_)
  have hd_ := below_drew (RowKit.Below.refl w42.heap.size w42)
  have n0_ := Aside0.mk (below_then HB.out HB.out.size hd_)
  have n1_ := Aside0.mk (HX.out.below hd_)
  have n2_ := Aside0.mk (HA.out.below hd_)
  have n3_ := Aside0.mk (HOL.out.below hd_)
  have n4_ := Aside0.mk (Kd.C_below HRB.out hd_)
  clear HB HX HA HOL HRB c0 c1 c2 c3 a0 a1 hd_
  have HB := n0_
  have HX := n1_
  have HA := n2_
  have HOL := n3_
  have HRB := n4_
  clear n0_ n1_ n2_ n3_ n4_
  have c0 := HX.out.c0
  have c1 := HX.out.c1
  have c2 := HX.out.c2
  have c3 := HX.out.c3
  have a0 := HA.out.a0
  have a1 := HA.out.a1
  generalize w42.drew = wd5 at *
  refine pure_ (i := 2) (N := some 45) (v := ?_) (a' := ?_) #[false, false, true, false, false, false, false, false, false, false, false, false, false] rfl rfl (by kernel_rfl) (fun _ _ _ h => h) (Or.inl ⟨by rfl, ?_⟩) ?_ ?_
  rotate_left
  · intro w'
    go_simp
    with_reducible rfl
  rotate_left
  · simp only [Act.put, List.setIfInBounds_toArray, List.set_cons_zero, List.set_cons_succ, i64_w, i32_w]
    rfl
  refine pure_ (i := 4) (N := some 47) (v := ?_) (a' := ?_) #[false, false, true, false, true, false, false, false, false, false, false, false, false] rfl rfl (by kernel_rfl) (fun _ _ _ h => h) (Or.inl ⟨by rfl, ?_⟩) ?_ ?_
  rotate_left
  · intro w'
    go_simp
    with_reducible rfl
  rotate_left
  · simp only [Act.put, List.setIfInBounds_toArray, List.set_cons_zero, List.set_cons_succ, i64_w, i32_w]
    rfl
  refine pure_ (i := 6) (N := some 49) (v := ?_) (a' := ?_) #[false, false, true, false, true, false, true, false, false, false, false, false, false] rfl rfl (by kernel_rfl) (fun _ _ _ h => h) (Or.inl ⟨by rfl, ?_⟩) ?_ ?_
  rotate_left
  · intro w'
    go_simp
    with_reducible rfl
  rotate_left
  · simp only [Act.put, List.setIfInBounds_toArray, List.set_cons_zero, List.set_cons_succ, i64_w, i32_w]
    rfl
  refine take_ (i := 0) (N := some 43) (v := ?_) (a' := ?_) #[true, false, true, false, true, false, true, false, false, false, false, false, false] rfl rfl (by kernel_rfl) (fun _ _ _ h => h) (Or.inl ⟨by rfl, ?_⟩) hHeld ?_ ?_
  rotate_left
  · rintro w' ⟨s0, s1, s2, s3, s4, s5⟩
    go_simp
    with_reducible rfl
  rotate_left
  · simp only [Act.put, List.setIfInBounds_toArray, List.set_cons_zero, List.set_cons_succ, i64_w, i32_w]
    rfl
  refine take_ (i := 3) (N := some 46) (v := ?_) (a' := ?_) #[true, false, true, true, true, false, true, false, false, false, false, false, false] rfl rfl (by kernel_rfl) (fun _ _ _ h => h) (Or.inl ⟨by rfl, ?_⟩) hHeld ?_ ?_
  rotate_left
  · rintro w' ⟨s0, s1, s2, s3, s4, s5⟩
    go_simp
    with_reducible rfl
  rotate_left
  · simp only [Act.put, List.setIfInBounds_toArray, List.set_cons_zero, List.set_cons_succ, i64_w, i32_w]
    rfl
  refine take_ (i := 5) (N := some 48) (v := ?_) (a' := ?_) #[true, false, true, true, true, true, true, false, false, false, false, false, false] rfl rfl (by kernel_rfl) (fun _ _ _ h => h) (Or.inl ⟨by rfl, ?_⟩) hHeld ?_ ?_
  rotate_left
  · rintro w' ⟨s0, s1, s2, s3, s4, s5⟩
    go_simp
    with_reducible rfl
  rotate_left
  · simp only [Act.put, List.setIfInBounds_toArray, List.set_cons_zero, List.set_cons_succ, i64_w, i32_w]
    rfl
  refine one_ (i := 1) (N := some 44) #[true, true, true, true, true, true, true, false, false, false, false, false, false] rfl rfl (by kernel_rfl) (by decide) (fun K hK => ?_)
  refine goes_ Try.func12 (by kernel_rfl) rfl #[.agg #[.int .i64 n, .int .i64 f, .slice A cs.length ca, .slice B ds.length cb]] (by rfl) rfl rfl (by simp only [List.map_toArray, List.map_cons, List.map_nil]; rfl) ?_
  with_reducible refine (to_own n f A cs.length ca B ds.length cb _).mono ?_
  rintro e_ w51 ⟨rfl, hb⟩
  refine ⟨_, rfl, ?_⟩
  have n0_ := Aside0.mk (below_then HB.out HB.out.size hb)
  have n1_ := Aside0.mk (HX.out.below hb)
  have n2_ := Aside0.mk (HA.out.below hb)
  have n3_ := Aside0.mk (HOL.out.below hb)
  have n4_ := Aside0.mk (Kd.C_below HRB.out hb)
  clear HB HX HA HOL HRB c0 c1 c2 c3 a0 a1 hb
  have HB := n0_
  have HX := n1_
  have HA := n2_
  have HOL := n3_
  have HRB := n4_
  clear n0_ n1_ n2_ n3_ n4_
  have c0 := HX.out.c0
  have c1 := HX.out.c1
  have c2 := HX.out.c2
  have c3 := HX.out.c3
  have a0 := HA.out.a0
  have a1 := HA.out.a1
  refine hK.out _ _ ⟨HX.out.c0, HX.out.c1, HX.out.c2, HX.out.c3, HA.out.a0, HA.out.a1⟩ (fun hHeld => ?_)
  clear hK K
  refine norm_ (a' := ?_) ?_ ?_
  rotate_left
  · show Act.put _ (some 44) _ = _
    simp only [Act.put, List.setIfInBounds_toArray, List.set_cons_zero, List.set_cons_succ, i64_w, i32_w]
    rfl
  refine one_ (i := 7) (N := some 50) #[true, true, true, true, true, true, true, true, false, false, false, false, false] rfl rfl (by kernel_rfl) (by decide) (fun K hK => ?_)
  refine goes_ Try.func14 (by kernel_rfl) rfl #[.agg #[.int .i64 n, .int .i64 f, .slice A cs.length ca, .slice B ds.length cb], .int .i64 node, .int .u8 s, .slice M m cm] (by rfl) rfl rfl (by simp only [List.map_toArray, List.map_cons, List.map_nil]; rfl) ?_
  with_reducible refine (HNE.out _ HB.out).mono ?_
  rintro e_ w52 ⟨rfl, hb⟩
  refine ⟨_, rfl, ?_⟩
  have n0_ := Aside0.mk (below_then HB.out HB.out.size hb)
  have n1_ := Aside0.mk (HX.out.below hb)
  have n2_ := Aside0.mk (HA.out.below hb)
  have n3_ := Aside0.mk (HOL.out.below hb)
  have n4_ := Aside0.mk (Kd.C_below HRB.out hb)
  clear HB HX HA HOL HRB c0 c1 c2 c3 a0 a1 hb
  have HB := n0_
  have HX := n1_
  have HA := n2_
  have HOL := n3_
  have HRB := n4_
  clear n0_ n1_ n2_ n3_ n4_
  have c0 := HX.out.c0
  have c1 := HX.out.c1
  have c2 := HX.out.c2
  have c3 := HX.out.c3
  have a0 := HA.out.a0
  have a1 := HA.out.a1
  refine hK.out _ _ ⟨HX.out.c0, HX.out.c1, HX.out.c2, HX.out.c3, HA.out.a0, HA.out.a1⟩ (fun hHeld => ?_)
  clear hK K
  refine norm_ (a' := ?_) ?_ ?_
  rotate_left
  · show Act.put _ (some 50) _ = _
    simp only [Act.put, List.setIfInBounds_toArray, List.set_cons_zero, List.set_cons_succ, i64_w, i32_w]
    rfl
  refine pure_ (i := 8) (N := some 42) (v := ?_) (a' := ?_) #[true, true, true, true, true, true, true, true, true, false, false, false, false] rfl rfl (by kernel_rfl) (fun _ _ _ h => h) (Or.inl ⟨by rfl, ?_⟩) ?_ ?_
  rotate_left
  · intro w'
    go_simp
    with_reducible rfl
  rotate_left
  · simp only [Act.put, List.setIfInBounds_toArray, List.set_cons_zero, List.set_cons_succ, i64_w, i32_w]
    rfl
  refine pure_ (i := 9) (N := some 51) (v := ?_) (a' := ?_) #[true, true, true, true, true, true, true, true, true, true, false, false, false] rfl rfl (by kernel_rfl) (fun _ _ _ h => h) (Or.inl ⟨by rfl, ?_⟩) ?_ ?_
  rotate_left
  · intro w'
    go_simp
    with_reducible rfl
  rotate_left
  · simp only [Act.put, List.setIfInBounds_toArray, List.set_cons_zero, List.set_cons_succ, i64_w, i32_w]
    rfl
  refine pure_ (i := 10) (N := some 52) (v := ?_) (a' := ?_) #[true, true, true, true, true, true, true, true, true, true, true, false, false] rfl rfl (by kernel_rfl) (fun _ _ _ h => h) (Or.inl ⟨by rfl, ?_⟩) ?_ ?_
  rotate_left
  · intro w'
    go_simp
    with_reducible rfl
  rotate_left
  · simp only [Act.put, List.setIfInBounds_toArray, List.set_cons_zero, List.set_cons_succ, i64_w, i32_w]
    rfl
  refine pure_ (i := 11) (N := some 10) (v := ?_) (a' := ?_) #[true, true, true, true, true, true, true, true, true, true, true, true, false] rfl rfl (by kernel_rfl) (fun _ _ _ h => h) (Or.inl ⟨by rfl, ?_⟩) ?_ ?_
  rotate_left
  · intro w'
    go_simp
    with_reducible rfl
  rotate_left
  · simp only [Act.put, List.setIfInBounds_toArray, List.set_cons_zero, List.set_cons_succ, i64_w, i32_w]
    rfl
  refine pure_ (i := 12) (N := some 11) (v := ?_) (a' := ?_) #[true, true, true, true, true, true, true, true, true, true, true, true, true] rfl rfl (by kernel_rfl) (fun _ _ _ h => h) (Or.inl ⟨by rfl, ?_⟩) ?_ ?_
  rotate_left
  · intro w'
    go_simp
    with_reducible rfl
  rotate_left
  · simp only [Act.put, List.setIfInBounds_toArray, List.set_cons_zero, List.set_cons_succ, i64_w, i32_w]
    rfl
  refine done_ (by kernel_rfl) ?_
  go_upto_region 9 with (first | (go_at_call 15; (with_reducible refine (zones_own _).mono ?_); rintro e_ w6 ⟨rfl, hb⟩; have n0_ := Aside0.mk (below_then HB.out HB.out.size hb); have n1_ := Aside0.mk (HX.out.below hb); have n2_ := Aside0.mk (HA.out.below hb); have n3_ := Aside0.mk (HOL.out.below hb); have n4_ := Aside0.mk (Kd.C_below HRB.out hb); clear HB HX HA HOL HRB c0 c1 c2 c3 a0 a1 hb; have HB := n0_; have HX := n1_; have HA := n2_; have HOL := n3_; have HRB := n4_; clear n0_ n1_ n2_ n3_ n4_; have c0 := HX.out.c0; have c1 := HX.out.c1; have c2 := HX.out.c2; have c3 := HX.out.c3; have a0 := HA.out.a0; have a1 := HA.out.a1) | (go_at_call 16; (with_reducible refine (HCK.out _ HB.out).mono ?_); rintro e_ w6 ⟨rfl, hb⟩; have n0_ := Aside0.mk (below_then HB.out HB.out.size hb); have n1_ := Aside0.mk (HX.out.below hb); have n2_ := Aside0.mk (HA.out.below hb); have n3_ := Aside0.mk (HOL.out.below hb); have n4_ := Aside0.mk (Kd.C_below HRB.out hb); clear HB HX HA HOL HRB c0 c1 c2 c3 a0 a1 hb; have HB := n0_; have HX := n1_; have HA := n2_; have HOL := n3_; have HRB := n4_; clear n0_ n1_ n2_ n3_ n4_; have c0 := HX.out.c0; have c1 := HX.out.c1; have c2 := HX.out.c2; have c3 := HX.out.c3; have a0 := HA.out.a0; have a1 := HA.out.a1))
  have hle : er ≠ 0 → p = 0 ∧ q = 0 ∧ o = none := by
    intro he
    have h1 : l = [] := by rw [← HL.out]; unfold lstN; rw [if_neg (by rw [HER.out]; exact he)]
    have h2 : ws = [] := by rw [← HWS.out, h1]; rfl
    exact ⟨by rw [← HP.out, h1]; rfl, by rw [← HQL.out.1, h2]; rfl, by rw [← HO.out, h2]; rfl⟩
  clear HOR HWI HNE HCK
  by_cases hc0 : c = 0
  · subst hc0
    by_cases hno : node < 0 ∨ n ≤ node
    · obtain rfl : er = 10 := by rw [← HER.out]; unfold erN; rw [if_pos HCE.out, if_pos hno]
      obtain ⟨rfl, rfl, rfl⟩ := hle (by decide)
      obtain ⟨A1, c1_, rfl⟩ := HOL.out.sl HP.out
      clear hle HCE HER HL HWS HP HO
      by_cases hn0 : node < 0
      · have b1 : decide (node < 0) = true := decide_eq_true hn0
        clear hno
        go_wp2_with fail
        go_ret
        exact ⟨rfl, HB.out⟩
      · have hn1 : n ≤ node := by omega
        have b1 : decide (node < 0) = false := decide_eq_false hn0
        have b2 : decide (n ≤ node) = true := decide_eq_true hn1
        clear hno
        go_wp2_with fail
        go_ret
        exact ⟨rfl, HB.out⟩
    · clear hle
      obtain rfl : er = 0 := by rw [← HER.out]; unfold erN; rw [if_pos HCE.out, if_neg hno]
      obtain ⟨k, a, rfl, rfl, hak, h1, h8, hck, hf⟩ := er_zero HER.out
      have hol := HL.out
      rw [show lstN (k : Int) f cs ds (a : Int) = ordL ds a k from by unfold lstN; rw [if_pos HER.out, Int.toNat_natCast, Int.toNat_natCast]] at hol
      subst hol
      obtain ⟨k', hk', _, _, hdl, hrl, hfits⟩ := chk_zero hck
      obtain rfl : k = k' := by omega
      clear hk'
      have hpk := HP.out
      rw [ordL_len ds a k hf] at hpk
      obtain rfl : k = p := hpk
      obtain ⟨g, cap, cur, rfl, hra⟩ := HOL.out.row HP.out (by omega)
      have HRA := Aside0.mk hra
      have HFIR := Aside0.mk (ordL_first ds a k hak hf (hfits a hak))
      have HRW0 := Aside0.mk (show ∀ W : World, RowKit.Below w.heap.size w W → Calls Try.prog 17 #[.agg #[.int .i64 k, .int .i64 f, .slice A cs.length ca, .slice B ds.length cb], .int .i64 a, .int .u8 s] W (fun e w' => ∃ A3 c3, e = .returned (.slice A3 q c3) ∧ q ≤ c3 ∧ Kd.C (Kd.int .i64) w' A3 q ws ∧ RowKit.Below W.heap.size W w') from fun W hW => by
        refine (messuageref04_Within.calls 3000 (k : Int) f A ca cs B cb ds (a : Int) s ws W (Kd.C_below HC2.out hW) hca' (Kd.C_below HC3.out hW) hcb' (by rw [r04w_f k h8 f cs ds a hak hdl (hrl a hak) hf s 3000 (Nat.le_refl _), HWS.out])).mono ?_
        rintro e_ w_ ⟨v_, rfl, hR, hb⟩
        obtain ⟨A3, c3, rfl, h3, h4⟩ := R_open hR HQL.out.1
        exact ⟨A3, c3, rfl, h3, h4, hb⟩)
      have HRO0 := Aside0.mk (show ∀ W : World, RowKit.Below w.heap.size w W → Calls Try.prog 19 #[.agg #[.int .i64 k, .int .i64 f, .slice A cs.length ca, .slice B ds.length cb], .int .i64 a] W (fun e w' => ∃ A3 c3, e = .returned (.slice A3 k c3) ∧ k ≤ c3 ∧ Kd.C (Kd.int .i64) w' A3 k (ordL ds a k) ∧ RowKit.Below W.heap.size W w') from fun W hW => by
        refine (messuageref04_Order.calls 3000 (k : Int) f A ca cs B cb ds (a : Int) (ordL ds a k) W (Kd.C_below HC2.out hW) hca' (Kd.C_below HC3.out hW) hcb' (r04_f k h8 f cs ds a hak hdl (hrl a hak) hf 3000 (Nat.le_refl _))).mono ?_
        rintro e_ w_ ⟨v_, rfl, hR, hb⟩
        obtain ⟨A3, c3, rfl, h3, h4⟩ := R_open hR HP.out
        exact ⟨A3, c3, rfl, h3, h4, hb⟩)
      have HNN := Aside0.mk (show ∀ j, j < q → ∃ x : Nat, rd ws (j : Int) = (x : Int) from fun j hj => by
        have hjl : j < ws.length := by rw [HQL.out.1]; exact hj
        have hmem : ws[j] ∈ inL s (ordL ds a k) := by rw [HWS.out]; exact List.getElem_mem hjl
        obtain ⟨x, hx, _⟩ := ordL_of_mem ds a k _ (List.mem_filter.1 hmem).1
        exact ⟨x, by rw [← hx]; unfold rd; rw [Int.toNat_natCast, List.getD_eq_getElem?_getD, List.getElem?_eq_getElem hjl]; rfl⟩)
      have HS1 := Aside0.mk (show ∀ (W : World) (A1 : Option Addr) (c1 : Nat) (A2 : Option Addr) (c2 : Nat), Kd.C (Kd.int .i64) W A1 k (ordL ds a k) → k ≤ c1 → Kd.C (Kd.int .i64) W A2 k (ordL ds a k) → k ≤ c2 → Calls Try.prog 18 #[.slice A1 k c1, .slice A2 k c2] W (fun e w' => e = .returned (.bool true) ∧ Drawn0 W w') from fun W A1 c1 A2 c2 h1 h2 h3 h4 => by
        have hl := HP.out
        have := messuagelaw04_same.calls 1001 A1 c1 (ordL ds a k) A2 c2 (ordL ds a k) true W (hl.symm ▸ h1) (hl.symm ▸ h2) (hl.symm ▸ h3) (hl.symm ▸ h4) (same_f _ HPL.out)
        rw [hl] at this
        exact this)
      have HS2 := Aside0.mk (show ∀ (W : World) (A1 : Option Addr) (c1 : Nat) (A2 : Option Addr) (c2 : Nat), Kd.C (Kd.int .i64) W A1 q ws → q ≤ c1 → Kd.C (Kd.int .i64) W A2 q ws → q ≤ c2 → Calls Try.prog 18 #[.slice A1 q c1, .slice A2 q c2] W (fun e w' => e = .returned (.bool true) ∧ Drawn0 W w') from fun W A1 c1 A2 c2 h1 h2 h3 h4 => by
        have hl := HQL.out.1
        have := messuagelaw04_same.calls 1001 A1 c1 ws A2 c2 ws true W (hl.symm ▸ h1) (hl.symm ▸ h2) (hl.symm ▸ h3) (hl.symm ▸ h4) (same_f _ (by rw [hl]; exact HQL.out.2))
        rw [hl] at this
        exact this)
      have b1 : decide ((a : Int) < 0) = false := decide_eq_false (by omega)
      have b2 : decide (k ≤ a) = false := decide_eq_false (by omega)
      have b3 : ((a : Int) != (a : Int)) = false := by simp
      have hk0 : 0 < k := by omega
      have hq1 := HQL.out.2
      clear hno hck hdl hrl hfits hra HOL hf HL HER HCE
      go_upto_region 13 with fail
      go_upto_region 14 with (go_at_call 17; (with_reducible refine (HRW0.out _ HB.out).mono ?_); rintro e_ w7 ⟨A3, c3_, rfl, hc3, hC3, hb⟩; have HRW := Aside0.mk hC3; have HCW := Aside0.mk hc3; clear hC3 hc3; have n0_ := Aside0.mk (below_then HB.out HB.out.size hb); have n1_ := Aside0.mk (HX.out.below hb); have n2_ := Aside0.mk (HA.out.below hb); have n3_ := Aside0.mk (HRA.out.below hb); have n4_ := Aside0.mk (Kd.C_below HRB.out hb); clear HB HX HA HRA HRB c0 c1 c2 c3 a0 a1 hb; have HB := n0_; have HX := n1_; have HA := n2_; have HRA := n3_; have HRB := n4_; clear n0_ n1_ n2_ n3_ n4_; have c0 := HX.out.c0; have c1 := HX.out.c1; have c2 := HX.out.c2; have c3 := HX.out.c3; have a0 := HA.out.a0; have a1 := HA.out.a1)
      have e0 := HRA.out.at_ 0 _ HFIR.out
      refine start_ (n := 29) (S := fun w' => w'.cell? ⟨w.heap.size, 0, none⟩ = some (.int .i64 k) ∧ w'.cell? ⟨w.heap.size, 1, none⟩ = some (.int .i64 f) ∧ w'.cell? ⟨w.heap.size, 2, none⟩ = some (.slice A cs.length ca) ∧ w'.cell? ⟨w.heap.size, 3, none⟩ = some (.slice B ds.length cb) ∧ w'.cell? ⟨w.heap.size + 1, 0, none⟩ = some (.int .i64 a) ∧ w'.cell? ⟨w.heap.size + 1, 1, none⟩ = some (.int .u8 s) ∧ w'.cell? ⟨g, 0, none⟩ = some (.int .i64 a)) (ds := []) #[false, false, false, false, false, false, false, false, false, false, false, false, false, false, false, false, false, false, false, false, false, false, false, false, false, false, false, false, false] (by kernel_rfl) rfl rfl ⟨c0, c1, c2, c3, a0, a1, e0⟩ (fun hHeld => ?_)
      have hd_ := below_drew (RowKit.Below.refl w7.heap.size w7)
      have n0_ := Aside0.mk (below_then HB.out HB.out.size hd_)
      have n1_ := Aside0.mk (HX.out.below hd_)
      have n2_ := Aside0.mk (HA.out.below hd_)
      have n3_ := Aside0.mk (HRA.out.below hd_)
      have n4_ := Aside0.mk (Kd.C_below HRB.out hd_)
      have n5_ := Aside0.mk (Kd.C_below HRW.out hd_)
      clear HB HX HA HRA HRB HRW c0 c1 c2 c3 a0 a1 hd_
      have HB := n0_
      have HX := n1_
      have HA := n2_
      have HRA := n3_
      have HRB := n4_
      have HRW := n5_
      clear n0_ n1_ n2_ n3_ n4_ n5_
      have c0 := HX.out.c0
      have c1 := HX.out.c1
      have c2 := HX.out.c2
      have c3 := HX.out.c3
      have a0 := HA.out.a0
      have a1 := HA.out.a1
      generalize w7.drew = wd14 at *
      refine pure_ (i := 0) (N := some 105) (v := ?_) (a' := ?_) #[true, false, false, false, false, false, false, false, false, false, false, false, false, false, false, false, false, false, false, false, false, false, false, false, false, false, false, false, false] rfl rfl (by kernel_rfl) (fun _ _ _ h => h) (Or.inl ⟨by rfl, ?_⟩) ?_ ?_
      rotate_left
      · intro w'
        go_simp
        with_reducible rfl
      rotate_left
      · simp only [Act.put, List.setIfInBounds_toArray, List.set_cons_zero, List.set_cons_succ, i64_w, i32_w]
        rfl
      refine pure_ (i := 1) (N := some 106) (v := ?_) (a' := ?_) #[true, true, false, false, false, false, false, false, false, false, false, false, false, false, false, false, false, false, false, false, false, false, false, false, false, false, false, false, false] rfl rfl (by kernel_rfl) (fun _ _ _ h => h) (Or.inl ⟨by rfl, ?_⟩) ?_ ?_
      rotate_left
      · intro w'
        go_simp
        with_reducible rfl
      rotate_left
      · simp only [Act.put, List.setIfInBounds_toArray, List.set_cons_zero, List.set_cons_succ, i64_w, i32_w]
        rfl
      refine pure_ (i := 2) (N := some 107) (v := ?_) (a' := ?_) #[true, true, true, false, false, false, false, false, false, false, false, false, false, false, false, false, false, false, false, false, false, false, false, false, false, false, false, false, false] rfl rfl (by kernel_rfl) (fun _ _ _ h => h) (Or.inl ⟨by rfl, ?_⟩) ?_ ?_
      rotate_left
      · intro w'
        go_simp
        with_reducible rfl
      rotate_left
      · simp only [Act.put, List.setIfInBounds_toArray, List.set_cons_zero, List.set_cons_succ, i64_w, i32_w]
        rfl
      refine pure_ (i := 3) (N := some 108) (v := ?_) (a' := ?_) #[true, true, true, true, false, false, false, false, false, false, false, false, false, false, false, false, false, false, false, false, false, false, false, false, false, false, false, false, false] rfl rfl (by kernel_rfl) (fun _ _ _ h => h) (Or.inl ⟨by rfl, ?_⟩) ?_ ?_
      rotate_left
      · intro w'
        go_simp
        with_reducible rfl
      rotate_left
      · simp only [Act.put, List.setIfInBounds_toArray, List.set_cons_zero, List.set_cons_succ, i64_w, i32_w]
        rfl
      refine pure_ (i := 4) (N := some 109) (v := ?_) (a' := ?_) #[true, true, true, true, true, false, false, false, false, false, false, false, false, false, false, false, false, false, false, false, false, false, false, false, false, false, false, false, false] rfl rfl (by kernel_rfl) (fun _ _ _ h => h) (Or.inl ⟨by rfl, ?_⟩) ?_ ?_
      rotate_left
      · intro w'
        go_simp
        with_reducible rfl
      rotate_left
      · simp only [Act.put, List.setIfInBounds_toArray, List.set_cons_zero, List.set_cons_succ, i64_w, i32_w]
        rfl
      refine pure_ (i := 5) (N := some 110) (v := ?_) (a' := ?_) #[true, true, true, true, true, true, false, false, false, false, false, false, false, false, false, false, false, false, false, false, false, false, false, false, false, false, false, false, false] rfl rfl (by kernel_rfl) (fun _ _ _ h => h) (Or.inl ⟨by rfl, ?_⟩) ?_ ?_
      rotate_left
      · intro w'
        go_simp
        with_reducible rfl
      rotate_left
      · simp only [Act.put, List.setIfInBounds_toArray, List.set_cons_zero, List.set_cons_succ, i64_w, i32_w]
        rfl
      refine pure_ (i := 6) (N := some 111) (v := ?_) (a' := ?_) #[true, true, true, true, true, true, true, false, false, false, false, false, false, false, false, false, false, false, false, false, false, false, false, false, false, false, false, false, false] rfl rfl (by kernel_rfl) (fun _ _ _ h => h) (Or.inl ⟨by rfl, ?_⟩) ?_ ?_
      rotate_left
      · intro w'
        go_simp
        with_reducible rfl
      rotate_left
      · simp only [Act.put, List.setIfInBounds_toArray, List.set_cons_zero, List.set_cons_succ, i64_w, i32_w]
        rfl
      refine pure_ (i := 7) (N := some 112) (v := ?_) (a' := ?_) #[true, true, true, true, true, true, true, true, false, false, false, false, false, false, false, false, false, false, false, false, false, false, false, false, false, false, false, false, false] rfl rfl (by kernel_rfl) (fun _ _ _ h => h) (Or.inl ⟨by rfl, ?_⟩) ?_ ?_
      rotate_left
      · intro w'
        go_simp
        with_reducible rfl
      rotate_left
      · simp only [Act.put, List.setIfInBounds_toArray, List.set_cons_zero, List.set_cons_succ, i64_w, i32_w]
        rfl
      refine pure_ (i := 9) (N := some 114) (v := ?_) (a' := ?_) #[true, true, true, true, true, true, true, true, false, true, false, false, false, false, false, false, false, false, false, false, false, false, false, false, false, false, false, false, false] rfl rfl (by kernel_rfl) (fun _ _ _ h => h) (Or.inl ⟨by rfl, ?_⟩) ?_ ?_
      rotate_left
      · intro w'
        go_simp
        with_reducible rfl
      rotate_left
      · simp only [Act.put, List.setIfInBounds_toArray, List.set_cons_zero, List.set_cons_succ, i64_w, i32_w]
        rfl
      refine take_ (i := 8) (N := some 113) (v := ?_) (a' := ?_) #[true, true, true, true, true, true, true, true, true, true, false, false, false, false, false, false, false, false, false, false, false, false, false, false, false, false, false, false, false] rfl rfl (by kernel_rfl) (fun _ _ _ h => h) (Or.inl ⟨by rfl, ?_⟩) hHeld ?_ ?_
      rotate_left
      · rintro w' ⟨s0, s1, s2, s3, s4, s5, s6⟩
        go_simp
        with_reducible rfl
      rotate_left
      · simp only [Act.put, List.setIfInBounds_toArray, List.set_cons_zero, List.set_cons_succ, i64_w, i32_w]
        rfl
      refine take_ (i := 10) (N := some 115) (v := ?_) (a' := ?_) #[true, true, true, true, true, true, true, true, true, true, true, false, false, false, false, false, false, false, false, false, false, false, false, false, false, false, false, false, false] rfl rfl (by kernel_rfl) (fun _ _ _ h => h) (Or.inl ⟨by rfl, ?_⟩) hHeld ?_ ?_
      rotate_left
      · rintro w' ⟨s0, s1, s2, s3, s4, s5, s6⟩
        go_simp
        with_reducible rfl
      rotate_left
      · simp only [Act.put, List.setIfInBounds_toArray, List.set_cons_zero, List.set_cons_succ, i64_w, i32_w]
        rfl
      refine one_ (i := 11) (N := some 116) #[true, true, true, true, true, true, true, true, true, true, true, true, false, false, false, false, false, false, false, false, false, false, false, false, false, false, false, false, false] rfl rfl (by kernel_rfl) (by decide) (fun K hK => ?_)
      refine goes_ Try.func19 (by kernel_rfl) rfl #[.agg #[.int .i64 k, .int .i64 f, .slice A cs.length ca, .slice B ds.length cb], .int .i64 a] (by rfl) rfl rfl (by simp only [List.map_toArray, List.map_cons, List.map_nil]; rfl) ?_
      with_reducible refine (HRO0.out _ HB.out).mono ?_
      rintro e_ w71 ⟨A4, c4_, rfl, hc4, hC4, hb⟩
      refine ⟨_, rfl, ?_⟩
      have HRO := Aside0.mk hC4
      have HCO := Aside0.mk hc4
      clear hC4 hc4
      have n0_ := Aside0.mk (below_then HB.out HB.out.size hb)
      have n1_ := Aside0.mk (HX.out.below hb)
      have n2_ := Aside0.mk (HA.out.below hb)
      have n3_ := Aside0.mk (HRA.out.below hb)
      have n4_ := Aside0.mk (Kd.C_below HRB.out hb)
      have n5_ := Aside0.mk (Kd.C_below HRW.out hb)
      clear HB HX HA HRA HRB HRW c0 c1 c2 c3 a0 a1 hb
      have HB := n0_
      have HX := n1_
      have HA := n2_
      have HRA := n3_
      have HRB := n4_
      have HRW := n5_
      clear n0_ n1_ n2_ n3_ n4_ n5_
      have c0 := HX.out.c0
      have c1 := HX.out.c1
      have c2 := HX.out.c2
      have c3 := HX.out.c3
      have a0 := HA.out.a0
      have a1 := HA.out.a1
      refine hK.out _ _ ⟨HX.out.c0, HX.out.c1, HX.out.c2, HX.out.c3, HA.out.a0, HA.out.a1, HRA.out.at_ 0 _ HFIR.out⟩ (fun hHeld => ?_)
      clear hK K
      refine norm_ (a' := ?_) ?_ ?_
      rotate_left
      · show Act.put _ (some 116) _ = _
        simp only [Act.put, List.setIfInBounds_toArray, List.set_cons_zero, List.set_cons_succ, i64_w, i32_w]
        rfl
      refine one_ (i := 12) (N := some 117) #[true, true, true, true, true, true, true, true, true, true, true, true, true, false, false, false, false, false, false, false, false, false, false, false, false, false, false, false, false] rfl rfl (by kernel_rfl) (by decide) (fun K hK => ?_)
      refine goes_ Try.func18 (by kernel_rfl) rfl #[.slice (some ⟨g, 0, none⟩) k cap, .slice A4 k c4_] (by rfl) rfl rfl (by simp only [List.map_toArray, List.map_cons, List.map_nil]; rfl) ?_
      with_reducible refine (HS1.out _ _ _ _ _ (HRA.out.Cp HP.out HPL.out) (HRA.out.lp HP.out) HRO.out HCO.out).mono ?_
      rintro e_ w72 ⟨rfl, hb0⟩
      refine ⟨_, rfl, ?_⟩
      have hb := hb0.below
      clear hb0
      have n0_ := Aside0.mk (below_then HB.out HB.out.size hb)
      have n1_ := Aside0.mk (HX.out.below hb)
      have n2_ := Aside0.mk (HA.out.below hb)
      have n3_ := Aside0.mk (HRA.out.below hb)
      have n4_ := Aside0.mk (Kd.C_below HRB.out hb)
      have n5_ := Aside0.mk (Kd.C_below HRW.out hb)
      clear HB HX HA HRA HRB HRW c0 c1 c2 c3 a0 a1 hb
      have HB := n0_
      have HX := n1_
      have HA := n2_
      have HRA := n3_
      have HRB := n4_
      have HRW := n5_
      clear n0_ n1_ n2_ n3_ n4_ n5_
      have c0 := HX.out.c0
      have c1 := HX.out.c1
      have c2 := HX.out.c2
      have c3 := HX.out.c3
      have a0 := HA.out.a0
      have a1 := HA.out.a1
      refine hK.out _ _ ⟨HX.out.c0, HX.out.c1, HX.out.c2, HX.out.c3, HA.out.a0, HA.out.a1, HRA.out.at_ 0 _ HFIR.out⟩ (fun hHeld => ?_)
      clear hK K
      refine norm_ (a' := ?_) ?_ ?_
      rotate_left
      · show Act.put _ (some 117) _ = _
        simp only [Act.put, List.setIfInBounds_toArray, List.set_cons_zero, List.set_cons_succ, i64_w, i32_w]
        rfl
      refine pure_ (i := 13) (N := some 118) (v := ?_) (a' := ?_) #[true, true, true, true, true, true, true, true, true, true, true, true, true, true, false, false, false, false, false, false, false, false, false, false, false, false, false, false, false] rfl rfl (by kernel_rfl) (fun _ _ _ h => h) (Or.inl ⟨by rfl, ?_⟩) ?_ ?_
      rotate_left
      · intro w'
        go_simp
        with_reducible rfl
      rotate_left
      · simp only [Act.put, List.setIfInBounds_toArray, List.set_cons_zero, List.set_cons_succ, i64_w, i32_w]
        rfl
      refine pure_ (i := 14) (N := some 119) (v := ?_) (a' := ?_) #[true, true, true, true, true, true, true, true, true, true, true, true, true, true, true, false, false, false, false, false, false, false, false, false, false, false, false, false, false] rfl rfl (by kernel_rfl) (fun _ _ _ h => h) (Or.inl ⟨by rfl, ?_⟩) ?_ ?_
      rotate_left
      · intro w'
        go_simp
        with_reducible rfl
      rotate_left
      · simp only [Act.put, List.setIfInBounds_toArray, List.set_cons_zero, List.set_cons_succ, i64_w, i32_w]
        rfl
      refine pure_ (i := 15) (N := some 120) (v := ?_) (a' := ?_) #[true, true, true, true, true, true, true, true, true, true, true, true, true, true, true, true, false, false, false, false, false, false, false, false, false, false, false, false, false] rfl rfl (by kernel_rfl) (fun _ _ _ h => h) (Or.inl ⟨by rfl, ?_⟩) ?_ ?_
      rotate_left
      · intro w'
        go_simp
        with_reducible rfl
      rotate_left
      · simp only [Act.put, List.setIfInBounds_toArray, List.set_cons_zero, List.set_cons_succ, i64_w, i32_w]
        rfl
      refine pure_ (i := 16) (N := some 121) (v := ?_) (a' := ?_) #[true, true, true, true, true, true, true, true, true, true, true, true, true, true, true, true, true, false, false, false, false, false, false, false, false, false, false, false, false] rfl rfl (by kernel_rfl) (fun _ _ _ h => h) (Or.inl ⟨by rfl, ?_⟩) ?_ ?_
      rotate_left
      · intro w'
        go_simp
        with_reducible rfl
      rotate_left
      · simp only [Act.put, List.setIfInBounds_toArray, List.set_cons_zero, List.set_cons_succ, i64_w, i32_w]
        rfl
      refine pure_ (i := 17) (N := some 122) (v := ?_) (a' := ?_) #[true, true, true, true, true, true, true, true, true, true, true, true, true, true, true, true, true, true, false, false, false, false, false, false, false, false, false, false, false] rfl rfl (by kernel_rfl) (fun _ _ _ h => h) (Or.inl ⟨by rfl, ?_⟩) ?_ ?_
      rotate_left
      · intro w'
        go_simp
        with_reducible rfl
      rotate_left
      · simp only [Act.put, List.setIfInBounds_toArray, List.set_cons_zero, List.set_cons_succ, i64_w, i32_w]
        rfl
      refine one_ (i := 18) (N := some 123) #[true, true, true, true, true, true, true, true, true, true, true, true, true, true, true, true, true, true, true, false, false, false, false, false, false, false, false, false, false] rfl rfl (by kernel_rfl) (by decide) (fun K hK => ?_)
      refine goes_ Try.func18 (by kernel_rfl) rfl #[.slice A2 q c2_, .slice A3 q c3_] (by rfl) rfl rfl (by simp only [List.map_toArray, List.map_cons, List.map_nil]; rfl) ?_
      with_reducible refine (HS2.out _ _ _ _ _ HRB.out HCB.out HRW.out HCW.out).mono ?_
      rintro e_ w73 ⟨rfl, hb0⟩
      refine ⟨_, rfl, ?_⟩
      have hb := hb0.below
      clear hb0
      have n0_ := Aside0.mk (below_then HB.out HB.out.size hb)
      have n1_ := Aside0.mk (HX.out.below hb)
      have n2_ := Aside0.mk (HA.out.below hb)
      have n3_ := Aside0.mk (HRA.out.below hb)
      have n4_ := Aside0.mk (Kd.C_below HRB.out hb)
      have n5_ := Aside0.mk (Kd.C_below HRW.out hb)
      clear HB HX HA HRA HRB HRW c0 c1 c2 c3 a0 a1 hb
      have HB := n0_
      have HX := n1_
      have HA := n2_
      have HRA := n3_
      have HRB := n4_
      have HRW := n5_
      clear n0_ n1_ n2_ n3_ n4_ n5_
      have c0 := HX.out.c0
      have c1 := HX.out.c1
      have c2 := HX.out.c2
      have c3 := HX.out.c3
      have a0 := HA.out.a0
      have a1 := HA.out.a1
      refine hK.out _ _ ⟨HX.out.c0, HX.out.c1, HX.out.c2, HX.out.c3, HA.out.a0, HA.out.a1, HRA.out.at_ 0 _ HFIR.out⟩ (fun hHeld => ?_)
      clear hK K
      refine norm_ (a' := ?_) ?_ ?_
      rotate_left
      · show Act.put _ (some 123) _ = _
        simp only [Act.put, List.setIfInBounds_toArray, List.set_cons_zero, List.set_cons_succ, i64_w, i32_w]
        rfl
      refine pure_ (i := 19) (N := some 124) (v := ?_) (a' := ?_) #[true, true, true, true, true, true, true, true, true, true, true, true, true, true, true, true, true, true, true, true, false, false, false, false, false, false, false, false, false] rfl rfl (by kernel_rfl) (fun _ _ _ h => h) (Or.inl ⟨by rfl, ?_⟩) ?_ ?_
      rotate_left
      · intro w'
        go_simp
        with_reducible rfl
      rotate_left
      · simp only [Act.put, List.setIfInBounds_toArray, List.set_cons_zero, List.set_cons_succ, i64_w, i32_w]
        rfl
      refine pure_ (i := 20) (N := some 125) (v := ?_) (a' := ?_) #[true, true, true, true, true, true, true, true, true, true, true, true, true, true, true, true, true, true, true, true, true, false, false, false, false, false, false, false, false] rfl rfl (by kernel_rfl) (fun _ _ _ h => h) (Or.inl ⟨by rfl, ?_⟩) ?_ ?_
      rotate_left
      · intro w'
        go_simp
        with_reducible rfl
      rotate_left
      · simp only [Act.put, List.setIfInBounds_toArray, List.set_cons_zero, List.set_cons_succ, i64_w, i32_w]
        rfl
      refine pure_ (i := 21) (N := some 126) (v := ?_) (a' := ?_) #[true, true, true, true, true, true, true, true, true, true, true, true, true, true, true, true, true, true, true, true, true, true, false, false, false, false, false, false, false] rfl rfl (by kernel_rfl) (fun _ _ _ h => h) (Or.inl ⟨by rfl, ?_⟩) ?_ ?_
      rotate_left
      · intro w'
        go_simp
        with_reducible rfl
      rotate_left
      · simp only [Act.put, List.setIfInBounds_toArray, List.set_cons_zero, List.set_cons_succ, i64_w, i32_w]
        rfl
      refine pure_ (i := 22) (N := some 127) (v := ?_) (a' := ?_) #[true, true, true, true, true, true, true, true, true, true, true, true, true, true, true, true, true, true, true, true, true, true, true, false, false, false, false, false, false] rfl rfl (by kernel_rfl) (fun _ _ _ h => h) (Or.inl ⟨by rfl, ?_⟩) ?_ ?_
      rotate_left
      · intro w'
        go_simp
        with_reducible rfl
      rotate_left
      · simp only [Act.put, List.setIfInBounds_toArray, List.set_cons_zero, List.set_cons_succ, i64_w, i32_w]
        rfl
      refine pure_ (i := 23) (N := some 128) (v := ?_) (a' := ?_) #[true, true, true, true, true, true, true, true, true, true, true, true, true, true, true, true, true, true, true, true, true, true, true, true, false, false, false, false, false] rfl rfl (by kernel_rfl) (fun _ _ _ h => h) (Or.inl ⟨by rfl, ?_⟩) ?_ ?_
      rotate_left
      · intro w'
        go_simp
        with_reducible rfl
      rotate_left
      · simp only [Act.put, List.setIfInBounds_toArray, List.set_cons_zero, List.set_cons_succ, i64_w, i32_w]
        rfl
      refine pure_ (i := 25) (N := some 130) (v := ?_) (a' := ?_) #[true, true, true, true, true, true, true, true, true, true, true, true, true, true, true, true, true, true, true, true, true, true, true, true, false, true, false, false, false] rfl rfl (by kernel_rfl) (fun _ _ _ h => h) (Or.inl ⟨by rfl, ?_⟩) ?_ ?_
      rotate_left
      · intro w'
        go_simp
        with_reducible rfl
      rotate_left
      · simp only [Act.put, List.setIfInBounds_toArray, List.set_cons_zero, List.set_cons_succ, i64_w, i32_w]
        rfl
      refine take_ (i := 24) (N := some 129) (v := ?_) (a' := ?_) #[true, true, true, true, true, true, true, true, true, true, true, true, true, true, true, true, true, true, true, true, true, true, true, true, true, true, false, false, false] rfl rfl (by kernel_rfl) (fun _ _ _ h => h) (Or.inl ⟨by rfl, ?_⟩) hHeld ?_ ?_
      rotate_left
      · rintro w' ⟨s0, s1, s2, s3, s4, s5, s6⟩
        go_simp
        with_reducible rfl
      rotate_left
      · simp only [Act.put, List.setIfInBounds_toArray, List.set_cons_zero, List.set_cons_succ, i64_w, i32_w]
        rfl
      refine take_ (i := 26) (N := some 131) (v := ?_) (a' := ?_) #[true, true, true, true, true, true, true, true, true, true, true, true, true, true, true, true, true, true, true, true, true, true, true, true, true, true, true, false, false] rfl rfl (by kernel_rfl) (fun _ _ _ h => h) (Or.inl ⟨by rfl, ?_⟩) hHeld ?_ ?_
      rotate_left
      · rintro w' ⟨s0, s1, s2, s3, s4, s5, s6⟩
        go_simp
        with_reducible rfl
      rotate_left
      · simp only [Act.put, List.setIfInBounds_toArray, List.set_cons_zero, List.set_cons_succ, i64_w, i32_w]
        rfl
      refine pure_ (i := 27) (N := some 132) (v := ?_) (a' := ?_) #[true, true, true, true, true, true, true, true, true, true, true, true, true, true, true, true, true, true, true, true, true, true, true, true, true, true, true, true, false] rfl rfl (by kernel_rfl) (fun _ _ _ h => h) (Or.inl ⟨by rfl, ?_⟩) ?_ ?_
      rotate_left
      · intro w'
        go_simp
        with_reducible rfl
      rotate_left
      · simp only [Act.put, List.setIfInBounds_toArray, List.set_cons_zero, List.set_cons_succ, i64_w, i32_w]
        rfl
      refine pure_ (i := 28) (N := some 133) (v := ?_) (a' := ?_) #[true, true, true, true, true, true, true, true, true, true, true, true, true, true, true, true, true, true, true, true, true, true, true, true, true, true, true, true, true] rfl rfl (by kernel_rfl) (fun _ _ _ h => h) (Or.inl ⟨by rfl, ?_⟩) ?_ ?_
      rotate_left
      · intro w'
        go_simp
        with_reducible rfl
      rotate_left
      · simp only [Act.put, List.setIfInBounds_toArray, List.set_cons_zero, List.set_cons_succ, i64_w, i32_w]
        rfl
      refine done_ (by kernel_rfl) ?_
      have H0 := Aside0.mk (show RelOr q ws mm w73 (.int .i64 0) w73 from ⟨0, rfl, Nat.zero_le _, fun j hj => absurd hj (Nat.not_lt_zero j), RowKit.Below.refl _ _⟩)
      go_wp2_with fail
      clear c0 c1 c2 c3 a0 a1 e0 HX HA HRA HRB HRW0 HRO0 HS1 HS2 HFIR HRO HCO HCB HCW
      go_loopw [14] (fun v14 wr => RelOr q ws mm w73 v14 wr) (fun v14 _ => q - (intOf v14).toNat)
      case atStart => exact H0.out
      case round =>
        clear H0
        obtain ⟨i, rfl, hi, hno, hB⟩ := hrel
        have HNO := Aside0.mk hno
        have HBW := Aside0.mk hB
        clear hno hB
        have HALL := Aside0.mk (show RowKit.Below w.heap.size w wr from below_then HB.out HB.out.size HBW.out)
        by_cases hiq : i < q
        · have hib : decide (i < q) = true := decide_eq_true hiq
          have i0 : (0 : Int) ≤ (i : Int) := by omega
          have iI : (i : Int) < (q : Int) := by omega
          obtain ⟨ad, rfl, m0⟩ := Kd.at_int (Kd.C_below HRW.out HBW.out) (i : Int) i0 iI
          rw [Int.toNat_natCast] at m0
          obtain ⟨x, hx⟩ := HNN.out i hiq
          rw [hx] at m0
          have x0 : (0 : Int) ≤ (x : Int) := by omega
          have HXI := Aside0.mk hx
          clear hx
          by_cases hxm : x < m
          · have b4 : decide (x < m) = true := decide_eq_true hxm
            have xI : (x : Int) < (m : Int) := by omega
            obtain ⟨adm, rfl, m1⟩ := Kd.at_bool (Kd.C_below HCM.out HALL.out) (x : Int) x0 xI
            rw [Int.toNat_natCast] at m1
            obtain ⟨mb, hmv⟩ : ∃ mb, rdOf false mm (x : Int) = mb := ⟨_, rfl⟩
            rw [hmv] at m1
            have HOK := Aside0.mk (show okB mm (rd ws (i : Int)) = mb by rw [HXI.out]; unfold okB; rw [hmv, HMM.out, decide_eq_true xI]; rfl)
            clear hmv xI
            cases mb with
            | false =>
              go_wp2_with fail
              go_roundw
              case rel => exact ⟨i + 1, by go_num, by omega, no_next (f := fun j => okB mm (rd ws (j : Int))) HNO.out HOK.out, HBW.out⟩
              case measure => simp [intOf]; omega
            | true =>
              have hoo := near_hit mm ws i (by rw [HQL.out.1]; exact hiq) HNO.out HOK.out
              rw [HO.out, HXI.out] at hoo
              subst hoo
              have b5 : ((x : Int) == (x : Int)) = true := by simp
              go_wp2_with fail
              go_ret
              exact ⟨rfl, HALL.out⟩
          · have b4 : decide (x < m) = false := decide_eq_false hxm
            have HOK := Aside0.mk (show okB mm (rd ws (i : Int)) = false by rw [HXI.out]; unfold okB; rw [HMM.out, decide_eq_false (by omega)]; rfl)
            go_wp2_with fail
            go_roundw
            case rel => exact ⟨i + 1, by go_num, by omega, no_next (f := fun j => okB mm (rd ws (j : Int))) HNO.out HOK.out, HBW.out⟩
            case measure => simp [intOf]; omega
        · obtain rfl : i = q := by omega
          have hib : decide (i < i) = false := decide_eq_false hiq
          have hoo := near_miss mm ws (fun j hj => HNO.out j (by rw [HQL.out.1] at hj; exact hj))
          rw [HO.out] at hoo
          subst hoo
          go_wp2_with fail
          go_ret
          exact ⟨rfl, HALL.out⟩
  · have hc1 : er = c := by rw [← HER.out]; unfold erN; rw [if_neg (by rw [HCE.out]; exact hc0), HCE.out]
    obtain ⟨rfl, rfl, rfl⟩ := hle (by rw [hc1]; exact hc0)
    obtain ⟨A1, c1_, rfl⟩ := HOL.out.sl HP.out
    clear hle HCE HER HL HWS HP HO
    subst hc1
    have b1 : (er == 0) = false := by simpa using hc0
    have b2 : (er != 0) = true := by simpa using hc0
    have b3 : (er == er) = true := by simp
    go_wp2_with fail
    go_ret
    exact ⟨rfl, HB.out⟩
end Go.Proofs.Ytffmhpfdfcpniaa.T
