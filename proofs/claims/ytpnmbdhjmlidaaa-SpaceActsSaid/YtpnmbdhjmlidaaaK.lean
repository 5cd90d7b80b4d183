/- The walk of messuagelaw17.SpaceHoles. -/
import Derived.Test.YtpnmbdhjmlidaaaJ
namespace Go.Proofs.Ytpnmbdhjmlidaaa.T
open Go.RowKit Go.Proofs.YtpnmbdhjmlidaaaW.PrintWords Go.Proofs.YtpnmbdhjmlidaaaW.PrintLast Go.Proofs.YtpnmbdhjmlidaaaW.PrintMore
set_option linter.unusedVariables false
set_option linter.unusedSimpArgs false
def sm (x : Int) : Int := wrap64 ((IntKind.u64.wrap x).tmod 20)
theorem sm_in (x : Int) : 0 ≤ sm x ∧ sm x ≤ 19 := by
  have h0 : 0 ≤ IntKind.u64.wrap x := by rw [IntKind.wrap_u64]; omega
  have h1 := Int.tmod_nonneg 20 h0
  have h2 := Int.tmod_lt_of_pos (IntKind.u64.wrap x) (show (0 : Int) < 20 by omega)
  unfold sm
  rw [IntWalk.wrap64_in _ ⟨by omega, by omega⟩]
  omega
def sz (x : Int) : Int := 2 + sm x
theorem sz_in (x : Int) : 2 ≤ sz x ∧ sz x ≤ 21 := by unfold sz; have := sm_in x; omega
theorem row_chg {w w' : World} {base g : Nat} {A : Option Addr} {v : Value} {n : Nat} {ys : List Value} {e size : Nat} (h : w.ownsRow base e size v n ys) (hc : Chg w w' g (Row0 A)) (hne : ∀ k, v.ownBlock = some k → k ≠ g ∧ Row0 A ≠ some k) : w'.ownsRow base e size v n ys := by
  refine ⟨h.1, ?_⟩
  rcases h.2 with hn | ⟨b, cap, cur, rfl, hbb, hg, rest⟩
  · exact .inl hn
  · have h1 := hne b rfl
    exact .inr ⟨b, cap, cur, rfl, hbb, (hc.block b (Array.getElem?_eq_some_iff.1 hg).1 h1.1 (fun e => h1.2 e.symm)).trans hg, rest⟩
theorem ne_chg {w : World} {base g : Nat} {A A' : Option Addr} {v : Value} {n : Nat} {ys : List Value} {e size : Nat} (h : w.ownsRow base e size v n ys) (hne : ∀ k, v.ownBlock = some k → k ≠ g ∧ Row0 A ≠ some k) (hrow : Row0 A' = Row0 A ∨ ∃ b, Row0 A' = some b ∧ w.heap.size ≤ b) : ∀ k, v.ownBlock = some k → k ≠ g ∧ Row0 A' ≠ some k := by
  intro k hk
  refine ⟨(hne k hk).1, fun e => ?_⟩
  rcases hrow with h1 | ⟨b, h1, h2⟩
  · exact (hne k hk).2 (h1 ▸ e)
  · rw [h1] at e
    injection e with e
    have := (h.lt k hk).2
    omega
theorem info_int : (Try.prog.info? 3).map (fun i => (i.zero, i.size, i.bytes)) = some (some (.int .i64 0), 1, 8) := by kernel_rfl
theorem Sp.grown {w w' : World} {base g : Nat} {A : Option Addr} {c : Nat} {rs : List (Int × Int)} {row : Option Nat} (h : Sp w base g A c rs) (hg : w.grownBy w' row) (h1 : row ≠ some g) (h2 : ∀ k, Row0 A = some k → row ≠ some k) : Sp w' base g A c rs := by
  refine ⟨h.lo, (hg.block g (Array.getElem?_eq_some_iff.1 h.cell).1 (fun e => h1 e.symm)).trans h.cell, ?_, h.ne, h.good⟩
  exact World.ownsRow.kept h.row hg (by
    cases A with
    | none => exact .inl rfl
    | some a => exact .inr (fun e => h2 a.block rfl e.symm))
theorem below_grown {w0 w w' : World} {row : Option Nat} (h : Below w0.heap.size w0 w) (hg : w.grownBy w' row) (hr : ∀ k, row = some k → w0.heap.size ≤ k) : Below w0.heap.size w0 w' :=
  h.trans ⟨hg.os, hg.tape, hg.output, hg.size, fun k hk => hg.block k (Nat.lt_of_lt_of_le hk h.size) (fun e => by have := hr k e.symm; omega)⟩
theorem one_new (w : World) (u : Value) (t : TypeId) : ∀ j x, [u][j]? = some x → (w.alloc (.cells #[u] t)).cell? ((⟨w.heap.size, 0, none⟩ : Addr).add j) = some x := by
  intro j x hj
  have hb := heap_alloc_new w (.cells #[u] t)
  rw [Addr.add_lit]
  rcases j with _ | j
  · simp at hj; subst hj
    show (w.alloc (.cells #[u] t)).cell? ⟨w.heap.size, 0 + 0, none⟩ = _
    simp only [World.cell?]
    rw [hb]; rfl
  · simp at hj
/-- An append to a row beside a space: all four facts in the world behind it. -/
theorem all_append {w0 w w3 : World} {A : Option Addr} {c : Nat} {rs : List (Int × Int)} {v v3 : Value} {n : Nat} {ys : List Value} {E : Int} (hs : Sp w w0.heap.size w0.heap.size A c rs) (hb : Below w0.heap.size w0 w) (ha : w.ownsRow w0.heap.size 3 1 v n ys) (hne : ∀ k, v.ownBlock = some k → k ≠ w0.heap.size ∧ Row0 A ≠ some k)
    (hgr : (w.alloc (.cells #[.int .i64 E] 3)).grownBy w3 v.ownBlock) (hat : v3.ownBlock = v.ownBlock ∨ v3.ownBlock = some (w.alloc (.cells #[.int .i64 E] 3)).heap.size) (ho : w3.ownsRow w0.heap.size 3 1 v3 (n + 1) (ys ++ [.int .i64 E])) :
    Below w0.heap.size w0 w3 ∧ Sp w3 w0.heap.size w0.heap.size A c rs ∧ (∀ k, v3.ownBlock = some k → k ≠ w0.heap.size ∧ Row0 A ≠ some k) ∧ w3.ownsRow w0.heap.size 3 1 v3 (n + 1) (ys ++ [.int .i64 E]) := by
  have hal : Below w.heap.size w (w.alloc (.cells #[.int .i64 E] 3)) := below_alloc (Below.refl _ _) _
  have hs1 := hs.below hal
  have hb1 := below_then hb hb.size hal
  have hgl := (Array.getElem?_eq_some_iff.1 hs.cell).1
  refine ⟨below_grown hb1 hgr (fun k hk => (ha.lt k hk).1), hs1.grown hgr (fun e => (hne _ e).1 rfl) (fun k hk e => (hne k e).2 hk), ?_, ho⟩
  intro k hk
  rcases hat with h | h
  · exact hne k (h ▸ hk)
  · rw [h] at hk
    injection hk with hk
    have h2 := hal.size
    refine ⟨by omega, fun e => ?_⟩
    have := (hs.row.rowlt k e).2
    omega
theorem row1_cell {w : World} {base : Nat} {ga n cap : Nat} {ys : List Value} {e : TypeId} (h : w.ownsRow base e 1 (.slice (some ⟨ga, 0, none⟩) n cap) n ys) (k : Nat) {u : Value} (hk : ys[k]? = some u) : w.cell? ⟨ga, k, none⟩ = some u := by
  rcases h.2 with ⟨h0, _⟩ | ⟨g, c, cur, hv, _, hg, _, _, _, hx⟩
  · cases h0
  · injection hv with ha _ _
    injection ha with ha
    injection ha with ha _ _
    subst ha
    rw [← hx, List.getElem?_take] at hk
    split at hk
    · rw [Array.getElem?_toList] at hk
      simp only [World.cell?, hg]; exact hk
    · cases hk
theorem starts_get : ∀ (lo : Int) (ss : List Int) (k : Nat), k < ss.length → (starts lo ss)[k]? = some (stop lo (ss.take k))
  | lo, [], k, h => absurd h (by simp)
  | lo, s :: ss, 0, h => by simp [starts, stop]
  | lo, s :: ss, k + 1, h => by
    rw [starts, List.getElem?_cons_succ, starts_get (lo + s) ss k (by simpa using h), List.take_succ_cons, stop_cons]
def RelH (w : World) (ss : List Int) (n : Nat) (v7 v8 v9 : Value) (wr : World) : Prop :=
  ∃ (i : Nat) (A : Option Addr) (c : Nat), v9 = .int .i64 i ∧ i ≤ n ∧ v8 = .int .i64 (stop 1 (ss.take i)) ∧ wr.ownsRow w.heap.size 3 1 v7 i ((starts 1 (ss.take i)).map (Value.int .i64)) ∧ Sp wr w.heap.size w.heap.size A c (runs 1 (ss.take i)) ∧ (∀ k, v7.ownBlock = some k → k ≠ w.heap.size ∧ Row0 A ≠ some k) ∧ Below w.heap.size w wr
set_option maxHeartbeats 4000000 in
set_option maxRecDepth 100000 in
theorem holes_walk (A0 : Option Addr) (c0 : Nat) (xs : List Int) (wh : Int) (w : World) (hr0 : Kd.C (Kd.int .i64) w A0 xs.length xs) (hc0 : xs.length ≤ c0) :
    Calls Try.prog 3 #[.slice A0 xs.length c0, .int .i64 wh] w fun e w' => e = .returned (.bool true) ∧ Below w.heap.size w w' := by
  have hmax : xs.length ≤ 9223372036854775807 := hr0.2.1
  have HR0 := Aside0.mk hr0
  clear hr0
  obtain ⟨n, hn0⟩ : ∃ n, min xs.length 12 = n := ⟨_, rfl⟩
  have hn : min (xs.length : Int) 12 = (n : Int) := by omega
  have hn12 : n ≤ 12 := by omega
  have hnl : n ≤ xs.length := by omega
  clear hn0
  go_enter Try.func3, Try.ntmps3
  go_upto_region 3 with (go_at_call 6; (with_reducible refine (new_own _).mono ?_); rintro e_ w1 ⟨rfl, rfl⟩; have HS := Aside0.mk (Sp.new w w.heap.size (Nat.le_refl _)); have HB := Aside0.mk (below_alloc (Below.refl w.heap.size w) (.cells #[.slice none 0 0] 48)))
  by_cases hn0 : n = 0
  · have h0 : ((n : Int) == 0) = true := by simp; omega
    have h0' : (n : Int) = 0 := by omega
    go_wp2_with (go_at_call 7; (with_reducible refine (spaces_true _).mono ?_); rintro e_ w2 ⟨rfl, hb⟩; have HB_ := Aside0.mk (below_then HB.out HB.out.size hb); have HS_ := Aside0.mk (HS.out.below hb); clear HB HS hb; have HB := HB_; have HS := HS_; clear HB_ HS_)
    go_ret
    exact ⟨rfl, HB.out⟩
  have h0 : ((n : Int) == 0) = false := by simp; omega
  have h0' : ¬ (n : Int) = 0 := by omega
  go_wp2_with (go_at_call 7; (with_reducible refine (spaces_true _).mono ?_); rintro e_ w2 ⟨rfl, hb⟩; have HB_ := Aside0.mk (below_then HB.out HB.out.size hb); have HS_ := Aside0.mk (HS.out.below hb); clear HB HS hb; have HB := HB_; have HS := HS_; clear HB_ HS_)
  obtain ⟨ss, hss⟩ : ∃ ss, (xs.take n).map sz = ss := ⟨_, rfl⟩
  have hsl : ss.length = n := by rw [← hss, List.length_map, List.length_take]; omega
  have hsi : ∀ x ∈ ss, 2 ≤ x ∧ x ≤ 21 := by
    intro x hx
    rw [← hss] at hx
    obtain ⟨y, _, rfl⟩ := List.mem_map.1 hx
    exact sz_in y
  have hsx : ∀ i, (hi : i < n) → ss[i]? = some (sz (rd xs (i : Int))) := by
    intro i hi
    rw [← hss, List.getElem?_map, List.getElem?_take, if_pos hi, List.getElem?_eq_getElem (by omega)]
    simp [rd, List.getElem?_eq_getElem (show i < xs.length by omega)]
  have HSS := Aside0.mk hsi
  have HSX := Aside0.mk hsx
  clear hss hsi hsx
  go_loopw [7, 8, 9, 10, 11] (fun v7 v8 v9 v10 v11 wr => RelH w ss n v7 v8 v9 wr) (fun _ _ v9 _ _ _ => n - (intOf v9).toNat)
  case atStart => exact ⟨0, none, 0, rfl, by omega, by simp [stop], World.ownsRow_nil _ _ _ _, HS.out, fun k hk => by simp [Value.ownBlock] at hk, HB.out⟩
  case round =>
    clear HS HB
    obtain ⟨i, A, c, rfl, hi, rfl, hat, hs, hne, hB⟩ := hrel
    have HAT := Aside0.mk hat
    have HS := Aside0.mk hs
    have HNE := Aside0.mk hne
    have HB := Aside0.mk hB
    clear hat hs hne hB
    by_cases hlt : i < n
    · have hltb : decide ((i : Int) < (n : Int)) = true := decide_eq_true (by omega)
      have hltI : (i : Int) < (n : Int) := by omega
      have hi0 : (0 : Int) ≤ (i : Int) := by omega
      have hil : (i : Int) < (xs.length : Int) := by omega
      obtain ⟨ad, rfl, p0⟩ := Kd.at_int HR0.out (i : Int) hi0 hil
      obtain ⟨x, hx⟩ : ∃ x, rd xs (i : Int) = x := ⟨_, rfl⟩
      rw [hx] at p0
      simp only [Int.toNat_natCast] at p0
      have HPC := Aside0.mk (fun (W : World) (hb : Below w.heap.size w W) => pw_cell_below (w := w) hb p0)
      clear p0
      have p0 := HPC.out _ HB.out
      obtain ⟨m, hm⟩ : ∃ m, wrap64 ((IntKind.u64.wrap x).tmod 20) = m := ⟨_, rfl⟩
      have hmi : 0 ≤ m ∧ m ≤ 19 := by rw [← hm]; exact sm_in x
      have hsz : sz (rd xs (i : Int)) = 2 + m := by rw [hx, ← hm]; rfl
      have het : ss.take (i + 1) = ss.take i ++ [2 + m] := by
        rw [List.take_add_one, HSX.out i hlt, hsz]; rfl
      have hb1 := sum_le (ss.take i) (fun y hy => HSS.out y (List.mem_of_mem_take hy))
      have hb2 : (ss.take i).length = i := by rw [List.length_take]; omega
      rw [hb2] at hb1
      obtain ⟨E, hE⟩ : ∃ E, stop 1 (ss.take i) = E := ⟨_, rfl⟩
      have hEv : E = 1 + (ss.take i).sum := by rw [← hE]; rfl
      have hE1 : 1 ≤ E ∧ E ≤ 253 := by omega
      have htk : takeR (2 + m) (runs 1 (ss.take i)) = (E, 0, runs 1 (ss.take (i + 1))) := by
        rw [het, ← hE]; exact takeR_end _ _ (by omega) (by omega) (by rw [hE]; omega)
      have hst : stop 1 (ss.take (i + 1)) = E + 2 + m := by rw [het, stop_append, hE]; simp [stop]; omega
      have hsr : starts 1 (ss.take (i + 1)) = starts 1 (ss.take i) ++ [E] := by rw [het, starts_append, hE]; rfl
      have HTK := Aside0.mk htk
      have HST := Aside0.mk hst
      have HSR := Aside0.mk hsr
      have hEE : (E != E) = false := by simp
      rw [hE]
      clear hx hsz het hb1 hb2 hEv hE htk hst hsr
      go_wp2_with (first | (go_at_call 8; (with_reducible refine (take_is w.heap.size w.heap.size A c (runs 1 (ss.take i)) (runs 1 (ss.take (i + 1))) (2 + m) E 0 _ HTK.out HS.out).mono ?_); rintro e_ w2 ⟨A1, c1, rfl, hs, hch, hrow⟩; have HB_ := Aside0.mk (HS.out.chg HB.out hch); have HAT_ := Aside0.mk (row_chg HAT.out hch HNE.out); have HNE_ := Aside0.mk (ne_chg HAT.out HNE.out hrow); clear HB HS HAT HNE; have HB := HB_; have HAT := HAT_; have HNE := HNE_; have HS := Aside0.mk hs; clear HB_ HAT_ HNE_ hs hch hrow; have p0 := HPC.out _ HB.out) | ((with_reducible refine gate_builtin (b := .append) (xs := #[.tmp 58, .tmp 60]) rfl ?_); at_builtin; obtain ⟨i0, hi0_, hz0, hzs, hzb⟩ := info_parts info_int; refine wpList_append_own_at (w := _) rfl (.tmp 58) (.tmp 60) 22 rfl w.heap.size 3 i0 _ 1 8 Try.underlying22 hi0_ hz0 hzs hzb rfl (by decide) _ i _ rfl (World.ownsRow.alloc HAT.out _) ⟨_, 0, none⟩ 1 1 [.int .i64 E] rfl rfl (one_new _ _ _) (by simp [Value.oneCell']) (by unfold maxLen; omega) (by omega) (by have := HB.out.size; simp; omega) ?_; intro v3 w3 ho hgr hnil hat; have HA2 := Aside0.mk (all_append HS.out HB.out HAT.out HNE.out hgr hat ho); clear hi0_ hz0 hzs hzb hnil ho hgr hat HB HS HAT HNE; have HB := Aside0.mk HA2.out.1; have HS := Aside0.mk HA2.out.2.1; have HNE := Aside0.mk HA2.out.2.2.1; have HAT := Aside0.mk HA2.out.2.2.2; clear HA2; have p0 := HPC.out _ HB.out))
      go_roundw
      case rel => exact ⟨i + 1, A1, c1, by go_num, by omega, by rw [HST.out], by rw [HSR.out, List.map_append]; exact HAT.out, HS.out, HNE.out, HB.out⟩
      case measure => simp [intOf]; omega
    · obtain rfl : i = n := by omega
      have hltb : decide ((i : Int) < (i : Int)) = false := by simp
      have hltI : ¬ ((i : Int) < (i : Int)) := by omega
      have hnp : 0 < i := by omega
      have hwr : IntKind.u64.wrap (i : Int) = i := IntWalk.u64_in _ ⟨by omega, by omega⟩
      have hnn : 0 ≤ IntKind.u64.wrap wh := by rw [IntKind.wrap_u64]; omega
      have hr1 := Int.tmod_nonneg (i : Int) hnn
      have hr2 := Int.tmod_lt_of_pos (IntKind.u64.wrap wh) (show (0 : Int) < (i : Int) by omega)
      obtain ⟨k, hk⟩ := Int.eq_ofNat_of_zero_le hr1
      have hki : k < i := by omega
      have hw64 : wrap64 ((IntKind.u64.wrap wh).tmod (i : Int)) = (k : Int) := by rw [hk]; exact IntWalk.wrap64_in _ ⟨by omega, by omega⟩
      have htk : ss.take i = ss := List.take_of_length_le (by omega)
      rw [htk]
      have hat0 := HAT.out
      have hs0 := HS.out
      rw [htk] at hat0 hs0
      obtain ⟨s, hsk⟩ : ∃ s, ss[k]? = some s := ⟨_, List.getElem?_eq_getElem (by omega)⟩
      have hsm := HSS.out s (List.mem_of_getElem? hsk)
      have hsd : ss = ss.take k ++ s :: ss.drop (k + 1) := by
        have h1 : ss.drop k = s :: ss.drop (k + 1) := by
          rw [List.drop_eq_getElem_cons (show k < ss.length by omega)]
          congr 1
          rw [List.getElem?_eq_getElem (show k < ss.length by omega)] at hsk
          injection hsk
        rw [← h1, List.take_append_drop]
      obtain ⟨pre, hpre⟩ : ∃ pre, ss.take k = pre := ⟨_, rfl⟩
      obtain ⟨post, hpost⟩ : ∃ post, ss.drop (k + 1) = post := ⟨_, rfl⟩
      have hprei : ∀ x ∈ pre, 2 ≤ x ∧ x ≤ 21 := fun x hx => HSS.out x (List.mem_of_mem_take (by rw [hpre]; exact hx))
      have hposti : ∀ x ∈ post, 2 ≤ x ∧ x ≤ 21 := fun x hx => HSS.out x (List.mem_of_mem_drop (by rw [hpost]; exact hx))
      have hprel : pre.length = k := by rw [← hpre, List.length_take]; omega
      have hpostl : post.length = i - (k + 1) := by rw [← hpost, List.length_drop, hsl]
      have hyk : ((starts 1 ss).map (Value.int .i64))[k]? = some (.int .i64 (stop 1 pre)) := by
        rw [List.getElem?_map, starts_get 1 ss k (by omega), hpre]; rfl
      have hpv : stop 1 pre = 1 + pre.sum := rfl
      have hsb := sum_le pre hprei
      have hpb : 1 ≤ stop 1 pre ∧ stop 1 pre ≤ 253 := by omega
      obtain ⟨ga, cap, hv7⟩ : ∃ ga cap, u7 = .slice (some ⟨ga, 0, none⟩) i cap := by
        rcases hat0.2 with ⟨_, h0⟩ | ⟨g, c, cur, hv, _⟩
        · omega
        · exact ⟨g, c, hv⟩
      subst hv7
      rw [hpre, hpost] at hsd
      have HAT2 := Aside0.mk hat0
      have HS2 := Aside0.mk hs0
      have HYK := Aside0.mk hyk
      clear HAT HS hat0 hs0 hyk htk
      have HAT := HAT2
      have HS := HS2
      clear HAT2 HS2
      have q0 := row1_cell HAT.out k HYK.out
      have hk0 : (0 : Int) ≤ (k : Int) := by omega
      have hk1 : (k : Int) < (i : Int) := by omega
      by_cases hlast : k + 1 = i
      · have hp0 : post = [] := List.eq_nil_of_length_eq_zero (by omega)
        subst hp0
        rw [hsd] at HS
        obtain ⟨l1, l2, l3, l4, t1, t2, t3, t4⟩ := holes_last pre s (by omega) (by omega) hprei (by omega)
        obtain ⟨P, hP⟩ : ∃ P, stop 1 pre = P := ⟨_, rfl⟩
        obtain ⟨EE, hEE⟩ : ∃ EE, stop 1 ss = EE := ⟨_, rfl⟩
        rw [hP] at t1 t2 t3 t4 q0 hpb HYK
        rw [hEE]
        have T1 := Aside0.mk t1
        have T2 := Aside0.mk t2
        have T3 := Aside0.mk t3
        have T4 := Aside0.mk t4
        have HSD := Aside0.mk hsd
        have hkn' : (i : Int) - 1 = (k : Int) := by omega
        have hPP : (P != P) = false := by simp
        clear t1 t2 t3 t4 hsd hpre hpost hprel hpostl hprei hposti hpv hsb hsk hk hr1 hr2 hnn hP hEE
        go_wp2_with (first | (go_at_call 9; (with_reducible refine (give_is w.heap.size w.heap.size _ _ (runs 1 (pre ++ [s])) l1 P s _ T1.out HS.out).mono ?_); rintro e_ w2 ⟨c1, rfl, hs, hch⟩; have HB_ := Aside0.mk (HS.out.chg HB.out hch); have HAT_ := Aside0.mk (row_chg HAT.out hch HNE.out); have HNE_ := Aside0.mk (HNE.out); clear HB HS HAT HNE q0; have HB := HB_; have HAT := HAT_; have HNE := HNE_; have HS := Aside0.mk hs; clear HB_ HAT_ HNE_ hs hch; have q0 := row1_cell HAT.out k HYK.out) | (go_at_call 8; (with_reducible refine (take_is w.heap.size w.heap.size _ _ l1 l2 (s + 1) (P) 0 _ T2.out HS.out).mono ?_); rintro e_ w2 ⟨A1, c1, rfl, hs, hch, hrow⟩; have HB_ := Aside0.mk (HS.out.chg HB.out hch); have HAT_ := Aside0.mk (row_chg HAT.out hch HNE.out); have HNE_ := Aside0.mk (ne_chg HAT.out HNE.out hrow); clear HB HS HAT HNE q0; have HB := HB_; have HAT := HAT_; have HNE := HNE_; have HS := Aside0.mk hs; clear HB_ HAT_ HNE_ hs hch hrow; have q0 := row1_cell HAT.out k HYK.out) | (go_at_call 8; (with_reducible refine (take_is w.heap.size w.heap.size _ _ l2 l3 (s - 1) (P + s + 1) 0 _ T3.out HS.out).mono ?_); rintro e_ w2 ⟨A1, c1, rfl, hs, hch, hrow⟩; have HB_ := Aside0.mk (HS.out.chg HB.out hch); have HAT_ := Aside0.mk (row_chg HAT.out hch HNE.out); have HNE_ := Aside0.mk (ne_chg HAT.out HNE.out hrow); clear HB HS HAT HNE q0; have HB := HB_; have HAT := HAT_; have HNE := HNE_; have HS := Aside0.mk hs; clear HB_ HAT_ HNE_ hs hch hrow; have q0 := row1_cell HAT.out k HYK.out) | (go_at_call 8; (with_reducible refine (take_is w.heap.size w.heap.size _ _ l3 l4 (1) (P + s + 1 + s - 1) 0 _ T4.out HS.out).mono ?_); rintro e_ w2 ⟨A1, c1, rfl, hs, hch, hrow⟩; have HB_ := Aside0.mk (HS.out.chg HB.out hch); have HAT_ := Aside0.mk (row_chg HAT.out hch HNE.out); have HNE_ := Aside0.mk (ne_chg HAT.out HNE.out hrow); clear HB HS HAT HNE q0; have HB := HB_; have HAT := HAT_; have HNE := HNE_; have HS := Aside0.mk hs; clear HB_ HAT_ HNE_ hs hch hrow; have q0 := row1_cell HAT.out k HYK.out))
        go_ret
        exact ⟨rfl, HB.out⟩
      · obtain ⟨t, post2, hp0⟩ : ∃ t post2, post = t :: post2 := by
          cases post with
          | nil => simp at hpostl; omega
          | cons t p2 => exact ⟨t, p2, rfl⟩
        subst hp0
        simp only [List.length_cons] at hpostl
        have hti := hposti t (List.mem_cons_self ..)
        obtain ⟨l1, l2, l3, l4, t1, t2, t3, t4⟩ := holes_mid pre post2 s t (by omega) (by omega) hprei (fun x hx => hposti x (List.mem_cons_of_mem _ hx)) hti (by omega)
        rw [← hsd] at t1 t2
        obtain ⟨P, hP⟩ : ∃ P, stop 1 pre = P := ⟨_, rfl⟩
        obtain ⟨EE, hEE⟩ : ∃ EE, stop 1 ss = EE := ⟨_, rfl⟩
        rw [hP] at t1 t3 t4 q0 hpb HYK
        rw [hEE] at t2 ⊢
        have T1 := Aside0.mk t1
        have T2 := Aside0.mk t2
        have T3 := Aside0.mk t3
        have T4 := Aside0.mk t4
        have hkn : ((k : Int) == (i : Int) - 1) = false := by simp; omega
        have hkn' : ¬ (k : Int) = (i : Int) - 1 := by omega
        have hPP : (EE != EE) = false := by simp
        clear t1 t2 t3 t4 hsd hpre hpost hprel hpostl hprei hposti hpv hsb hsk hk hr1 hr2 hnn hti hP hEE
        go_wp2_with (first | (go_at_call 9; (with_reducible refine (give_is w.heap.size w.heap.size _ _ (runs 1 (ss)) l1 P s _ T1.out HS.out).mono ?_); rintro e_ w2 ⟨c1, rfl, hs, hch⟩; have HB_ := Aside0.mk (HS.out.chg HB.out hch); have HAT_ := Aside0.mk (row_chg HAT.out hch HNE.out); have HNE_ := Aside0.mk (HNE.out); clear HB HS HAT HNE q0; have HB := HB_; have HAT := HAT_; have HNE := HNE_; have HS := Aside0.mk hs; clear HB_ HAT_ HNE_ hs hch; have q0 := row1_cell HAT.out k HYK.out) | (go_at_call 8; (with_reducible refine (take_is w.heap.size w.heap.size _ _ l1 l2 (s + 1) (EE) 0 _ T2.out HS.out).mono ?_); rintro e_ w2 ⟨A1, c1, rfl, hs, hch, hrow⟩; have HB_ := Aside0.mk (HS.out.chg HB.out hch); have HAT_ := Aside0.mk (row_chg HAT.out hch HNE.out); have HNE_ := Aside0.mk (ne_chg HAT.out HNE.out hrow); clear HB HS HAT HNE q0; have HB := HB_; have HAT := HAT_; have HNE := HNE_; have HS := Aside0.mk hs; clear HB_ HAT_ HNE_ hs hch hrow; have q0 := row1_cell HAT.out k HYK.out) | (go_at_call 8; (with_reducible refine (take_is w.heap.size w.heap.size _ _ l2 l3 (s - 1) (P) 0 _ T3.out HS.out).mono ?_); rintro e_ w2 ⟨A1, c1, rfl, hs, hch, hrow⟩; have HB_ := Aside0.mk (HS.out.chg HB.out hch); have HAT_ := Aside0.mk (row_chg HAT.out hch HNE.out); have HNE_ := Aside0.mk (ne_chg HAT.out HNE.out hrow); clear HB HS HAT HNE q0; have HB := HB_; have HAT := HAT_; have HNE := HNE_; have HS := Aside0.mk hs; clear HB_ HAT_ HNE_ hs hch hrow; have q0 := row1_cell HAT.out k HYK.out) | (go_at_call 8; (with_reducible refine (take_is w.heap.size w.heap.size _ _ l3 l4 (1) (P + s - 1) 0 _ T4.out HS.out).mono ?_); rintro e_ w2 ⟨A1, c1, rfl, hs, hch, hrow⟩; have HB_ := Aside0.mk (HS.out.chg HB.out hch); have HAT_ := Aside0.mk (row_chg HAT.out hch HNE.out); have HNE_ := Aside0.mk (ne_chg HAT.out HNE.out hrow); clear HB HS HAT HNE q0; have HB := HB_; have HAT := HAT_; have HNE := HNE_; have HS := Aside0.mk hs; clear HB_ HAT_ HNE_ hs hch hrow; have q0 := row1_cell HAT.out k HYK.out))
        go_ret
        exact ⟨rfl, HB.out⟩
end Go.Proofs.Ytpnmbdhjmlidaaa.T
