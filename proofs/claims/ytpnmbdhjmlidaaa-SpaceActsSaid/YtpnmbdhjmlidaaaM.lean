/- The walk of messuagelaw17.SpaceWhole. -/
import Derived.Test.YtpnmbdhjmlidaaaL
namespace Go.Proofs.Ytpnmbdhjmlidaaa.T
open Go.RowKit Go.Proofs.YtpnmbdhjmlidaaaW.PrintWords Go.Proofs.YtpnmbdhjmlidaaaW.PrintLast Go.Proofs.YtpnmbdhjmlidaaaW.PrintMore
set_option linter.unusedVariables false
set_option linter.unusedSimpArgs false
def wm (x : Int) : Int := wrap64 ((IntKind.u64.wrap x).tmod 60)
theorem wm_in (x : Int) : 0 ≤ wm x ∧ wm x ≤ 59 := by
  have h0 : 0 ≤ IntKind.u64.wrap x := by rw [IntKind.wrap_u64]; omega
  have h1 := Int.tmod_nonneg 60 h0
  have h2 := Int.tmod_lt_of_pos (IntKind.u64.wrap x) (show (0 : Int) < 60 by omega)
  unfold wm
  rw [IntWalk.wrap64_in _ ⟨by omega, by omega⟩]
  omega
def wz (x : Int) : Int := 1 + wm x
theorem wz_in (x : Int) : 1 ≤ wz x ∧ wz x ≤ 60 := by unfold wz; have := wm_in x; omega
theorem sum60 : ∀ (ss : List Int), (∀ x ∈ ss, 1 ≤ x ∧ x ≤ 60) → (ss.length : Int) ≤ ss.sum ∧ ss.sum ≤ 60 * (ss.length : Int)
  | [], _ => by simp
  | x :: ss, h => by
    have := h x (List.mem_cons_self ..)
    have := sum60 ss (fun y hy => h y (List.mem_cons_of_mem _ hy))
    simp only [List.sum_cons, List.length_cons]
    omega
theorem runs_len : ∀ (lo : Int) (ss : List Int), (runs lo ss).length = ss.length
  | lo, [] => rfl
  | lo, s :: ss => by rw [runs, List.length_cons, List.length_cons, runs_len]
theorem runs_last (ss : List Int) (s : Int) (h : ss.length < (runs 1 (ss ++ [s])).length) : (runs 1 (ss ++ [s]))[ss.length] = (stop 1 ss, s) := by
  have e : runs 1 (ss ++ [s]) = runs 1 ss ++ [(stop 1 ss, s)] := by rw [runs_append]; rfl
  simp only [e]
  rw [List.getElem_append_right (by rw [runs_len]; exact Nat.le_refl _)]
  simp [runs_len]
theorem of_is (base g : Nat) (A : Option Addr) (c : Nat) (rs : List (Int × Int)) (p a m : Int) (t : Bool) (w : World) (ho : ofR rs p = (a, m, t)) (h : Sp w base g A c rs) :
    Calls Try.prog 10 #[.pointer (some ⟨g, 0, none⟩), .int .i64 p] w fun e w' => e = .returned (.tuple #[.int .i64 a, .int .i64 m, .bool t]) ∧ Below w.heap.size w w' := by
  refine (of_own base g A c rs p w h).mono ?_
  rw [ho]
  exact fun _ _ h => h
theorem Wh.notFrozen {w0 w : World} {gu : Nat} {A : Option Addr} {c : Nat} {rs l : List (Int × Int)} {v : Value} {lo : Nat} (h : Wh w0 w gu A c rs v l lo) (q : Nat) : w.frozen? ⟨gu, q, none⟩ = false := by
  obtain ⟨U, hU, _, _⟩ := h.used
  simp [World.frozen?, hU]
theorem info_two : (Try.prog.info? 35).map (fun i => (i.zero, i.size, i.bytes)) = some (some (.agg #[.int .i64 0, .int .i64 0]), 2, 16) := by kernel_rfl
theorem two_new (w : World) (u v : Value) (t : TypeId) : ∀ j x, [u, v][j]? = some x → (w.alloc (.cells #[u, v] t)).cell? ((⟨w.heap.size, 0, none⟩ : Addr).add j) = some x := by
  intro j x hj
  have hb := heap_alloc_new w (.cells #[u, v] t)
  rw [Addr.add_lit]
  rcases j with _ | _ | j
  · simp at hj; subst hj
    simp only [World.cell?]
    rw [hb]; rfl
  · simp at hj; subst hj
    simp only [World.cell?]
    rw [hb]; rfl
  · simp at hj
theorem row2_at {w : World} {base e : Nat} {A : Option Addr} {c : Nat} {l : List (Int × Int)} (h : w.ownsRow base e 2 (.slice A l.length c) l.length (flat2 l)) (i : Nat) (hi : i < l.length) :
    ∃ g, A = some ⟨g, 0, none⟩ ∧ w.cell? ⟨g, i * 2, none⟩ = some (.int .i64 l[i].1) ∧ w.cell? ⟨g, i * 2 + 1, none⟩ = some (.int .i64 l[i].2) := by
  rcases h.2 with ⟨hn, hl⟩ | ⟨g, cap, cur, hs, _, hg, hnc, _, hcs, hx⟩
  · omega
  · injection hs with ha _ _
    refine ⟨g, ha, ?_, ?_⟩
    · have e := (flat2_get l i hi).1
      rw [← hx, List.getElem?_take] at e
      split at e
      · rw [Array.getElem?_toList] at e
        simp only [World.cell?, hg]; exact e
      · cases e
    · have e := (flat2_get l i hi).2
      rw [← hx, List.getElem?_take] at e
      split at e
      · rw [Array.getElem?_toList] at e
        simp only [World.cell?, hg]; exact e
      · cases e
theorem row2_cells {w : World} {base e g c : Nat} {l : List (Int × Int)} (h : w.ownsRow base e 2 (.slice (some ⟨g, 0, none⟩) l.length c) l.length (flat2 l)) (j : Nat) (u : Value) (hj : (flat2 l)[j]? = some u) : w.cell? ⟨g, j, none⟩ = some u := by
  rcases h.2 with ⟨h0, _⟩ | ⟨g', c', cur, hv, _, hg, _, _, _, hx⟩
  · cases h0
  · injection hv with ha _ _
    injection ha with ha
    injection ha with ha _ _
    subst ha
    rw [← hx, List.getElem?_take] at hj
    split at hj
    · rw [Array.getElem?_toList] at hj
      simp only [World.cell?, hg]; exact hj
    · cases hj
theorem Wh.swap {w0 w w5 : World} {gu : Nat} {A : Option Addr} {c : Nat} {rs l l' : List (Int × Int)} {v v' : Value} {lo : Nat} (h : Wh w0 w gu A c rs v l lo) (hb : Below w.heap.size w w5) (hr : w5.ownsRow w0.heap.size 35 2 v' l'.length (flat2 l')) (hf : ∀ k, v'.ownBlock = some k → w.heap.size ≤ k) : Wh w0 w5 gu A c rs v' l' lo := by
  have h1 := h.below hb
  obtain ⟨U, hU, _, _⟩ := h.used
  have hul := (Array.getElem?_eq_some_iff.1 hU).1
  have hgl := (Array.getElem?_eq_some_iff.1 h.sp.cell).1
  exact ⟨h1.sp, hr, h1.used, h1.gu1, h1.gu2, fun k hk => ⟨by have := hf k hk; omega, by have := hf k hk; omega, fun e => by have := (h.sp.row.rowlt k e).2; have := hf k hk; omega⟩, h1.low⟩
theorem below_grownB {B : Nat} {w0 w w' : World} {row : Option Nat} (h : Below B w0 w) (hs : B ≤ w.heap.size) (hg : w.grownBy w' row) (hr : ∀ k, row = some k → B ≤ k) : Below B w0 w' :=
  h.trans ⟨hg.os, hg.tape, hg.output, hg.size, fun k hk => hg.block k (Nat.lt_of_lt_of_le hk hs) (fun e => by have := hr k e.symm; omega)⟩
def lenV : Value → Nat
  | .slice _ n _ => n
  | _ => 0
def RelG (w : World) (gu n : Nat) (v7 v16 : Value) (wr : World) : Prop :=
  ∃ (i : Nat) (A A7 : Option Addr) (c c7 e : Nat) (l : List (Int × Int)), v16 = .int .i64 i ∧ v7 = .slice A7 l.length c7 ∧ i + l.length = n ∧ l.length ≤ c7 ∧ c7 ≤ 9223372036854775807 ∧ Wh w wr gu A c l v7 l e
/-- A row without its k-th element, built anew out of its two parts. -/
theorem two_parts {w : World} {base g7 c7 k : Nat} {l : List (Int × Int)} (hbase : base ≤ w.heap.size) (hrow : w.ownsRow base 35 2 (.slice (some ⟨g7, 0, none⟩) l.length c7) l.length (flat2 l)) (hk : k < l.length) (hl : l.length ≤ 100000) (A1 : Addr) (hA1 : (if c7 = k + 1 then some (⟨g7, 0, none⟩ : Addr) else some ⟨g7, (k + 1) * 2, none⟩) = some A1) (cc : Nat) :
    ∃ v1 w1 v2 w2, (∀ ty, (Builtin.append_ #[32, 32] ty #[.slice (some ⟨w.heap.size, 0, none⟩) 0 0, .slice (some ⟨g7, 0, none⟩) k c7]).run Try.prog (w.alloc (.cells #[] 35)) = .ok v1 w1) ∧
      (∀ ty, (Builtin.append_ #[32, 32] ty #[v1, .slice (some A1) (l.length - (k + 1)) cc]).run Try.prog w1 = .ok v2 w2) ∧
      w2.ownsRow base 35 2 v2 (l.take k ++ l.drop (k + 1)).length (flat2 (l.take k ++ l.drop (k + 1))) ∧ Below w.heap.size w w2 ∧ (∀ j, v2.ownBlock = some j → w.heap.size ≤ j) ∧ ∃ A' c', v2 = .slice A' (l.take k ++ l.drop (k + 1)).length c' ∧ (l.take k ++ l.drop (k + 1)).length ≤ c' ∧ c' ≤ 9223372036854775807 := by
  obtain ⟨i0, hi0, hz0, hzs, hzb⟩ := info_parts info_two
  have hlen : (l.take k ++ l.drop (k + 1)).length = k + (l.length - (k + 1)) := by rw [List.length_append, List.length_take, List.length_drop]; omega
  have hal : Below w.heap.size w (w.alloc (.cells #[] 35)) := below_alloc (Below.refl _ _) _
  have hmade := World.ownsRow_made w (base := base) (e := 35) (size := 2) #[] 0 hbase (by omega) (by simp)
  have hrow1 := row_below hrow hal
  have hsrc1 : ∀ j u, (flat2 (l.take k))[j]? = some u → (w.alloc (.cells #[] 35)).cell? ((⟨g7, 0, none⟩ : Addr).add j) = some u := by
    intro j u hj
    rw [Addr.add_lit, Nat.zero_add]
    refine row2_cells hrow1 j u ?_
    rw [← flat2_take l k (by omega), List.getElem?_take] at hj
    split at hj
    · exact hj
    · cases hj
  have hone : ∀ (q : List (Int × Int)), ∀ u ∈ flat2 q, u.oneCell' = true := flat2_one
  have h1 : ∃ v1 w1, (∀ ty, (Builtin.append_ #[32, 32] ty #[.slice (some ⟨w.heap.size, 0, none⟩) 0 0, .slice (some ⟨g7, 0, none⟩) k c7]).run Try.prog (w.alloc (.cells #[] 35)) = .ok v1 w1) ∧ w1.ownsRow base 35 2 v1 (0 + k) ([] ++ flat2 (l.take k)) ∧ (w.alloc (.cells #[] 35)).grownBy w1 (Value.slice (some ⟨w.heap.size, 0, none⟩) 0 0).ownBlock ∧ (v1.ownBlock = (Value.slice (some ⟨w.heap.size, 0, none⟩) 0 0).ownBlock ∨ v1.ownBlock = some (w.alloc (.cells #[] 35)).heap.size) := by
    obtain ⟨v1, w1, hr, ho, hg, _, hat⟩ := run_append_own_at (P := Try.prog) (w := w.alloc (.cells #[] 35)) base 32 0 35 i0 _ 2 16 Try.underlying32 hi0 hz0 hzs hzb rfl (by decide) _ 0 [] hmade ⟨g7, 0, none⟩ k c7 (flat2 (l.take k)) (by rw [flat2_len, List.length_take]; omega) hsrc1 (hone _) (by unfold maxLen; omega) (by omega) (by have := hal.size; omega)
    exact ⟨v1, w1, fun ty => hr, ho, hg, hat⟩
  obtain ⟨v1, w1, hr1, ho1, hg1, hat1⟩ := h1
  have hb1 : Below w.heap.size w w1 := below_grownB hal hal.size hg1 (fun j hj => by simp [Value.ownBlock] at hj; omega)
  have hrow2 := row_below hrow hb1
  have hsrc2 : ∀ j u, (flat2 (l.drop (k + 1)))[j]? = some u → w1.cell? (A1.add j) = some u := by
    intro j u hj
    by_cases hc : c7 = k + 1
    · have hn : l.drop (k + 1) = [] := by
        have : l.length ≤ c7 := by
          rcases hrow.2 with ⟨h0, _⟩ | ⟨_, _, _, hv, _, _, hnc, _⟩
          · cases h0
          · injection hv with _ _ hcc; omega
        exact List.drop_of_length_le (by omega)
      rw [hn] at hj; simp [flat2] at hj
    · rw [if_neg hc] at hA1
      injection hA1 with hA1
      rw [← hA1, Addr.add_lit]
      refine row2_cells hrow2 _ u ?_
      rw [← flat2_drop l (k + 1) (by omega), List.getElem?_drop] at hj
      exact hj
  obtain ⟨v2, w2, hr2, ho2, hg2, _, hat2⟩ := run_append_own_at (P := Try.prog) (w := w1) base 32 0 35 i0 _ 2 16 Try.underlying32 hi0 hz0 hzs hzb rfl (by decide) _ (0 + k) _ ho1 A1 (l.length - (k + 1)) cc (flat2 (l.drop (k + 1))) (by rw [flat2_len, List.length_drop]) hsrc2 (hone _) (by unfold maxLen; omega) (by omega) (by have := hb1.size; omega)
  have hf1 : ∀ j, v1.ownBlock = some j → w.heap.size ≤ j := by
    intro j hj
    rcases hat1 with h | h
    · rw [h] at hj; simp [Value.ownBlock] at hj; omega
    · rw [h] at hj; injection hj with hj; have := hal.size; omega
  have hb2 : Below w.heap.size w w2 := below_grownB hb1 hb1.size hg2 hf1
  have hrow3 : w2.ownsRow base 35 2 v2 (l.take k ++ l.drop (k + 1)).length (flat2 (l.take k ++ l.drop (k + 1))) := by
    rw [hlen, flat2_append]
    simpa using ho2
  refine ⟨v1, w1, v2, w2, hr1, fun ty => hr2, hrow3, hb2, ?_, ?_⟩
  · intro j hj
    rcases hat2 with h | h
    · exact hf1 j (h ▸ hj)
    · rw [h] at hj; injection hj with hj; have := hb1.size; omega
  · rcases hrow3.2 with ⟨h0, hz⟩ | ⟨b, cap, cur, hv, _, _, hnc, hcm, _⟩
    · exact ⟨none, 0, by rw [h0, hz], by omega, by omega⟩
    · exact ⟨_, cap, hv, hnc, by unfold maxLen at hcm; omega⟩
theorem row2_of {w : World} {base e g c : Nat} {l l2 : List (Int × Int)} {a m : Int} (h : w.ownsRow base e 2 (.slice (some ⟨g, 0, none⟩) l.length c) l.length (flat2 l)) (hg : giveL a l = some (m, l2)) (k : Nat) (hk : k < l.length) (hr : l[k] = (a, m)) :
    w.cell? ⟨g, k * 2, none⟩ = some (.int .i64 a) ∧ w.cell? ⟨g, k * 2 + 1, none⟩ = some (.int .i64 m) := by
  obtain ⟨g', hgg, h0, h1⟩ := row2_at h k hk
  injection hgg with hgg
  injection hgg with hgg _ _
  subst hgg
  rw [hr] at h0 h1
  exact ⟨h0, h1⟩
def RelW (w : World) (gu : Nat) (ss : List Int) (v7 v8 : Value) (wr : World) : Prop :=
  ∃ (i : Nat) (A : Option Addr) (c e : Nat), v8 = .int .i64 i ∧ i ≤ ss.length ∧ stop 1 (ss.take i) = (e : Int) ∧ Wh w wr gu A c (runs 1 (ss.take i)) v7 (runs 1 (ss.take i)) e
def RelP (w : World) (gu : Nat) (A : Option Addr) (c : Nat) (rs l : List (Int × Int)) (v7 : Value) (e s : Nat) (v12 : Value) (wr : World) : Prop :=
  ∃ p : Nat, v12 = .int .i64 p ∧ e ≤ p ∧ p ≤ e + s ∧ Wh w wr gu A c rs v7 l p
set_option maxHeartbeats 4000000 in
set_option maxRecDepth 100000 in
theorem whole_walk (A0 A1 : Option Addr) (c0 c1 : Nat) (xs os : List Int) (w : World) (hr0 : Kd.C (Kd.int .i64) w A0 xs.length xs) (hc0 : xs.length ≤ c0) (hr1 : Kd.C (Kd.int .i64) w A1 os.length os) (hc1 : os.length ≤ c1) :
    Calls Try.prog 4 #[.slice A0 xs.length c0, .slice A1 os.length c1] w fun e w' => e = .returned (.bool true) ∧ Below w.heap.size w w' := by
  have hmax : xs.length ≤ 9223372036854775807 := hr0.2.1
  have HR0 := Aside0.mk hr0
  have HR1 := Aside0.mk hr1
  clear hr0 hr1
  obtain ⟨Z, hz, hzs, hzf⟩ := zero_run
  have HZ := Aside0.mk hz
  have HZS := Aside0.mk hzs
  have HZF := Aside0.mk hzf
  clear hz hzs hzf
  go_enter Try.func4, Try.ntmps4
  go_upto_region 4 with (first | (go_at_call 6; (with_reducible refine (new_own _).mono ?_); rintro e_ w1 ⟨rfl, rfl⟩; have HS := Aside0.mk (Sp.new w w.heap.size (Nat.le_refl _)); have HB := Aside0.mk (below_alloc (Below.refl w.heap.size w) (.cells #[.slice none 0 0] 48))) | (go_at_call 7; (with_reducible refine (spaces_true _).mono ?_); rintro e_ w2 ⟨rfl, hb⟩; have HB_ := Aside0.mk (below_then HB.out HB.out.size hb); have HS_ := Aside0.mk (HS.out.below hb); clear HB HS hb; have HB := HB_; have HS := HS_; clear HB_ HS_))
  have hz := HZ.out
  go_upto_region 5 with (fail)
  clear hz
  obtain ⟨n, hn0⟩ : ∃ n, min xs.length 40 = n := ⟨_, rfl⟩
  obtain ⟨ss, hss⟩ : ∃ ss, (xs.take n).map wz = ss := ⟨_, rfl⟩
  have hsl : ss.length = n := by rw [← hss, List.length_map, List.length_take]; omega
  have hsi : ∀ x ∈ ss, 1 ≤ x ∧ x ≤ 60 := by
    intro x hx
    rw [← hss] at hx
    obtain ⟨y, _, rfl⟩ := List.mem_map.1 hx
    exact wz_in y
  have hsx : ∀ i, (hi : i < n) → ss[i]? = some (wz (rd xs (i : Int))) := by
    intro i hi
    rw [← hss, List.getElem?_map, List.getElem?_take, if_pos hi, List.getElem?_eq_getElem (by omega)]
    simp [rd, List.getElem?_eq_getElem (show i < xs.length by omega)]
  have HSS := Aside0.mk hsi
  have HSX := Aside0.mk hsx
  clear hss hsi hsx
  have hgl := (Array.getElem?_eq_some_iff.1 HS.out.cell).1
  have H0 := Aside0.mk (show RelW w w2.heap.size ss (.slice none 0 0) (.int .i64 0) (w2.alloc (.cells Z 31)) from
    ⟨0, none, 0, 1, rfl, Nat.zero_le _, rfl, HS.out.below (below_alloc (Below.refl _ _) _), World.ownsRow_nil _ _ _ _, ⟨Z, heap_alloc_new w2 _, HZS.out, fun q _ h => HZF.out q h⟩, hgl, by simp [Row0], fun k hk => by simp [Value.ownBlock] at hk, below_alloc HB.out _⟩)
  clear hgl
  go_wp2_with fail
  go_loopw [7, 8, 9, 10, 11, 12, 13, 14, 15] (fun v7 v8 v9 v10 v11 v12 v13 v14 v15 wr => RelW w w2.heap.size ss v7 v8 wr) (fun _ v8 _ _ _ _ _ _ _ _ => n - (intOf v8).toNat)
  case atStart => exact H0.out
  case round =>
    clear HS HB H0
    obtain ⟨i, A, c, e, rfl, hi, he, hwh⟩ := hrel
    have HW := Aside0.mk hwh
    clear hwh
    by_cases hlt : i < n
    · have hltI : (i : Int) < (xs.length : Int) := by omega
      have hlt40 : (i : Int) < 40 := by omega
      have hi0 : (0 : Int) ≤ (i : Int) := by omega
      obtain ⟨ad, rfl, p0⟩ := Kd.at_int HR0.out (i : Int) hi0 hltI
      obtain ⟨x, hx⟩ : ∃ x, rd xs (i : Int) = x := ⟨_, rfl⟩
      rw [hx] at p0
      simp only [Int.toNat_natCast] at p0
      have HPC := Aside0.mk (fun (W : World) (hb : Below w.heap.size w W) => pw_cell_below (w := w) hb p0)
      clear p0
      have p0 := HPC.out _ HW.out.low
      obtain ⟨m, hm⟩ : ∃ m, wrap64 ((IntKind.u64.wrap x).tmod 60) = m := ⟨_, rfl⟩
      have hmi : 0 ≤ m ∧ m ≤ 59 := by rw [← hm]; exact wm_in x
      obtain ⟨s, hsm⟩ := Int.eq_ofNat_of_zero_le (show 0 ≤ 1 + m by omega)
      have hsz : wz (rd xs (i : Int)) = (s : Int) := by rw [hx, ← hsm, ← hm]; rfl
      have het : ss.take (i + 1) = ss.take i ++ [(s : Int)] := by
        rw [List.take_add_one, HSX.out i hlt, hsz]; rfl
      have hb1 := sum60 (ss.take i) (fun y hy => HSS.out y (List.mem_of_mem_take hy))
      have hb2 : (ss.take i).length = i := by rw [List.length_take]; omega
      rw [hb2] at hb1
      have hEv : stop 1 (ss.take i) = 1 + (ss.take i).sum := rfl
      have hE1 : 1 ≤ e ∧ e ≤ 2341 := by omega
      have htk : takeR (s : Int) (runs 1 (ss.take i)) = ((e : Int), 0, runs 1 (ss.take (i + 1))) := by
        rw [het, ← he]; exact takeR_end _ _ (by omega) (by omega) (by rw [he]; omega)
      have hst : stop 1 (ss.take (i + 1)) = ((e + s : Nat) : Int) := by rw [het, stop_append, he]; simp [stop]
      have hsr : runs 1 (ss.take (i + 1)) = runs 1 (ss.take i) ++ [((e : Int), (s : Int))] := by rw [het, runs_append, he]; rfl
      have hlast : ∃ h : i < (runs 1 (ss.take (i + 1))).length, (runs 1 (ss.take (i + 1)))[i] = ((e : Int), (s : Int)) := by
        have h1 : i < (runs 1 (ss.take (i + 1))).length := by rw [runs_len, List.length_take]; omega
        refine ⟨h1, ?_⟩
        have h2 := runs_last (ss.take i) (s : Int) (by rw [← het]; rw [hb2]; exact h1)
        simp only [← het, hb2, he] at h2
        exact h2
      have HTK := Aside0.mk htk
      have HST := Aside0.mk hst
      have HSR := Aside0.mk hsr
      have HLA := Aside0.mk hlast
      have hEE : ((e : Int) != (e : Int)) = false := by simp
      have hSS : ((s : Int) != (s : Int)) = false := by simp
      have hs1 : 1 ≤ s ∧ s ≤ 60 := by omega
      have he1 : ¬ ((e : Int) < 1) := by omega
      have he1b : decide ((e : Int) < 1) = false := decide_eq_false he1
      have he2b : decide (4096 < (e : Int) + (s : Int)) = false := decide_eq_false (by omega)
      clear hx hsz het hb1 hb2 hEv he htk hst hsr hlast
      go_upto_region 13 with (go_at_call 8; (with_reducible refine (take_is w.heap.size w.heap.size A c (runs 1 (ss.take i)) (runs 1 (ss.take (i + 1))) (s : Int) (e : Int) 0 _ HTK.out HW.out.sp).mono ?_); rintro e_ w3 ⟨A1, c1, rfl, hs, hch, hrow⟩; have HW_ := Aside0.mk (HW.out.chg hs hch hrow); clear HW; have HW := HW_; clear HW_ hs hch hrow)
      go_wp2_with fail
      have HL0 := Aside0.mk (show RelP w w2.heap.size A1 c1 (runs 1 (ss.take (i + 1))) (runs 1 (ss.take i)) u7 e s (.int .i64 e) w3 from ⟨e, rfl, by omega, by omega, HW.out⟩)
      go_loopw [12, 13, 14, 15] (fun v12 v13 v14 v15 wr => RelP w w2.heap.size A1 c1 (runs 1 (ss.take (i + 1))) (runs 1 (ss.take i)) u7 e s v12 wr) (fun v12 _ _ _ _ => e + s - (intOf v12).toNat)
      case atStart => exact HL0.out
      case round =>
        clear HL0 HW p0
        obtain ⟨p, rfl, hp1, hp2, hwh⟩ := hrel
        have HW := Aside0.mk hwh
        clear hwh
        by_cases hpl : p < e + s
        · have hpd : decide ((p : Int) < (e : Int) + (s : Int)) = true := decide_eq_true (by omega)
          have hpi : (0 : Int) ≤ (p : Int) := by omega
          have hp4 : (p : Int) < 4096 := by omega
          have u0 := HW.out.at_used p (Nat.le_refl _) (by omega)
          have uf := HW.out.notFrozen p
          have HM := Aside0.mk (HW.out.mark p (Nat.le_refl _))
          have hof : ofR (runs 1 (ss.take (i + 1))) (p : Int) = ((e : Int), (s : Int), true) := by
            obtain ⟨h1, h2⟩ := HLA.out
            have := ofR_some (p : Int) i h1 HW.out.sp.good (by rw [h2]; simp only; omega) (by rw [h2]; simp only; omega)
            rw [h2] at this; exact this
          have HOF := Aside0.mk hof
          clear hof
          go_wp2_with (go_at_call 10; (with_reducible refine (of_is w.heap.size w.heap.size A1 c1 (runs 1 (ss.take (i + 1))) (p : Int) (e : Int) (s : Int) true _ HOF.out HM.out.sp).mono ?_); rintro e_ w4 ⟨rfl, hb⟩; have HM_ := Aside0.mk (HM.out.below hb); clear HM hb; have HM := HM_; clear HM_)
          go_roundw
          case rel => exact ⟨p + 1, by go_num, by omega, by omega, HM.out⟩
          case measure => simp [intOf]; omega
        · obtain rfl : p = e + s := by omega
          have hpd : decide (((e + s : Nat) : Int) < (e : Int) + (s : Int)) = false := decide_eq_false (by omega)
          have hpd2 : decide ((e : Int) + (s : Int) < (e : Int) + (s : Int)) = false := decide_eq_false (by omega)
          go_wp2_with ((with_reducible refine gate_builtin (b := .append) (xs := #[.tmp 95, .tmp 99]) rfl ?_); at_builtin; obtain ⟨i0, hi0_, hz0, hzs, hzb⟩ := info_parts info_two; refine wpList_append_own_at (w := _) rfl (.tmp 95) (.tmp 99) 32 rfl w.heap.size 35 i0 _ 2 16 Try.underlying32 hi0_ hz0 hzs hzb rfl (by decide) _ (runs 1 (ss.take i)).length _ rfl (World.ownsRow.alloc HW.out.row _) ⟨_, 0, none⟩ 1 1 [.int .i64 (e : Int), .int .i64 (s : Int)] rfl rfl (two_new _ _ _ _) (by simp [Value.oneCell']) (by rw [runs_len, List.length_take]; unfold maxLen; omega) (by rw [runs_len, List.length_take]; omega) (by have := HW.out.low.size; simp; omega) ?_; intro v3 w5 ho hgr hnil hat; have HA3 := Aside0.mk (HW.out.append rfl hgr hat ho); clear hi0_ hz0 hzs hzb hnil ho hgr hat)
          go_roundw
          case rel => exact ⟨i + 1, A1, c1, e + s, by go_num, by omega, HST.out, by have := HA3.out; rw [← HSR.out] at this; exact this⟩
          case measure => simp [intOf]; omega
    · obtain rfl : i = n := by omega
      have hnot : (i : Int) < (xs.length : Int) → ¬ (i : Int) < 40 := by omega
      have htk : ss.take i = ss := List.take_of_length_le (by omega)
      rw [htk] at HW
      have hrl : (runs 1 ss).length = i := by rw [runs_len]; exact hsl
      have hin40 : i ≤ 40 := by omega
      have H7 := Aside0.mk (show RelG w w2.heap.size i u7 (.int .i64 0) wr from by
        obtain ⟨A7, c7, h7, h8, h9⟩ : ∃ A7 c7, u7 = .slice A7 (runs 1 ss).length c7 ∧ (runs 1 ss).length ≤ c7 ∧ c7 ≤ 9223372036854775807 := by
          rcases HW.out.row.2 with ⟨h0, hz⟩ | ⟨b, cap, cur, hv, _, _, hnc, hcm, _⟩
          · exact ⟨none, 0, by rw [h0, hz], by omega, by omega⟩
          · exact ⟨_, cap, hv, hnc, by unfold maxLen at hcm; omega⟩
        exact ⟨0, A, A7, c, c7, e, runs 1 ss, rfl, h7, by omega, h8, h9, HW.out⟩)
      clear HW htk hrl he
      have hstop : True := trivial
      by_cases hxl : i < xs.length
      · have hd1 : decide ((i : Int) < (xs.length : Int)) = true := decide_eq_true (by omega)
        have hd2 : decide ((i : Int) < 40) = false := decide_eq_false (by omega)
        go_wp2_with fail
        go_loopw [7, 16, 17, 18, 19] (fun v7 v16 v17 v18 v19 wr => RelG w w2.heap.size i v7 v16 wr) (fun v7 _ _ _ _ _ => lenV v7)
        case atStart => exact H7.out
        case round =>
          clear H7
          obtain ⟨j, A, A7, c, c7, e, l, rfl, rfl, hjl, hlc, hc7, hwh⟩ := hrel
          have HW := Aside0.mk hwh
          clear hwh
          by_cases hl0 : l.length = 0
          · have hln : l = [] := List.eq_nil_of_length_eq_zero hl0
            subst hln
            have hl1 : ¬ (0 : Int) < 0 := by omega
            have t1 : takeR 4095 [] = (1, 0, [(1, 4095)]) := by decide
            have t2 : takeR 1 [(1, 4095)] = (0, 14, [(1, 4095)]) := by decide
            have t3 : (4095 : Int) - pages [(1, 4095)] = 0 := by decide
            have T1 := Aside0.mk t1
            have T2 := Aside0.mk t2
            have T3 := Aside0.mk t3
            clear t1 t2 t3
            have HS := Aside0.mk HW.out.sp
            have HB := Aside0.mk HW.out.low
            clear HW
            go_wp2_with (first | (go_at_call 8; (with_reducible refine (take_is w.heap.size w.heap.size _ _ [] [(1, 4095)] 4095 1 0 _ T1.out HS.out).mono ?_); rintro e_ w2 ⟨A2, c2, rfl, hs, hch, hrow⟩; have HB_ := Aside0.mk (HS.out.chg HB.out hch); clear HB HS; have HB := HB_; have HS := Aside0.mk hs; clear HB_ hs hch hrow) | (go_at_call 8; (with_reducible refine (take_is w.heap.size w.heap.size _ _ [(1, 4095)] [(1, 4095)] 1 0 14 _ T2.out HS.out).mono ?_); rintro e_ w2 ⟨A2, c2, rfl, hs, hch, hrow⟩; have HB_ := Aside0.mk (HS.out.chg HB.out hch); clear HB HS; have HB := HB_; have HS := Aside0.mk hs; clear HB_ hs hch hrow) | (go_at_call 11; (with_reducible refine (free_is w.heap.size w.heap.size _ _ [(1, 4095)] 0 _ T3.out HS.out).mono ?_); rintro e_ w2 ⟨rfl, hb⟩; have HB_ := Aside0.mk (below_then HB.out HB.out.size hb); clear HB hb; have HB := HB_; clear HB_))
            go_ret
            exact ⟨rfl, HB.out⟩
          · have hl1 : (0 : Int) < (l.length : Int) := by omega
            have hl1b : decide ((0 : Int) < (l.length : Int)) = true := decide_eq_true hl1
            have hl40 : l.length ≤ 40 := by omega
            go_upto_region 27 with (fail)
            go_cut [109] (fun v W => v = .bool (decide ((j : Int) < (os.length : Int))) ∧ W = wr)
            case first =>
              go_wp2_with fail
              go_meet
              exact ⟨by simp, rfl⟩
            case rest =>
            obtain ⟨rfl, rfl⟩ := hcut
            refine (‹∀ (a : Act) (w : World), Code.wp _ _ _ a w → _›) _ _ ?_
            go_cut [17] (fun v17 W => (∃ k : Nat, v17 = .int .i64 k ∧ k < l.length) ∧ W = wc)
            case first =>
              by_cases hjo : j < os.length
              · have hjo1 : (j : Int) < (os.length : Int) := by omega
                have hjo2 : decide ((j : Int) < (os.length : Int)) = true := decide_eq_true hjo1
                have hj0 : (0 : Int) ≤ (j : Int) := by omega
                obtain ⟨ad, rfl, p0⟩ := Kd.at_int HR1.out (j : Int) hj0 hjo1
                obtain ⟨o, ho⟩ : ∃ o, rd os (j : Int) = o := ⟨_, rfl⟩
                rw [ho] at p0
                simp only [Int.toNat_natCast] at p0
                have p0 := pw_cell_below (w := w) HW.out.low p0
                have hwr : IntKind.u64.wrap (l.length : Int) = l.length := IntWalk.u64_in _ ⟨by omega, by omega⟩
                have hnn : 0 ≤ IntKind.u64.wrap o := by rw [IntKind.wrap_u64]; omega
                have hr1 := Int.tmod_nonneg (l.length : Int) hnn
                have hr2 := Int.tmod_lt_of_pos (IntKind.u64.wrap o) hl1
                obtain ⟨k, hk⟩ := Int.eq_ofNat_of_zero_le hr1
                have hkl : k < l.length := by omega
                have hw64 : wrap64 ((IntKind.u64.wrap o).tmod (l.length : Int)) = (k : Int) := by rw [hk]; exact IntWalk.wrap64_in _ ⟨by omega, by omega⟩
                have hl0' : ¬ (l.length : Int) = 0 := by omega
                clear ho hnn hr1 hr2 hk
                go_wp2_with fail
                go_meet
                exact ⟨⟨k, by rw [hw64], hkl⟩, rfl⟩
              · have hjo1 : ¬ (j : Int) < (os.length : Int) := by omega
                have hjo2 : decide ((j : Int) < (os.length : Int)) = false := decide_eq_false hjo1
                have hkl : 0 < l.length := by omega
                go_wp2_with fail
                go_meet
                exact ⟨⟨0, rfl, hkl⟩, rfl⟩
            case rest =>
              obtain ⟨⟨k, rfl, hkl⟩, rfl⟩ := hcut
              obtain ⟨g7, rfl, q0, q1⟩ := row2_at HW.out.row k hkl
              obtain ⟨⟨a, m⟩, hr⟩ : ∃ r, l[k] = r := ⟨_, rfl⟩
              have hgv : giveL a l = some (m, l.take k ++ l.drop (k + 1)) := by
                have h1 := giveL_at a l k hkl (by rw [hr]) (fun q hq hlt => by have := HW.out.sp.good.rising q k hq hkl hlt; rw [hr] at this; simp only at this; omega)
                rw [hr] at h1; exact h1
              rw [hr] at q0 q1
              simp only at q0 q1
              have HGV := Aside0.mk hgv
              have hll : (l.take k ++ l.drop (k + 1)).length + 1 = l.length := by rw [List.length_append, List.length_take, List.length_drop]; omega
              obtain ⟨l2, hl2⟩ : ∃ l2, l.take k ++ l.drop (k + 1) = l2 := ⟨_, rfl⟩
              rw [hl2] at HGV hll
              have HL2 := Aside0.mk hl2
              obtain ⟨Ad, hAd⟩ : ∃ Ad : Addr, (if c7 = k + 1 then some (⟨g7, 0, none⟩ : Addr) else some ⟨g7, (k + 1) * 2, none⟩) = some Ad := by
                by_cases h : c7 = k + 1
                · exact ⟨_, if_pos h⟩
                · exact ⟨_, if_neg h⟩
              have HAD := Aside0.mk hAd
              have HRK := Aside0.mk hr
              have hmm : (m != m) = false := by simp
              have hk0 : (0 : Int) ≤ (k : Int) := by omega
              have hk1 : (k : Int) < (l.length : Int) := by omega
              clear hgv hr hl2 hAd
              go_upto_region 32 with (go_at_call 9; (with_reducible refine (give_is w.heap.size w.heap.size A c l l2 a m _ HGV.out HW.out.sp).mono ?_); rintro e_ w4 ⟨c4, rfl, hs, hch⟩; have HW_ := Aside0.mk (HW.out.same hs hch); clear HW; have HW := HW_; clear HW_ hs hch; have q1 := (row2_of HW.out.row HGV.out k hkl HRK.out).2; have q0 := (row2_of HW.out.row HGV.out k hkl HRK.out).1)
              refine start_ (n := 11) (S := fun w' => True) (ds := []) #[false, false, false, false, false, false, false, false, false, false, false] (by kernel_rfl) rfl rfl trivial (fun hHeld => ?_)
              try clear hw64
              try clear hwr
              have n1 := Aside0.mk (HW.out.below (below_drew (Below.refl w4.heap.size w4)))
              clear HW q0 q1
              generalize w4.drew = wd at *
              have HW := n1
              clear n1
              obtain ⟨k1, hk1e⟩ : ∃ k1, k + 1 = k1 := ⟨_, rfl⟩
              obtain ⟨v1, w5, v2, w6, hr1, hr2, hrow5, hb5, hf5, A8, c8, hv2, hlc8, hc8⟩ := two_parts HW.out.low.size HW.out.row hkl (by omega) Ad HAD.out (c7 - k1)
              have hAd := HAD.out
              rw [hk1e] at hr2 hAd
              rw [HL2.out] at hrow5 hv2 hlc8
              subst hv2
              have HSW := Aside0.mk (HW.out.swap hb5 hrow5 hf5)
              have hkc : k ≤ c7 := by omega
              have hk1l : k1 ≤ l.length := by omega
              have hk1c : k1 ≤ c7 := by omega
              have hk1i : (k1 : Int) ≤ (l.length : Int) := by omega
              have hk1z : (0 : Int) ≤ (k1 : Int) := by omega
              have hki : (k : Int) ≤ (l.length : Int) := by omega
              clear hrow5 hb5 hf5 HW
              have hwk : wrap64 ((k : Int) + 1) = (k1 : Int) := by rw [IntWalk.wrap64_in _ ⟨by omega, by omega⟩]; omega
              refine pure_ (i := 1) (N := some 142) (v := ?_) (a' := ?_) #[false, true, false, false, false, false, false, false, false, false, false] rfl rfl (by kernel_rfl) (fun _ _ _ h => h) (Or.inl ⟨by rfl, ?_⟩) ?_ ?_
              rotate_left
              · intro w'
                go_simp
                with_reducible rfl
              rotate_left
              · simp only [Act.put, List.setIfInBounds_toArray, List.set_cons_zero, List.set_cons_succ, i64_w, i32_w]
                rfl
              refine pure_ (i := 2) (N := some 143) (v := ?_) (a' := ?_) #[false, true, true, false, false, false, false, false, false, false, false] rfl rfl (by kernel_rfl) (fun _ _ _ h => h) (Or.inl ⟨by rfl, ?_⟩) ?_ ?_
              rotate_left
              · intro w'
                go_simp
                with_reducible rfl
              rotate_left
              · simp only [Act.put, List.setIfInBounds_toArray, List.set_cons_zero, List.set_cons_succ, i64_w, i32_w]
                rfl
              refine pure_ (i := 3) (N := some 144) (v := ?_) (a' := ?_) #[false, true, true, true, false, false, false, false, false, false, false] rfl rfl (by kernel_rfl) (fun _ _ _ h => h) (Or.inl ⟨by rfl, ?_⟩) ?_ ?_
              rotate_left
              · intro w'
                go_simp
                with_reducible rfl
              rotate_left
              · simp only [Act.put, List.setIfInBounds_toArray, List.set_cons_zero, List.set_cons_succ, i64_w, i32_w]
                rfl
              refine pure_ (i := 5) (N := some 146) (v := ?_) (a' := ?_) #[false, true, true, true, false, true, false, false, false, false, false] rfl rfl (by kernel_rfl) (fun _ _ _ h => h) (Or.inl ⟨by rfl, ?_⟩) ?_ ?_
              rotate_left
              · intro w'
                go_simp
                with_reducible rfl
              rotate_left
              · simp only [Act.put, List.setIfInBounds_toArray, List.set_cons_zero, List.set_cons_succ, i64_w, i32_w]
                rfl
              refine pure_ (i := 6) (N := some 147) (v := ?_) (a' := ?_) #[false, true, true, true, false, true, true, false, false, false, false] rfl rfl (by kernel_rfl) (fun _ _ _ h => h) (Or.inl ⟨by rfl, ?_⟩) ?_ ?_
              rotate_left
              · intro w'
                go_simp
                with_reducible rfl
              rotate_left
              · simp only [Act.put, List.setIfInBounds_toArray, List.set_cons_zero, List.set_cons_succ, i64_w, i32_w]
                rfl
              refine pure_ (i := 7) (N := some 148) (v := ?_) (a' := ?_) #[false, true, true, true, false, true, true, true, false, false, false] rfl rfl (by kernel_rfl) (fun _ _ _ h => h) (Or.inl ⟨by rfl, ?_⟩) ?_ ?_
              rotate_left
              · intro w'
                go_simp
                with_reducible rfl
              rotate_left
              · simp only [Act.put, List.setIfInBounds_toArray, List.set_cons_zero, List.set_cons_succ, i64_w, i32_w]
                rfl
              refine pure_ (i := 8) (N := some 149) (v := ?_) (a' := ?_) #[false, true, true, true, false, true, true, true, true, false, false] rfl rfl (by kernel_rfl) (fun _ _ _ h => h) (Or.inl ⟨by rfl, ?_⟩) ?_ ?_
              rotate_left
              · intro w'
                go_simp
                with_reducible rfl
              rotate_left
              · simp only [Act.put, List.setIfInBounds_toArray, List.set_cons_zero, List.set_cons_succ, i64_w, i32_w]
                rfl
              refine one_ (i := 0) (N := some 141) #[true, true, true, true, false, true, true, true, true, false, false] rfl rfl (by kernel_rfl) (by decide) (fun K hK => ?_)
              refine value_ (w1 := ?_) (v := ?_) (by rfl) rfl ?_ ?_
              rotate_left 2
              · go_simp
                constructor
                · rfl
                · rfl
              refine hK.out _ _ trivial (fun hHeld => ?_)
              clear hK K
              refine norm_ (a' := ?_) ?_ ?_
              rotate_left
              · show Act.put _ (some 141) _ = _
                simp only [Act.put, List.setIfInBounds_toArray, List.set_cons_zero, List.set_cons_succ, i64_w, i32_w]
                rfl
              refine one_ (i := 4) (N := some 145) #[true, true, true, true, true, true, true, true, true, false, false] rfl rfl (by kernel_rfl) (by decide) (fun K hK => ?_)
              refine step_append_eq rfl _ _ 32 32 rfl _ _ rfl rfl (hr1 _) ?_
              refine hK.out _ _ trivial (fun hHeld => ?_)
              clear hK K
              refine norm_ (a' := ?_) ?_ ?_
              rotate_left
              · show Act.put _ (some 145) _ = _
                simp only [Act.put, List.setIfInBounds_toArray, List.set_cons_zero, List.set_cons_succ, i64_w, i32_w]
                rfl
              refine one_ (i := 9) (N := some 150) #[true, true, true, true, true, true, true, true, true, true, false] rfl rfl (by kernel_rfl) (by decide) (fun K hK => ?_)
              refine step_append_eq rfl _ _ 32 32 rfl _ _ rfl rfl (hr2 _) ?_
              refine hK.out _ _ trivial (fun hHeld => ?_)
              clear hK K
              refine norm_ (a' := ?_) ?_ ?_
              rotate_left
              · show Act.put _ (some 150) _ = _
                simp only [Act.put, List.setIfInBounds_toArray, List.set_cons_zero, List.set_cons_succ, i64_w, i32_w]
                rfl
              refine pure_ (i := 10) (N := some 7) (v := ?_) (a' := ?_) #[true, true, true, true, true, true, true, true, true, true, true] rfl rfl (by kernel_rfl) (fun _ _ _ h => h) (Or.inl ⟨by rfl, ?_⟩) ?_ ?_
              rotate_left
              · intro w'
                go_simp
                with_reducible rfl
              rotate_left
              · simp only [Act.put, List.setIfInBounds_toArray, List.set_cons_zero, List.set_cons_succ, i64_w, i32_w]
                rfl
              refine done_ (by kernel_rfl) ?_
              have HW := HSW
              clear HSW hr1 hr2 hAd
              go_wp2_with fail
              go_roundw
              case rel => exact ⟨j + 1, A, A8, c4, c8, e, l2, by go_num, rfl, by omega, hlc8, hc8, HW.out⟩
              case measure => simp [lenV]; omega
      · have hd1 : decide ((i : Int) < (xs.length : Int)) = false := decide_eq_false (by omega)
        go_wp2_with fail
        go_loopw [7, 16, 17, 18, 19] (fun v7 v16 v17 v18 v19 wr => RelG w w2.heap.size i v7 v16 wr) (fun v7 _ _ _ _ _ => lenV v7)
        case atStart => exact H7.out
        case round =>
          clear H7
          obtain ⟨j, A, A7, c, c7, e, l, rfl, rfl, hjl, hlc, hc7, hwh⟩ := hrel
          have HW := Aside0.mk hwh
          clear hwh
          by_cases hl0 : l.length = 0
          · have hln : l = [] := List.eq_nil_of_length_eq_zero hl0
            subst hln
            have hl1 : ¬ (0 : Int) < 0 := by omega
            have t1 : takeR 4095 [] = (1, 0, [(1, 4095)]) := by decide
            have t2 : takeR 1 [(1, 4095)] = (0, 14, [(1, 4095)]) := by decide
            have t3 : (4095 : Int) - pages [(1, 4095)] = 0 := by decide
            have T1 := Aside0.mk t1
            have T2 := Aside0.mk t2
            have T3 := Aside0.mk t3
            clear t1 t2 t3
            have HS := Aside0.mk HW.out.sp
            have HB := Aside0.mk HW.out.low
            clear HW
            go_wp2_with (first | (go_at_call 8; (with_reducible refine (take_is w.heap.size w.heap.size _ _ [] [(1, 4095)] 4095 1 0 _ T1.out HS.out).mono ?_); rintro e_ w2 ⟨A2, c2, rfl, hs, hch, hrow⟩; have HB_ := Aside0.mk (HS.out.chg HB.out hch); clear HB HS; have HB := HB_; have HS := Aside0.mk hs; clear HB_ hs hch hrow) | (go_at_call 8; (with_reducible refine (take_is w.heap.size w.heap.size _ _ [(1, 4095)] [(1, 4095)] 1 0 14 _ T2.out HS.out).mono ?_); rintro e_ w2 ⟨A2, c2, rfl, hs, hch, hrow⟩; have HB_ := Aside0.mk (HS.out.chg HB.out hch); clear HB HS; have HB := HB_; have HS := Aside0.mk hs; clear HB_ hs hch hrow) | (go_at_call 11; (with_reducible refine (free_is w.heap.size w.heap.size _ _ [(1, 4095)] 0 _ T3.out HS.out).mono ?_); rintro e_ w2 ⟨rfl, hb⟩; have HB_ := Aside0.mk (below_then HB.out HB.out.size hb); clear HB hb; have HB := HB_; clear HB_))
            go_ret
            exact ⟨rfl, HB.out⟩
          · have hl1 : (0 : Int) < (l.length : Int) := by omega
            have hl1b : decide ((0 : Int) < (l.length : Int)) = true := decide_eq_true hl1
            have hl40 : l.length ≤ 40 := by omega
            go_upto_region 27 with (fail)
            go_cut [109] (fun v W => v = .bool (decide ((j : Int) < (os.length : Int))) ∧ W = wr)
            case first =>
              go_wp2_with fail
              go_meet
              exact ⟨by simp, rfl⟩
            case rest =>
            obtain ⟨rfl, rfl⟩ := hcut
            refine (‹∀ (a : Act) (w : World), Code.wp _ _ _ a w → _›) _ _ ?_
            go_cut [17] (fun v17 W => (∃ k : Nat, v17 = .int .i64 k ∧ k < l.length) ∧ W = wc)
            case first =>
              by_cases hjo : j < os.length
              · have hjo1 : (j : Int) < (os.length : Int) := by omega
                have hjo2 : decide ((j : Int) < (os.length : Int)) = true := decide_eq_true hjo1
                have hj0 : (0 : Int) ≤ (j : Int) := by omega
                obtain ⟨ad, rfl, p0⟩ := Kd.at_int HR1.out (j : Int) hj0 hjo1
                obtain ⟨o, ho⟩ : ∃ o, rd os (j : Int) = o := ⟨_, rfl⟩
                rw [ho] at p0
                simp only [Int.toNat_natCast] at p0
                have p0 := pw_cell_below (w := w) HW.out.low p0
                have hwr : IntKind.u64.wrap (l.length : Int) = l.length := IntWalk.u64_in _ ⟨by omega, by omega⟩
                have hnn : 0 ≤ IntKind.u64.wrap o := by rw [IntKind.wrap_u64]; omega
                have hr1 := Int.tmod_nonneg (l.length : Int) hnn
                have hr2 := Int.tmod_lt_of_pos (IntKind.u64.wrap o) hl1
                obtain ⟨k, hk⟩ := Int.eq_ofNat_of_zero_le hr1
                have hkl : k < l.length := by omega
                have hw64 : wrap64 ((IntKind.u64.wrap o).tmod (l.length : Int)) = (k : Int) := by rw [hk]; exact IntWalk.wrap64_in _ ⟨by omega, by omega⟩
                have hl0' : ¬ (l.length : Int) = 0 := by omega
                clear ho hnn hr1 hr2 hk
                go_wp2_with fail
                go_meet
                exact ⟨⟨k, by rw [hw64], hkl⟩, rfl⟩
              · have hjo1 : ¬ (j : Int) < (os.length : Int) := by omega
                have hjo2 : decide ((j : Int) < (os.length : Int)) = false := decide_eq_false hjo1
                have hkl : 0 < l.length := by omega
                go_wp2_with fail
                go_meet
                exact ⟨⟨0, rfl, hkl⟩, rfl⟩
            case rest =>
              obtain ⟨⟨k, rfl, hkl⟩, rfl⟩ := hcut
              obtain ⟨g7, rfl, q0, q1⟩ := row2_at HW.out.row k hkl
              obtain ⟨⟨a, m⟩, hr⟩ : ∃ r, l[k] = r := ⟨_, rfl⟩
              have hgv : giveL a l = some (m, l.take k ++ l.drop (k + 1)) := by
                have h1 := giveL_at a l k hkl (by rw [hr]) (fun q hq hlt => by have := HW.out.sp.good.rising q k hq hkl hlt; rw [hr] at this; simp only at this; omega)
                rw [hr] at h1; exact h1
              rw [hr] at q0 q1
              simp only at q0 q1
              have HGV := Aside0.mk hgv
              have hll : (l.take k ++ l.drop (k + 1)).length + 1 = l.length := by rw [List.length_append, List.length_take, List.length_drop]; omega
              obtain ⟨l2, hl2⟩ : ∃ l2, l.take k ++ l.drop (k + 1) = l2 := ⟨_, rfl⟩
              rw [hl2] at HGV hll
              have HL2 := Aside0.mk hl2
              obtain ⟨Ad, hAd⟩ : ∃ Ad : Addr, (if c7 = k + 1 then some (⟨g7, 0, none⟩ : Addr) else some ⟨g7, (k + 1) * 2, none⟩) = some Ad := by
                by_cases h : c7 = k + 1
                · exact ⟨_, if_pos h⟩
                · exact ⟨_, if_neg h⟩
              have HAD := Aside0.mk hAd
              have HRK := Aside0.mk hr
              have hmm : (m != m) = false := by simp
              have hk0 : (0 : Int) ≤ (k : Int) := by omega
              have hk1 : (k : Int) < (l.length : Int) := by omega
              clear hgv hr hl2 hAd
              go_upto_region 32 with (go_at_call 9; (with_reducible refine (give_is w.heap.size w.heap.size A c l l2 a m _ HGV.out HW.out.sp).mono ?_); rintro e_ w4 ⟨c4, rfl, hs, hch⟩; have HW_ := Aside0.mk (HW.out.same hs hch); clear HW; have HW := HW_; clear HW_ hs hch; have q1 := (row2_of HW.out.row HGV.out k hkl HRK.out).2; have q0 := (row2_of HW.out.row HGV.out k hkl HRK.out).1)
              refine start_ (n := 11) (S := fun w' => True) (ds := []) #[false, false, false, false, false, false, false, false, false, false, false] (by kernel_rfl) rfl rfl trivial (fun hHeld => ?_)
              try clear hw64
              try clear hwr
              have n1 := Aside0.mk (HW.out.below (below_drew (Below.refl w4.heap.size w4)))
              clear HW q0 q1
              generalize w4.drew = wd at *
              have HW := n1
              clear n1
              obtain ⟨k1, hk1e⟩ : ∃ k1, k + 1 = k1 := ⟨_, rfl⟩
              obtain ⟨v1, w5, v2, w6, hr1, hr2, hrow5, hb5, hf5, A8, c8, hv2, hlc8, hc8⟩ := two_parts HW.out.low.size HW.out.row hkl (by omega) Ad HAD.out (c7 - k1)
              have hAd := HAD.out
              rw [hk1e] at hr2 hAd
              rw [HL2.out] at hrow5 hv2 hlc8
              subst hv2
              have HSW := Aside0.mk (HW.out.swap hb5 hrow5 hf5)
              have hkc : k ≤ c7 := by omega
              have hk1l : k1 ≤ l.length := by omega
              have hk1c : k1 ≤ c7 := by omega
              have hk1i : (k1 : Int) ≤ (l.length : Int) := by omega
              have hk1z : (0 : Int) ≤ (k1 : Int) := by omega
              have hki : (k : Int) ≤ (l.length : Int) := by omega
              clear hrow5 hb5 hf5 HW
              have hwk : wrap64 ((k : Int) + 1) = (k1 : Int) := by rw [IntWalk.wrap64_in _ ⟨by omega, by omega⟩]; omega
              refine pure_ (i := 1) (N := some 142) (v := ?_) (a' := ?_) #[false, true, false, false, false, false, false, false, false, false, false] rfl rfl (by kernel_rfl) (fun _ _ _ h => h) (Or.inl ⟨by rfl, ?_⟩) ?_ ?_
              rotate_left
              · intro w'
                go_simp
                with_reducible rfl
              rotate_left
              · simp only [Act.put, List.setIfInBounds_toArray, List.set_cons_zero, List.set_cons_succ, i64_w, i32_w]
                rfl
              refine pure_ (i := 2) (N := some 143) (v := ?_) (a' := ?_) #[false, true, true, false, false, false, false, false, false, false, false] rfl rfl (by kernel_rfl) (fun _ _ _ h => h) (Or.inl ⟨by rfl, ?_⟩) ?_ ?_
              rotate_left
              · intro w'
                go_simp
                with_reducible rfl
              rotate_left
              · simp only [Act.put, List.setIfInBounds_toArray, List.set_cons_zero, List.set_cons_succ, i64_w, i32_w]
                rfl
              refine pure_ (i := 3) (N := some 144) (v := ?_) (a' := ?_) #[false, true, true, true, false, false, false, false, false, false, false] rfl rfl (by kernel_rfl) (fun _ _ _ h => h) (Or.inl ⟨by rfl, ?_⟩) ?_ ?_
              rotate_left
              · intro w'
                go_simp
                with_reducible rfl
              rotate_left
              · simp only [Act.put, List.setIfInBounds_toArray, List.set_cons_zero, List.set_cons_succ, i64_w, i32_w]
                rfl
              refine pure_ (i := 5) (N := some 146) (v := ?_) (a' := ?_) #[false, true, true, true, false, true, false, false, false, false, false] rfl rfl (by kernel_rfl) (fun _ _ _ h => h) (Or.inl ⟨by rfl, ?_⟩) ?_ ?_
              rotate_left
              · intro w'
                go_simp
                with_reducible rfl
              rotate_left
              · simp only [Act.put, List.setIfInBounds_toArray, List.set_cons_zero, List.set_cons_succ, i64_w, i32_w]
                rfl
              refine pure_ (i := 6) (N := some 147) (v := ?_) (a' := ?_) #[false, true, true, true, false, true, true, false, false, false, false] rfl rfl (by kernel_rfl) (fun _ _ _ h => h) (Or.inl ⟨by rfl, ?_⟩) ?_ ?_
              rotate_left
              · intro w'
                go_simp
                with_reducible rfl
              rotate_left
              · simp only [Act.put, List.setIfInBounds_toArray, List.set_cons_zero, List.set_cons_succ, i64_w, i32_w]
                rfl
              refine pure_ (i := 7) (N := some 148) (v := ?_) (a' := ?_) #[false, true, true, true, false, true, true, true, false, false, false] rfl rfl (by kernel_rfl) (fun _ _ _ h => h) (Or.inl ⟨by rfl, ?_⟩) ?_ ?_
              rotate_left
              · intro w'
                go_simp
                with_reducible rfl
              rotate_left
              · simp only [Act.put, List.setIfInBounds_toArray, List.set_cons_zero, List.set_cons_succ, i64_w, i32_w]
                rfl
              refine pure_ (i := 8) (N := some 149) (v := ?_) (a' := ?_) #[false, true, true, true, false, true, true, true, true, false, false] rfl rfl (by kernel_rfl) (fun _ _ _ h => h) (Or.inl ⟨by rfl, ?_⟩) ?_ ?_
              rotate_left
              · intro w'
                go_simp
                with_reducible rfl
              rotate_left
              · simp only [Act.put, List.setIfInBounds_toArray, List.set_cons_zero, List.set_cons_succ, i64_w, i32_w]
                rfl
              refine one_ (i := 0) (N := some 141) #[true, true, true, true, false, true, true, true, true, false, false] rfl rfl (by kernel_rfl) (by decide) (fun K hK => ?_)
              refine value_ (w1 := ?_) (v := ?_) (by rfl) rfl ?_ ?_
              rotate_left 2
              · go_simp
                constructor
                · rfl
                · rfl
              refine hK.out _ _ trivial (fun hHeld => ?_)
              clear hK K
              refine norm_ (a' := ?_) ?_ ?_
              rotate_left
              · show Act.put _ (some 141) _ = _
                simp only [Act.put, List.setIfInBounds_toArray, List.set_cons_zero, List.set_cons_succ, i64_w, i32_w]
                rfl
              refine one_ (i := 4) (N := some 145) #[true, true, true, true, true, true, true, true, true, false, false] rfl rfl (by kernel_rfl) (by decide) (fun K hK => ?_)
              refine step_append_eq rfl _ _ 32 32 rfl _ _ rfl rfl (hr1 _) ?_
              refine hK.out _ _ trivial (fun hHeld => ?_)
              clear hK K
              refine norm_ (a' := ?_) ?_ ?_
              rotate_left
              · show Act.put _ (some 145) _ = _
                simp only [Act.put, List.setIfInBounds_toArray, List.set_cons_zero, List.set_cons_succ, i64_w, i32_w]
                rfl
              refine one_ (i := 9) (N := some 150) #[true, true, true, true, true, true, true, true, true, true, false] rfl rfl (by kernel_rfl) (by decide) (fun K hK => ?_)
              refine step_append_eq rfl _ _ 32 32 rfl _ _ rfl rfl (hr2 _) ?_
              refine hK.out _ _ trivial (fun hHeld => ?_)
              clear hK K
              refine norm_ (a' := ?_) ?_ ?_
              rotate_left
              · show Act.put _ (some 150) _ = _
                simp only [Act.put, List.setIfInBounds_toArray, List.set_cons_zero, List.set_cons_succ, i64_w, i32_w]
                rfl
              refine pure_ (i := 10) (N := some 7) (v := ?_) (a' := ?_) #[true, true, true, true, true, true, true, true, true, true, true] rfl rfl (by kernel_rfl) (fun _ _ _ h => h) (Or.inl ⟨by rfl, ?_⟩) ?_ ?_
              rotate_left
              · intro w'
                go_simp
                with_reducible rfl
              rotate_left
              · simp only [Act.put, List.setIfInBounds_toArray, List.set_cons_zero, List.set_cons_succ, i64_w, i32_w]
                rfl
              refine done_ (by kernel_rfl) ?_
              have HW := HSW
              clear HSW hr1 hr2 hAd
              go_wp2_with fail
              go_roundw
              case rel => exact ⟨j + 1, A, A8, c4, c8, e, l2, by go_num, rfl, by omega, hlc8, hc8, HW.out⟩
              case measure => simp [lenV]; omega
end Go.Proofs.Ytpnmbdhjmlidaaa.T
