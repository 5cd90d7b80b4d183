/- Caches: free objects that a CPU keeps. Rows of a colour, of elements of several cells. The log: where frames came from. -/
import Derived.Test.YtenkdmloolbdaaaGreatDoorB04
section
namespace Go.Proofs.YtenkdmloolbdaaaGreatDoor.T
open Go.RowKit Go.Proofs.YtenkdmloolbdaaaGreatDoorW.PrintWords Go.Proofs.YtenkdmloolbdaaaGreatDoorW.PrintLast Go.Proofs.YtenkdmloolbdaaaGreatDoorW.PrintMore
set_option linter.unusedVariables false
set_option linter.unusedSimpArgs false
/-- A list of numbers of a colour: none, or a row of its own. -/
def RowK (κ : Kol) (i : Nat) (w : World) (v : Value) (l : List Int) : Prop :=
  (v = .slice none 0 0 ∧ l = []) ∨ ∃ g cap cur, v = .slice (some ⟨g, 0, none⟩) l.length cap ∧ l.length ≤ cap ∧ cap ≤ maxLen ∧ cur.size = cap ∧ cur.toList.take l.length = l.map (Value.int .i64) ∧ BlkK κ i w g cur 3
theorem RowK.sl {κ : Kol} {i : Nat} {w : World} {v : Value} {l : List Int} (h : RowK κ i w v l) : ∃ A c, v = .slice A l.length c ∧ l.length ≤ c := by
  rcases h with ⟨rfl, rfl⟩ | ⟨g, cap, cur, rfl, h1, _⟩
  · exact ⟨none, 0, rfl, Nat.le_refl _⟩
  · exact ⟨_, cap, rfl, h1⟩
theorem RowK.upd {I : Nat → Prop} {κ κ1 : Kol} {i : Nat} {w w1 : World} {v : Value} {l : List Int} (h : RowK κ i w v l) (k : Upd I κ w κ1 w1) (hi : ¬ I i) : RowK κ1 i w1 v l := by
  rcases h with h | ⟨g, cap, cur, h0, h1, h2, h3, h4, h5⟩
  · exact .inl h
  · exact .inr ⟨g, cap, cur, h0, h1, h2, h3, h4, h5.upd k hi⟩
theorem RowK.below {κ : Kol} {i : Nat} {w w1 : World} {v : Value} {l : List Int} (h : RowK κ i w v l) (k : RowKit.Below w.heap.size w w1) : RowK κ i w1 v l := by
  rcases h with h | ⟨g, cap, cur, h0, h1, h2, h3, h4, h5⟩
  · exact .inl h
  · exact .inr ⟨g, cap, cur, h0, h1, h2, h3, h4, h5.below k⟩
theorem RowK.own {κ : Kol} {i : Nat} {w : World} {v : Value} {l : List Int} (h : RowK κ i w v l) : w.ownsRow 0 3 1 v l.length (nums .i64 l) := by
  rcases h with ⟨rfl, rfl⟩ | ⟨g, cap, cur, rfl, h1, h2, h3, h4, h5⟩
  · exact ⟨rfl, .inl ⟨rfl, rfl⟩⟩
  · exact ⟨by simp [nums], .inr ⟨g, cap, cur, rfl, Nat.zero_le _, h5.blk, h1, h2, by omega, by rw [Nat.mul_one]; exact h4⟩⟩
theorem RowK.block {κ : Kol} {i : Nat} {w : World} {v : Value} {l : List Int} (h : RowK κ i w v l) (g : Nat) (hg : v.ownBlock = some g) : κ g = i := by
  rcases h with ⟨rfl, rfl⟩ | ⟨g', cap, cur, rfl, h1, h2, h3, h4, h5⟩
  · simp [Value.ownBlock] at hg
  · simp [Value.ownBlock] at hg
    subst hg
    exact h5.kol
theorem RowK.of_own {κ : Kol} {i : Nat} {w : World} {v : Value} {l : List Int} (h : w.ownsRow 0 3 1 v l.length (nums .i64 l)) (hk : ∀ g, v.ownBlock = some g → κ g = i) : RowK κ i w v l := by
  obtain ⟨_, ⟨hv, h0⟩ | ⟨g, cap, cur, hv, h1, h2, h3, h4, h5, h6⟩⟩ := h
  · exact .inl ⟨hv, List.length_eq_zero_iff.1 h0⟩
  · subst hv
    exact .inr ⟨g, cap, cur, rfl, h3, h4, by omega, by rw [Nat.mul_one] at h6; exact h6, ⟨hk g (by simp [Value.ownBlock]), h2⟩⟩
/-- A row that an append has left. -/
theorem RowK.grown {κ : Kol} {i : Nat} {w w1 : World} {v v1 : Value} {l l1 : List Int} (h : RowK κ i w v l) (ho : w1.ownsRow 0 3 1 v1 l1.length (nums .i64 l1)) (hg : w.grownBy w1 v.ownBlock) (hat : v1.ownBlock = v.ownBlock ∨ ∃ b, v1.ownBlock = some b ∧ w.heap.size ≤ b) :
    RowK (κ.ext w.heap.size i) i w1 v1 l1 ∧ Upd (· = i) κ w (κ.ext w.heap.size i) w1 := by
  refine ⟨RowK.of_own ho (fun g hgg => ?_), fun b hb => Kol.ext_old κ hb, ⟨hg.os, hg.tape, hg.output, hg.size, fun b hb hne => hg.block b hb (fun e => hne (h.block b e.symm))⟩⟩
  rcases hat with e | ⟨b, e, hb⟩
  · rw [e] at hgg
    rcases h with ⟨rfl, rfl⟩ | ⟨g', cap, cur, rfl, _, _, _, _, h5⟩
    · simp [Value.ownBlock] at hgg
    · simp [Value.ownBlock] at hgg
      subst hgg
      rw [Kol.ext_old κ h5.blk.lt]
      exact h5.kol
  · rw [e] at hgg
    obtain rfl := Option.some.inj hgg
    exact Kol.ext_new κ hb
set_option maxHeartbeats 1000000 in
set_option maxRecDepth 100000 in
theorem cache_list (b c : Nat) (hc : c < 4) (w : World) :
    Calls Tryz.prog 167 #[.pointer (some ⟨b, 0, none⟩), .int .i64 c] w fun e w' => e = .returned (.pointer (some ⟨b, c, none⟩)) ∧ w' = w := by
  have c0 : (0 : Int) ≤ (c : Int) := by omega
  have c4 : (c : Int) < 4 := by omega
  have d0 : decide ((c : Int) < 0) = false := decide_eq_false (by omega)
  have d1 : decide (4 ≤ (c : Int)) = false := decide_eq_false (by omega)
  have d2 : decide (4 ≤ c) = false := decide_eq_false (by omega)
  go_enter Tryz.func167, Tryz.ntmps167
  go_wp2_with fail
  go_ret
  exact ⟨rfl, rfl⟩
/-- A cache: its lists' colours follow its own. -/
def CacheK (κ : Kol) (i : Nat) (w : World) (b : Nat) (L : Nat → List Int) : Prop :=
  ∃ v : Nat → Value, BlkK κ i w b #[v 0, v 1, v 2, v 3] 224 ∧ ∀ c, c < 4 → RowK κ (i + 1 + c) w (v c) (L c)
def setL (L : Nat → List Int) (c : Nat) (l : List Int) : Nat → List Int := fun k => if k = c then l else L k
theorem CacheK.upd {I : Nat → Prop} {κ κ1 : Kol} {i b : Nat} {w w1 : World} {L : Nat → List Int} (h : CacheK κ i w b L) (k : Upd I κ w κ1 w1) (hi : ∀ c, c < 5 → ¬ I (i + c)) : CacheK κ1 i w1 b L := by
  obtain ⟨v, h1, h2⟩ := h
  exact ⟨v, h1.upd k (hi 0 (by omega)), fun c hc => (h2 c hc).upd k (by rw [Nat.add_assoc]; exact hi (1 + c) (by omega))⟩
theorem CacheK.below {κ : Kol} {i b : Nat} {w w1 : World} {L : Nat → List Int} (h : CacheK κ i w b L) (k : RowKit.Below w.heap.size w w1) : CacheK κ i w1 b L := by
  obtain ⟨v, h1, h2⟩ := h
  exact ⟨v, h1.below k, fun c hc => (h2 c hc).below k⟩
theorem four_at (v : Nat → Value) (c : Nat) (hc : c < 4) : (#[v 0, v 1, v 2, v 3] : Array Value)[c]? = some (v c) := by
  match c, hc with
  | 0, _ => rfl
  | 1, _ => rfl
  | 2, _ => rfl
  | 3, _ => rfl
theorem four_set (v : Nat → Value) (c : Nat) (hc : c < 4) (u : Value) : (#[v 0, v 1, v 2, v 3] : Array Value).setIfInBounds c u = #[(if 0 = c then u else v 0), (if 1 = c then u else v 1), (if 2 = c then u else v 2), (if 3 = c then u else v 3)] := by
  match c, hc with
  | 0, _ => rfl
  | 1, _ => rfl
  | 2, _ => rfl
  | 3, _ => rfl
/-- The cache with another list. -/
theorem CacheK.put {κ1 : Kol} {i b c : Nat} {w1 : World} {L : Nat → List Int} {v : Nat → Value} (hc : c < 4) (h1 : BlkK κ1 i w1 b #[v 0, v 1, v 2, v 3] 224) (u : Value) (l : List Int) (hu : RowK κ1 (i + 1 + c) (w1.setCell ⟨b, c, none⟩ u) u l) (h2 : ∀ k, k < 4 → k ≠ c → RowK κ1 (i + 1 + k) (w1.setCell ⟨b, c, none⟩ u) (v k) (L k)) :
    CacheK κ1 i (w1.setCell ⟨b, c, none⟩ u) b (setL L c l) := by
  refine ⟨fun k => if k = c then u else v k, ?_, fun k hk => ?_⟩
  · have := h1.set c u
    rw [four_set v c hc u] at this
    exact this
  · unfold setL
    by_cases e : k = c
    · subst e; simpa using hu
    · simpa [e] using h2 k hk e
/-- A row stands behind a store into another block. -/
theorem RowK.other {κ : Kol} {i b j : Nat} {w : World} {v : Value} {l : List Int} (h : RowK κ i w v l) (hb : κ b ≠ i) (u : Value) : RowK κ i (w.setCell ⟨b, j, none⟩ u) v l := by
  rcases h with h | ⟨g, cap, cur, h0, h1, h2, h3, h4, h5⟩
  · exact .inl h
  · exact .inr ⟨g, cap, cur, h0, h1, h2, h3, h4, ⟨h5.kol, h5.blk.other ⟨b, j, none⟩ (fun e => hb (by have e2 : g = b := e; rw [← e2]; exact h5.kol)) u⟩⟩
set_option maxHeartbeats 1000000 in
set_option maxRecDepth 100000 in
theorem cache_empty (κ : Kol) (i b c : Nat) (hc : c < 4) (L : Nat → List Int) (hl : L c = []) (w : World) (h : CacheK κ i w b L) :
    Calls Tryz.prog 116 #[.pointer (some ⟨b, 0, none⟩), .int .i64 c] w fun e w' => e = .returned (.tuple #[.int .i64 0, .bool false]) ∧ w' = w := by
  obtain ⟨v, hb, hr⟩ := h
  have hrow := hr c hc
  rw [hl] at hrow
  obtain ⟨A, cap, hv, hle⟩ := hrow.sl
  have s0 := hb.blk.at c (.slice A 0 cap) (by rw [four_at v c hc, hv]; rfl)
  have HL := Aside0.mk (cache_list b c hc)
  clear hb hr hrow hl hv hle
  go_enter Tryz.func116, Tryz.ntmps116
  go_wp2_with (go_at_call 167; (with_reducible refine (HL.out _).mono ?_); rintro e_ w1 ⟨rfl, rfl⟩)
  go_ret2
  exact ⟨rfl, rfl⟩
set_option maxHeartbeats 1000000 in
set_option maxRecDepth 100000 in
theorem cache_push (κ : Kol) (i b c : Nat) (hc : c < 4) (L : Nat → List Int) (x : Int) (h8 : (L c).length < 8) (w : World) (h : CacheK κ i w b L) :
    Calls Tryz.prog 150 #[.pointer (some ⟨b, 0, none⟩), .int .i64 c, .int .i64 x] w fun e w' => e = .returned (.tuple #[.bool true, .int .i64 0]) ∧ ∃ κ', CacheK κ' i w' b (setL L c (L c ++ [x])) ∧ Upd (fun k => k = i ∨ k = i + 1 + c) κ w κ' w' := by
  obtain ⟨v, hb, hr⟩ := h
  have hrow := hr c hc
  obtain ⟨A, cap, hv, hle⟩ := hrow.sl
  obtain ⟨p, hp⟩ : ∃ p, (L c).length = p := ⟨_, rfl⟩
  rw [hp] at hv hle h8
  have s0 := hb.blk.at c (.slice A p cap) (by rw [four_at v c hc, hv])
  have f0 := hb.blk.fz c
  have HK := Aside0.mk hb
  have HR := Aside0.mk hr
  have HROW := Aside0.mk (hv ▸ hrow)
  have HP := Aside0.mk hp
  have HV := Aside0.mk hv
  have info3 : (Tryz.prog.info? 3).map (fun i => (i.zero, i.size, i.bytes)) = some (some (.int .i64 0), 1, 8) := by kernel_rfl
  have HL := Aside0.mk (cache_list b c hc)
  have e2 : ((p : Int) == 8) = false := beq_eq_false_iff_ne.mpr (by omega)
  have e3 : (p == 8) = false := beq_eq_false_iff_ne.mpr (by omega)
  clear hb hr hrow hv hp
  go_enter Tryz.func150, Tryz.ntmps150
  go_wp2_with (first | (go_at_call 167; (with_reducible refine (HL.out _).mono ?_); rintro e_ w1 ⟨rfl, rfl⟩) | ((with_reducible refine gate_builtin (b := .append) (xs := #[.tmp 24, .tmp 26]) rfl ?_); at_builtin; refine Kd.R_append (Kd.int .i64) (w0 := w1) 0 rfl (.tmp 24) (.tmp 26) 34 3 (.int .i64 0) 8 rfl Tryz.underlying34 info3 rfl (by decide) (by omega) (.slice A p cap) (L c) x [.int .i64 x] (fun _ => True) (fun _ => False) rfl rfl ?aP (fun _ hk => hk.elim) ?aF ?aO ?aB ?aS ?aL ?_; (case aP => exact rfl); (case aB => exact RowKit.Below.refl _ _); (case aF => exact (fun _ _ => trivial)); (case aO => exact Kd.R_of_own HROW.out.own (fun _ _ => trivial)); (case aS => exact Nat.zero_le _); (case aL => (have := HP.out; omega)); intro v7 w7 ho hb hg hat; obtain ⟨A7, c7, rfl⟩ := own_slice (Kd.own_of_R ho); have HG := Aside0.mk (RowK.grown (l1 := L c ++ [x]) HROW.out (Kd.own_of_R ho) hg hat); clear ho hb hg hat; have HK7 := Aside0.mk (HK.out.upd HG.out.2 (by omega)); clear s0 f0; have s0 := HK7.out.blk.at c (.slice A p cap) (by rw [four_at v c hc, HV.out]); have f0 := HK7.out.blk.fz c))
  go_ret2
  have hl2 : (L c ++ [x]).length = (L c).length + 1 := by simp
  have hg1 := HG.out.1
  rw [hl2] at hg1
  exact ⟨rfl, _, CacheK.put hc HK7.out _ (L c ++ [x]) (hg1.other (by rw [HK7.out.kol]; omega) _) (fun k hk hne => ((HR.out k hk).upd HG.out.2 (by omega)).other (by rw [HK7.out.kol]; omega) _), (Upd.mono (J := fun k => k = i ∨ k = i + 1 + c) HG.out.2 (fun k e => Or.inr e)).set ⟨b, c, none⟩ (fun _ => Or.inl HK.out.kol) _⟩
end Go.Proofs.YtenkdmloolbdaaaGreatDoor.T
end
section
namespace Go.Proofs.YtenkdmloolbdaaaGreatDoor.T
open Go.RowKit Go.Proofs.YtenkdmloolbdaaaGreatDoorW.PrintWords Go.Proofs.YtenkdmloolbdaaaGreatDoorW.PrintLast Go.Proofs.YtenkdmloolbdaaaGreatDoorW.PrintMore
set_option linter.unusedVariables false
set_option linter.unusedSimpArgs false
/-- A row of n elements of sz cells, of a colour. -/
def RowG (κ : Kol) (i : Nat) (w : World) (e : TypeId) (sz : Nat) (v : Value) (n : Nat) (cs : List Value) : Prop :=
  w.ownsRow 0 e sz v n cs ∧ ∀ g, v.ownBlock = some g → κ g = i
theorem RowG.lt {κ : Kol} {i : Nat} {w : World} {e : TypeId} {sz : Nat} {v : Value} {n : Nat} {cs : List Value} (h : RowG κ i w e sz v n cs) (g : Nat) (hg : v.ownBlock = some g) : g < w.heap.size := own_lt h.1 g hg
theorem RowG.upd {I : Nat → Prop} {κ κ1 : Kol} {i : Nat} {w w1 : World} {e : TypeId} {sz : Nat} {v : Value} {n : Nat} {cs : List Value} (h : RowG κ i w e sz v n cs) (k : Upd I κ w κ1 w1) (hi : ¬ I i) : RowG κ1 i w1 e sz v n cs :=
  ⟨own_move h.1 (fun b hb => k.chg.block b (h.lt b hb) (fun hI => hi (h.2 b hb ▸ hI))), fun g hg => (k.kol g (h.lt g hg)).trans (h.2 g hg)⟩
theorem RowG.below {κ : Kol} {i : Nat} {w w1 : World} {e : TypeId} {sz : Nat} {v : Value} {n : Nat} {cs : List Value} (h : RowG κ i w e sz v n cs) (k : RowKit.Below w.heap.size w w1) : RowG κ i w1 e sz v n cs :=
  ⟨own_move h.1 (fun b hb => k.block b (h.lt b hb)), h.2⟩
theorem RowG.nil (κ : Kol) (i : Nat) (w : World) (e : TypeId) (sz : Nat) : RowG κ i w e sz (.slice none 0 0) 0 [] := ⟨⟨by simp, .inl ⟨rfl, rfl⟩⟩, fun g hg => by simp [Value.ownBlock] at hg⟩
theorem RowG.sl {κ : Kol} {i : Nat} {w : World} {e : TypeId} {sz : Nat} {v : Value} {n : Nat} {cs : List Value} (h : RowG κ i w e sz v n cs) : ∃ A c, v = .slice A n c := by
  rcases h.1.2 with ⟨rfl, rfl⟩ | ⟨g, cap, cur, rfl, _⟩
  · exact ⟨none, 0, rfl⟩
  · exact ⟨_, cap, rfl⟩
/-- What an append has left. -/
theorem RowG.grown {κ : Kol} {i : Nat} {w w1 : World} {e : TypeId} {sz : Nat} {v v1 : Value} {n n1 : Nat} {cs cs1 : List Value} (h : RowG κ i w e sz v n cs) (ho : w1.ownsRow 0 e sz v1 n1 cs1) (hg : w.grownBy w1 v.ownBlock) (hat : v1.ownBlock = v.ownBlock ∨ ∃ b, v1.ownBlock = some b ∧ w.heap.size ≤ b) :
    RowG (κ.ext w.heap.size i) i w1 e sz v1 n1 cs1 ∧ Upd (· = i) κ w (κ.ext w.heap.size i) w1 := by
  refine ⟨⟨ho, fun g hgg => ?_⟩, fun b hb => Kol.ext_old κ hb, ⟨hg.os, hg.tape, hg.output, hg.size, fun b hb hne => hg.block b hb (fun e => hne (h.2 b e.symm))⟩⟩
  rcases hat with e | ⟨b, e, hb⟩
  · rw [e] at hgg
    rw [Kol.ext_old κ (h.lt g hgg)]
    exact h.2 g hgg
  · rw [e] at hgg
    obtain rfl := Option.some.inj hgg
    exact Kol.ext_new κ hb
end Go.Proofs.YtenkdmloolbdaaaGreatDoor.T
end
section
namespace Go.Proofs.YtenkdmloolbdaaaGreatDoor.T
open Go.RowKit Go.Proofs.YtenkdmloolbdaaaGreatDoorW.PrintWords Go.Proofs.YtenkdmloolbdaaaGreatDoorW.PrintLast Go.Proofs.YtenkdmloolbdaaaGreatDoorW.PrintMore
set_option linter.unusedVariables false
set_option linter.unusedSimpArgs false
/-- An event: node, start, own, by an Interleave? -/
structure Ev where
  node : Nat
  start : Nat
  own : Nat
  il : Bool
def Ev.cells (x : Ev) : List Value := [.int .i64 x.node, .int .i64 x.start, .int .i64 x.own, .bool x.il]
def evCells (l : List Ev) : List Value := l.flatMap Ev.cells
/-- A log in memory: its events, and six counts for each node, in one row. -/
structure LogK (κ : Kol) (i : Nat) (w : World) (b nodes : Nat) (ev : List Ev) (cn : List Int) : Prop where
  len : cn.length = nodes * 6
  row : ∃ v g, BlkK κ i w b #[v, .slice (some ⟨g, 0, none⟩) nodes nodes] 156 ∧ BlkK κ (i + 1) w g (cn.map (Value.int .i64)).toArray 67 ∧ RowG κ (i + 2) w 99 4 v ev.length (evCells ev)
theorem LogK.upd {I : Nat → Prop} {κ κ1 : Kol} {i b nodes : Nat} {w w1 : World} {ev : List Ev} {cn : List Int} (h : LogK κ i w b nodes ev cn) (k : Upd I κ w κ1 w1) (hi : ∀ c, c < 3 → ¬ I (i + c)) : LogK κ1 i w1 b nodes ev cn := by
  obtain ⟨h0, v, g, h1, h2, h3⟩ := h
  exact ⟨h0, v, g, h1.upd k (hi 0 (by omega)), h2.upd k (hi 1 (by omega)), h3.upd k (hi 2 (by omega))⟩
theorem made_counts (m : Nat) : madeCells (Value.agg (Array.replicate 6 (.int .i64 0))).cells (m * 6) = ((List.replicate (m * 6) (0 : Int)).map (Value.int .i64)).toArray := by
  unfold madeCells
  apply Array.ext
  · simp
  · intro j h1 h2
    have hj : j % 6 < 6 := Nat.mod_lt _ (by decide)
    simp [Value.cells, hj]
set_option maxHeartbeats 1000000 in
set_option maxRecDepth 100000 in
theorem log_new (κ : Kol) (i nodes : Nat) (hn : 1 ≤ nodes) (hn2 : nodes ≤ 8) (w : World) :
    Calls Tryz.prog 142 #[.int .i64 nodes] w fun e w' => ∃ κ' b, e = .returned (.tuple #[.pointer (some ⟨b, 0, none⟩), .int .i64 0]) ∧ LogK κ' i w' b nodes [] (List.replicate (nodes * 6) 0) ∧ w.heap.size ≤ b ∧ (∀ x, x < w.heap.size → κ' x = κ x) ∧ RowKit.Below w.heap.size w w' := by
  have hinfo : (Tryz.prog.info? 67).map (fun i => (i.zero, i.size, i.bytes)) = some (some (.agg (Array.replicate 6 (.int .i64 0))), 6, 48) := by kernel_rfl
  have hmk : ∀ W : World, (Instr.makeSlice 154 (.int .i64 (nodes : Int)) (.int .i64 (nodes : Int))).run Tryz.prog W = .ok (.slice (some ⟨W.heap.size, 0, none⟩) nodes nodes) (W.alloc (.cells ((List.replicate (nodes * 6) (0 : Int)).map (Value.int .i64)).toArray 67)) := by
    intro W
    obtain ⟨it, hi, hzz⟩ := Option.map_eq_some_iff.1 hinfo
    simp only [Prod.mk.injEq] at hzz
    obtain ⟨hz, hs, hb2⟩ := hzz
    have h := run_make (P := Tryz.prog) W 154 67 it _ Tryz.underlying154 hi hz .i64 .i64 (nodes : Int) (nodes : Int) (by omega) (Int.le_refl _) (by rw [hb2]; omega) (by omega)
    rw [h, hs]
    simp only [Int.toNat_natCast]
    rw [made_counts]
  have n1 : (1 : Int) ≤ (nodes : Int) := by omega
  have n2 : (nodes : Int) ≤ 8 := by omega
  clear hinfo
  go_enter Tryz.func142, Tryz.ntmps142
  go_wp2_with fail
  go_ret2
  refine ⟨fun x => if x < w.heap.size then κ x else if x = w.heap.size then i + 1 else i, w.heap.size + 1, rfl, ⟨by simp, .slice none 0 0, w.heap.size, ⟨?_, Blk.new1 w _ _ _⟩, ⟨?_, by rw [show ((List.replicate (nodes * 6) (0 : Int)).map (Value.int .i64)).toArray = Array.replicate (nodes * 6) (.int .i64 0) by simp]; exact (Blk.new w _ _).alloc _⟩, RowG.nil _ _ _ _ _⟩, by omega, fun x hx => if_pos hx, below_alloc (below_alloc (RowKit.Below.refl _ _) _) _⟩
  · show (if w.heap.size + 1 < w.heap.size then _ else _) = _
    rw [if_neg (by omega), if_neg (by omega)]
  · show (if w.heap.size < w.heap.size then _ else _) = _
    rw [if_neg (by omega), if_pos rfl]
set_option maxHeartbeats 1000000 in
set_option maxRecDepth 100000 in
theorem log_node (b g nodes n : Nat) (v : Value) (hn : n < nodes) (hN : nodes ≤ 100000) (w : World) (h : Blk w b #[v, .slice (some ⟨g, 0, none⟩) nodes nodes] 156) :
    Calls Tryz.prog 80 #[.pointer (some ⟨b, 0, none⟩), .int .i64 n] w fun e w' => e = .returned (.pointer (some ⟨g, n * 6, none⟩)) ∧ w' = w := by
  have s1 := h.at 1 (.slice (some ⟨g, 0, none⟩) nodes nodes) rfl
  have n0 : (0 : Int) ≤ (n : Int) := by omega
  have nI : (n : Int) < (nodes : Int) := by omega
  have d0 : decide ((n : Int) < 0) = false := decide_eq_false (by omega)
  have d1 : decide (nodes ≤ n) = false := decide_eq_false (by omega)
  clear h
  go_enter Tryz.func80, Tryz.ntmps80
  go_wp2_with fail
  go_ret
  exact ⟨rfl, rfl⟩
end Go.Proofs.YtenkdmloolbdaaaGreatDoor.T
end
