/- Frames: the bytes that a machine has. Clones of rows of numbers. Memory: bytes by their virtual addresses. Rows of any kind, of a colour; pointers in maps. Pieces of memory. -/
import Derived.Test.YtenkdmloolbdaaaGreatDoorB04
import Derived.Laws.CopyRow
import Derived.Laws.Tables
import Derived.Lib.SliceRun
import Derived.Test.YtenkdmloolbdaaaGreatDoorB06
section
namespace Go.Proofs.YtenkdmloolbdaaaGreatDoor.T
open Go.RowKit Go.Proofs.YtenkdmloolbdaaaGreatDoorW.PrintWords Go.Proofs.YtenkdmloolbdaaaGreatDoorW.PrintLast Go.Proofs.YtenkdmloolbdaaaGreatDoorW.PrintMore
set_option linter.unusedVariables false
set_option linter.unusedSimpArgs false
/-- Bytes as cells. -/
def bv (l : List Nat) : Array Value := (l.map fun (x : Nat) => Value.int .u8 x).toArray
/-- Frames in memory: so many a node, N in all, their bytes. -/
structure FramesK (κ : Kol) (i : Nat) (w : World) (b each N : Nat) (l : List Nat) : Prop where
  len : l.length = N * 64
  row : ∃ g, BlkK κ i w b #[.int .i64 each, .slice (some ⟨g, 0, none⟩) N N] 205 ∧ BlkK κ i w g (bv l) 266
theorem FramesK.upd {I : Nat → Prop} {κ κ1 : Kol} {i b each N : Nat} {w w1 : World} {l : List Nat} (h : FramesK κ i w b each N l) (k : Upd I κ w κ1 w1) (hi : ¬ I i) : FramesK κ1 i w1 b each N l := by
  obtain ⟨h0, g, h1, h2⟩ := h
  exact ⟨h0, g, h1.upd k hi, h2.upd k hi⟩
theorem FramesK.below {κ : Kol} {i b each N : Nat} {w w1 : World} {l : List Nat} (h : FramesK κ i w b each N l) (k : RowKit.Below w.heap.size w w1) : FramesK κ i w1 b each N l := by
  obtain ⟨h0, g, h1, h2⟩ := h
  exact ⟨h0, g, h1.below k, h2.below k⟩
theorem bv_at (l : List Nat) (j : Nat) (hj : j < l.length) : (bv l)[j]? = some (.int .u8 (l[j] : Nat)) := by
  unfold bv
  rw [List.getElem?_toArray, List.getElem?_map, List.getElem?_eq_getElem hj]; rfl
set_option maxHeartbeats 1000000 in
set_option maxRecDepth 100000 in
theorem frame_own (each N g b n : Nat) (hn : n < N) (hN : N ≤ 100000) (w : World) (h : Blk w b #[.int .i64 each, .slice (some ⟨g, 0, none⟩) N N] 205) :
    Calls Tryz.prog 132 #[.pointer (some ⟨b, 0, none⟩), .int .i64 n] w fun e w' => e = .returned (.tuple #[.pointer (some ⟨g, n * 64, none⟩), .int .i64 0]) ∧ w' = w := by
  have s1 := h.at 1 (.slice (some ⟨g, 0, none⟩) N N) rfl
  have n0 : (0 : Int) ≤ (n : Int) := by omega
  have nI : (n : Int) < (N : Int) := by omega
  have d0 : decide ((n : Int) < 0) = false := decide_eq_false (by omega)
  have d1 : decide (N ≤ n) = false := decide_eq_false (by omega)
  clear h
  go_enter Tryz.func132, Tryz.ntmps132
  go_wp2_with fail
  go_ret2
  exact ⟨rfl, rfl⟩
set_option maxHeartbeats 1000000 in
set_option maxRecDepth 100000 in
theorem frames_len (each N g b : Nat) (hN : N ≤ 100000) (w : World) (h : Blk w b #[.int .i64 each, .slice (some ⟨g, 0, none⟩) N N] 205) :
    Calls Tryz.prog 89 #[.pointer (some ⟨b, 0, none⟩)] w fun e w' => e = .returned (.int .i64 N) ∧ w' = w := by
  have s1 := h.at 1 (.slice (some ⟨g, 0, none⟩) N N) rfl
  clear h
  go_enter Tryz.func89, Tryz.ntmps89
  go_wp2_with fail
  go_ret
  exact ⟨rfl, rfl⟩
set_option maxHeartbeats 1000000 in
set_option maxRecDepth 100000 in
theorem part_own (each N g b n a s : Nat) (hn : n < N) (hN : N ≤ 100000) (ha : a + s ≤ 64) (hs : 0 < s) (w : World) (h : Blk w b #[.int .i64 each, .slice (some ⟨g, 0, none⟩) N N] 205) :
    Calls Tryz.prog 176 #[.pointer (some ⟨b, 0, none⟩), .int .i64 n, .int .i64 a, .int .i64 s] w fun e w' => e = .returned (.tuple #[.slice (some ⟨g, n * 64 + a, none⟩) s (64 - a), .int .i64 0]) ∧ w' = w := by
  have HF := Aside0.mk (frame_own each N g b n hn hN w h)
  have d0 : decide ((a : Int) < 0) = false := decide_eq_false (by omega)
  have d1 : decide ((s : Int) < 0) = false := decide_eq_false (by omega)
  have d2 : decide (64 < (a : Int)) = false := decide_eq_false (by omega)
  have d2' : decide (64 < a) = false := decide_eq_false (by omega)
  have d3 : decide (64 - (a : Int) < (s : Int)) = false := decide_eq_false (by omega)
  obtain ⟨q, hq⟩ : ∃ q, a + s = q := ⟨_, rfl⟩
  have a0 : (0 : Int) ≤ (a : Int) := by omega
  have hqI : (a : Int) + (s : Int) = (q : Int) := by omega
  have l1 : (a : Int) ≤ (q : Int) := by omega
  have l2 : (q : Int) ≤ 64 := by omega
  have l3 : ¬ 64 = a := by omega
  have hqs := Aside0.mk (show q - a = s by omega)
  clear h
  go_enter Tryz.func176, Tryz.ntmps176
  go_wp2_with (go_at_call 132; (with_reducible refine HF.out.mono ?_); rintro e_ w1 ⟨rfl, rfl⟩)
  go_ret2
  exact ⟨by rw [← hqs.out]; rfl, rfl⟩
/-- Some bytes of all in other ones' place. -/
def spliceB (l : List Nat) (o : Nat) (xs : List Nat) : List Nat := l.take o ++ xs ++ l.drop (o + xs.length)
theorem splice_len (l : List Nat) (o : Nat) (xs : List Nat) (h : o + xs.length ≤ l.length) : (spliceB l o xs).length = l.length := by
  unfold spliceB
  simp
  omega
theorem splice_bv (l : List Nat) (o : Nat) (xs : List Nat) : ((bv l).toList.take o ++ (xs.map fun (x : Nat) => Value.int .u8 x) ++ (bv l).toList.drop (o + (xs.map fun (x : Nat) => Value.int .u8 x).length)).toArray = bv (spliceB l o xs) := by
  unfold bv spliceB
  simp [List.map_take, List.map_drop]
theorem BlkK.setRow {κ : Kol} {i g : Nat} {w : World} {cs : Array Value} {t : TypeId} (h : BlkK κ i w g cs t) (cs' : Array Value) : BlkK κ i (w.setRow g cs') g cs' t := ⟨h.kol, setRow_heap w g cs cs' t (0, 0) h.blk⟩
theorem Upd.setRow {κ : Kol} {i g : Nat} {w : World} (hk : κ g = i) (cs : Array Value) : Upd (· = i) κ w κ (w.setRow g cs) :=
  ⟨fun _ _ => rfl, ⟨rfl, rfl, rfl, by simp, fun b _ hne => setRow_other w g b cs (fun e => hne (by rw [e]; exact hk))⟩⟩
set_option maxHeartbeats 1000000 in
set_option maxRecDepth 100000 in
theorem save_own (κ : Kol) (i b each N n a : Nat) (l xs : List Nat) (A : Addr) (cap : Nat) (hn : n < N) (hN : N ≤ 100000) (ha : a + xs.length ≤ 64) (hs : 0 < xs.length) (w : World) (h : FramesK κ i w b each N l)
    (hx : ∀ j (y : Nat), xs[j]? = some y → w.cell? (A.add j) = some (.int .u8 y)) :
    Calls Tryz.prog 123 #[.pointer (some ⟨b, 0, none⟩), .int .i64 n, .int .i64 a, .slice (some A) xs.length cap] w fun e w' => e = .returned (.int .i64 0) ∧ FramesK κ i w' b each N (spliceB l (n * 64 + a) xs) ∧ Upd (· = i) κ w κ w' := by
  obtain ⟨hl, g, hb, hg⟩ := h
  obtain ⟨s, hsx⟩ : ∃ s, xs.length = s := ⟨_, rfl⟩
  have hfit : n * 64 + a + xs.length ≤ l.length := by rw [hl]; have : (n + 1) * 64 ≤ N * 64 := Nat.mul_le_mul_right _ hn; omega
  have hinfo : (Tryz.prog.info? 5).map (·.size) = some 1 := by kernel_rfl
  have hcp := run_copy_row (P := Tryz.prog) w 23 23 3 5 g (n * 64 + a) s (64 - a) A s cap (bv l) 266 (xs.map fun (x : Nat) => Value.int .u8 x) Tryz.underlying23 hinfo hg.blk
    (by rw [List.length_map, hsx]; exact (Nat.min_self s).symm) (fun j v hv => by
      rw [List.getElem?_map] at hv
      cases hy : xs[j]? with
      | none => rw [hy] at hv; simp at hv
      | some y => rw [hy] at hv; simp at hv; rw [← hv]; exact hx j y hy)
    (by unfold bv; simp; omega) (by intro v hv; obtain ⟨y, _, rfl⟩ := List.mem_map.1 hv; rfl)
  rw [splice_bv] at hcp
  have HPA := Aside0.mk (part_own each N g b n a s hn hN (by omega) (by omega) w hb.blk)
  have HFIN := Aside0.mk (show FramesK κ i (w.setRow g (bv (spliceB l (n * 64 + a) xs))) b each N (spliceB l (n * 64 + a) xs) ∧ Upd (· = i) κ w κ (w.setRow g (bv (spliceB l (n * 64 + a) xs))) from by
    have hne : b ≠ g := fun e => by
      have h1 := hb.blk
      have h2 := hg.blk
      unfold Blk at h1 h2
      rw [e, h2] at h1
      injection h1 with h1
      injection h1 with _ h3
      exact absurd h3 (by decide)
    exact ⟨⟨by rw [splice_len _ _ _ hfit]; exact hl, g, ⟨hb.kol, (setRow_other w g b _ hne).trans hb.blk⟩, hg.setRow _⟩, Upd.setRow hg.kol _⟩)
  rw [hsx]
  clear hx hl hb hg hinfo hfit
  go_enter Tryz.func123, Tryz.ntmps123
  go_wp2_with (go_at_call 176; (with_reducible refine HPA.out.mono ?_); rintro e_ w1 ⟨rfl, rfl⟩)
  go_ret
  exact ⟨rfl, HFIN.out⟩
theorem made_bytes (m : Nat) : madeCells (Value.agg (Array.replicate 64 (.int .u8 0))).cells (m * 64) = bv (List.replicate (m * 64) 0) := by
  unfold madeCells bv
  apply Array.ext
  · simp
  · intro j h1 h2
    have hj : j % 64 < 64 := Nat.mod_lt _ (by decide)
    simp [Value.cells, hj]
set_option maxHeartbeats 1000000 in
set_option maxRecDepth 100000 in
theorem frames_new (κ : Kol) (i nodes each : Nat) (hn : 1 ≤ nodes) (hn2 : nodes ≤ 8) (he : 1 ≤ each) (he2 : each ≤ 1024) (w : World) :
    Calls Tryz.prog 139 #[.int .i64 nodes, .int .i64 each] w fun e w' => ∃ κ' b, e = .returned (.tuple #[.pointer (some ⟨b, 0, none⟩), .int .i64 0]) ∧ FramesK κ' i w' b each (nodes * each) (List.replicate (nodes * each * 64) 0) ∧ w.heap.size ≤ b ∧ (∀ x, x < w.heap.size → κ' x = κ x) ∧ RowKit.Below w.heap.size w w' := by
  have hb : nodes * each ≤ 8 * 1024 := Nat.mul_le_mul hn2 he2
  obtain ⟨m, hm⟩ : ∃ m, nodes * each = m := ⟨_, rfl⟩
  have hinfo : (Tryz.prog.info? 266).map (fun i => (i.zero, i.size, i.bytes)) = some (some (.agg (Array.replicate 64 (.int .u8 0))), 64, 64) := by kernel_rfl
  have hmk : ∀ W : World, (Instr.makeSlice 203 (.int .i64 ((nodes : Int) * (each : Int))) (.int .i64 ((nodes : Int) * (each : Int)))).run Tryz.prog W = .ok (.slice (some ⟨W.heap.size, 0, none⟩) m m) (W.alloc (.cells (bv (List.replicate (m * 64) 0)) 266)) := by
    intro W
    obtain ⟨it, hi, hzz⟩ := Option.map_eq_some_iff.1 hinfo
    simp only [Prod.mk.injEq] at hzz
    obtain ⟨hz, hs, hb2⟩ := hzz
    have hw : (nodes : Int) * (each : Int) = (m : Int) := by rw [← Int.natCast_mul, hm]
    have h := run_make (P := Tryz.prog) W 203 266 it _ Tryz.underlying203 hi hz .i64 .i64 (m : Int) (m : Int) (by omega) (Int.le_refl _) (by rw [hb2]; omega) (by omega)
    rw [hw, h, hs]
    simp only [Int.toNat_natCast]
    rw [made_bytes]
  have n1 : (1 : Int) ≤ (nodes : Int) := by omega
  have n2 : (nodes : Int) ≤ 8 := by omega
  have n3 : (1 : Int) ≤ (each : Int) := by omega
  have n4 : (each : Int) ≤ 1024 := by omega
  rw [hm] at hb ⊢
  clear hinfo
  go_enter Tryz.func139, Tryz.ntmps139
  go_wp2_with fail
  go_ret2
  refine ⟨κ.ext w.heap.size i, w.heap.size + 1, rfl, ⟨by simp, w.heap.size, ⟨Kol.ext_new κ (by omega), Blk.new1 w _ _ _⟩, ⟨Kol.ext_new κ (by omega), (Blk.new w _ _).alloc _⟩⟩, by omega, fun x hx => Kol.ext_old κ hx, below_alloc (below_alloc (RowKit.Below.refl _ _) _) _⟩
end Go.Proofs.YtenkdmloolbdaaaGreatDoor.T
end
section
namespace Go.Proofs.YtenkdmloolbdaaaGreatDoor.T
open Go.RowKit Go.Proofs.YtenkdmloolbdaaaGreatDoorW.PrintWords Go.Proofs.YtenkdmloolbdaaaGreatDoorW.PrintLast Go.Proofs.YtenkdmloolbdaaaGreatDoorW.PrintMore
set_option linter.unusedVariables false
set_option linter.unusedSimpArgs false
theorem R_empty_u8 (W : World) (ok : Nat → Prop) (hok : ok W.heap.size) (base : Nat) (hb : base ≤ W.heap.size) : Kd.R (Kd.int .u8) 5 (W.alloc (.cells #[] 5)) base ok (.slice (some ⟨W.heap.size, 0, none⟩) 0 0) [] := by
  refine Kd.R_of_own (xs := ([] : List Int)) ⟨rfl, .inr ⟨W.heap.size, 0, #[], rfl, hb, heap_alloc_new _ _, Nat.le_refl _, by decide, rfl, rfl⟩⟩ (fun k hk => ?_)
  simp [Value.ownBlock] at hk
  subst hk
  exact hok
theorem R_open_u8 {w : World} {t base q : Nat} {ok : Nat → Prop} {v : Value} {xs : List Int} (h : Kd.R (Kd.int .u8) t w base ok v xs) (hq : xs.length = q) : ∃ A c, v = .slice A q c ∧ q ≤ c ∧ Kd.C (Kd.int .u8) w A q xs := by
  subst hq
  exact Kd.R_reads h
set_option maxHeartbeats 1000000 in
set_option maxRecDepth 100000 in
theorem clone_u8 (A : Addr) (n c : Nat) (xs : List Int) (hn : n ≤ 1000000) (W : World) (h : (Kd.int .u8).C W (some A) n xs) :
    Calls Tryz.prog 177 #[.slice (some A) n c] W fun e w' => ∃ A' c', e = .returned (.slice A' n c') ∧ n ≤ c' ∧ (Kd.int .u8).C w' A' n xs ∧ RowKit.Below W.heap.size W w' := by
  have hl : xs.length = n := h.1
  have HCM := Aside0.mk h
  have HL := Aside0.mk hl
  have info4 : (Tryz.prog.info? 5).map (fun i => (i.zero, i.size, i.bytes)) = some (some (.int .u8 0), 1, 1) := by kernel_rfl
  have hnil := Lib.run_eql_slice_nil (P := Tryz.prog) W 23 5 (some A) n c 0 0 Tryz.underlying23
  clear h hl
  go_enter Tryz.func177, Tryz.ntmps177
  go_wp2_with ((with_reducible refine gate_builtin (b := .append) (xs := #[.tmp 5, .tmp 6]) rfl ?_); at_builtin; refine Kd.R_append_rows (Kd.int .u8) (w0 := W) W.heap.size rfl (.tmp 5) (.tmp 6) 23 5 (.int .u8 0) 1 rfl Tryz.underlying23 info4 rfl (by decide) (by omega) _ ([] : List Int) xs (some A) n c (fun _ => True) (fun _ => False) rfl rfl ?aO ?aR (fun _ _ h => h) (fun _ h => h.elim) ?aF ?aB ?aS ?aL ?_; (case aO => exact R_empty_u8 W _ trivial _ (Nat.le_refl _)); (case aR => exact Kd.C_below HCM.out (below_alloc (RowKit.Below.refl _ _) _)); (case aB => exact below_alloc (RowKit.Below.refl _ _) _); (case aF => exact (fun _ _ => trivial)); (case aS => simp); (case aL => simp; omega); intro v7 w7 ho hb hg hat; have HO7 := Aside0.mk ho; have HB7 := Aside0.mk hb; clear ho hb hg hat)
  go_ret
  obtain ⟨A', c', rfl, hc, hr⟩ := R_open_u8 HO7.out HL.out
  exact ⟨A', c', rfl, hc, hr, HB7.out⟩
theorem R_empty_int (W : World) (ok : Nat → Prop) (hok : ok W.heap.size) (base : Nat) (hb : base ≤ W.heap.size) : Kd.R (Kd.int .i64) 3 (W.alloc (.cells #[] 3)) base ok (.slice (some ⟨W.heap.size, 0, none⟩) 0 0) [] := by
  refine Kd.R_of_own (xs := ([] : List Int)) ⟨rfl, .inr ⟨W.heap.size, 0, #[], rfl, hb, heap_alloc_new _ _, Nat.le_refl _, by decide, rfl, rfl⟩⟩ (fun k hk => ?_)
  simp [Value.ownBlock] at hk
  subst hk
  exact hok
theorem R_open_int {w : World} {t base q : Nat} {ok : Nat → Prop} {v : Value} {xs : List Int} (h : Kd.R (Kd.int .i64) t w base ok v xs) (hq : xs.length = q) : ∃ A c, v = .slice A q c ∧ q ≤ c ∧ Kd.C (Kd.int .i64) w A q xs := by
  subst hq
  exact Kd.R_reads h
end Go.Proofs.YtenkdmloolbdaaaGreatDoor.T
end
section
namespace Go.Proofs.YtenkdmloolbdaaaGreatDoor.T
open Go.RowKit Go.Proofs.YtenkdmloolbdaaaGreatDoorW.PrintWords Go.Proofs.YtenkdmloolbdaaaGreatDoorW.PrintLast Go.Proofs.YtenkdmloolbdaaaGreatDoorW.PrintMore
set_option linter.unusedVariables false
set_option linter.unusedSimpArgs false
/-- Bytes that can be read. -/
def RdB (w : World) (A : Option Addr) (n : Nat) (xs : List Nat) : Prop := (Kd.int .u8).C w A n (xs.map fun (x : Nat) => (x : Int))
theorem RdB.below {w w1 : World} {A : Option Addr} {n : Nat} {xs : List Nat} (h : RdB w A n xs) (hb : RowKit.Below w.heap.size w w1) : RdB w1 A n xs := Kd.C_below h hb
theorem RdB.mk {w : World} {a : Addr} {n : Nat} {xs : List Nat} (hn : xs.length = n) (hm : n ≤ 1000000) (h : ∀ j y, xs[j]? = some y → w.cell? (a.add j) = some (.int .u8 (y : Nat))) : RdB w (some a) n xs := by
  refine ⟨by rw [List.length_map]; exact hn, by omega, fun _ => ⟨a, rfl, fun j p hp => ?_⟩⟩
  rw [List.getElem?_map] at hp
  obtain ⟨y, hy, rfl⟩ := Option.map_eq_some_iff.1 hp
  refine ⟨[.int .u8 y], rfl, rfl, fun i u hu => ?_⟩
  cases i with
  | zero =>
    simp at hu
    subst hu
    simpa [show (Kd.int .u8).sz = 1 from rfl] using h j y hy
  | succ i => simp at hu
theorem RdB.len {w : World} {A : Option Addr} {n : Nat} {xs : List Nat} (h : RdB w A n xs) : xs.length = n := by
  have := h.1
  rwa [List.length_map] at this
theorem RdB.cell {w : World} {A : Option Addr} {n : Nat} {xs : List Nat} (h : RdB w A n xs) (h0 : 0 < n) : ∃ a, A = some a ∧ ∀ j y, xs[j]? = some y → w.cell? (a.add j) = some (.int .u8 (y : Nat)) := by
  obtain ⟨a, rfl, hc⟩ := h.2.2 h0
  refine ⟨a, rfl, fun j y hy => ?_⟩
  obtain ⟨c, hl, hr, hx⟩ := hc j (y : Int) (by rw [List.getElem?_map, hy]; rfl)
  have hr : c = [.int .u8 y] := hr
  subst hr
  simpa [show (Kd.int .u8).sz = 1 from rfl] using hx 0 _ rfl
theorem bv_cells {w : World} {g : Nat} {l : List Nat} {t : TypeId} (h : Blk w g (bv l) t) (o s : Nat) (hs : o + s ≤ l.length) (hm : s ≤ 1000000) : RdB w (some ⟨g, o, none⟩) s ((l.drop o).take s) := by
  refine RdB.mk (by simp; omega) hm (fun j y hy => ?_)
  rw [List.getElem?_take] at hy
  split at hy
  · rw [List.getElem?_drop] at hy
    obtain ⟨hj, rfl⟩ := List.getElem?_eq_some_iff.1 hy
    have h2 := h.at (o + j) _ (bv_at l (o + j) hj)
    rw [show ((⟨g, o, none⟩ : Addr).add j) = ⟨g, o + j, none⟩ by unfold Addr.add; split <;> simp_all]
    exact h2
  · simp at hy
set_option maxHeartbeats 1000000 in
set_option maxRecDepth 100000 in
theorem load_own (κ : Kol) (i b each N n a s : Nat) (l : List Nat) (hn : n < N) (hN : N ≤ 100000) (ha : a + s ≤ 64) (hs : 0 < s) (w : World) (h : FramesK κ i w b each N l) :
    Calls Tryz.prog 124 #[.pointer (some ⟨b, 0, none⟩), .int .i64 n, .int .i64 a, .int .i64 s] w fun e w' => ∃ A c, e = .returned (.tuple #[.slice A s c, .int .i64 0]) ∧ s ≤ c ∧ RdB w' A s ((l.drop (n * 64 + a)).take s) ∧ RowKit.Below w.heap.size w w' := by
  obtain ⟨hl, g, hb, hg⟩ := h
  have hfit : n * 64 + a + s ≤ l.length := by rw [hl]; have : (n + 1) * 64 ≤ N * 64 := Nat.mul_le_mul_right _ hn; omega
  have HPA := Aside0.mk (part_own each N g b n a s hn hN ha hs w hb.blk)
  have HCL := Aside0.mk (clone_u8 ⟨g, n * 64 + a, none⟩ s (64 - a) _ (by omega) w (bv_cells hg.blk (n * 64 + a) s hfit (by omega)))
  clear hl hb hg hfit
  go_enter Tryz.func124, Tryz.ntmps124
  go_wp2_with (first | (go_at_call 176; (with_reducible refine HPA.out.mono ?_); rintro e_ w1 ⟨rfl, rfl⟩) | (go_at_call 177; (with_reducible refine HCL.out.mono ?_); rintro e_ w1 ⟨A', c', rfl, h1, h2, h3⟩; have HR := Aside0.mk (And.intro h1 (And.intro h2 h3)); clear h1 h2 h3))
  go_ret2
  exact ⟨A', c', rfl, HR.out.1, HR.out.2.1, HR.out.2.2⟩
/-- Memory: frames and a table of pages and frames. -/
def MemK (κ : Kol) (i : Nat) (w : World) (b each N : Nat) (l : List Nat) (n : Nat) (f g : Int → Option Int) : Prop :=
  ∃ fb tb, BlkK κ i w b #[.pointer (some ⟨fb, 0, none⟩), .pointer (some ⟨tb, 0, none⟩)] 189 ∧ FramesK κ (i + 1) w fb each N l ∧ TwoK κ (i + 2) w tb n f g
theorem MemK.upd {I : Nat → Prop} {κ κ1 : Kol} {i b each N n : Nat} {w w1 : World} {l : List Nat} {f g : Int → Option Int} (h : MemK κ i w b each N l n f g) (k : Upd I κ w κ1 w1) (hi : ∀ c, c < 5 → ¬ I (i + c)) : MemK κ1 i w1 b each N l n f g := by
  obtain ⟨fb, tb, h1, h2, h3⟩ := h
  exact ⟨fb, tb, h1.upd k (hi 0 (by omega)), h2.upd k (hi 1 (by omega)), h3.upd k (fun c hc => by have := hi (2 + c) (by omega); rwa [← Nat.add_assoc] at this)⟩
theorem MemK.below {κ : Kol} {i b each N n : Nat} {w w1 : World} {l : List Nat} {f g : Int → Option Int} (h : MemK κ i w b each N l n f g) (k : RowKit.Below w.heap.size w w1) : MemK κ i w1 b each N l n f g := h.upd (I := fun _ => False) (Upd.of_below κ k) (fun _ _ h => h)
set_option maxHeartbeats 1000000 in
set_option maxRecDepth 100000 in
theorem mem_frame (κ : Kol) (i b each N n : Nat) (l : List Nat) (f g : Int → Option Int) (x : Int) (hx : I64 x) (w : World) (h : MemK κ i w b each N l n f g) :
    Calls Tryz.prog 77 #[.pointer (some ⟨b, 0, none⟩), .int .i64 x] w fun e w' => e = .returned (.tuple #[.int .i64 ((f x).getD 0), .bool (f x).isSome]) ∧ w' = w := by
  obtain ⟨fb, tb, h1, h2, h3⟩ := h
  have s1 := h1.blk.at 1 (.pointer (some ⟨tb, 0, none⟩)) rfl
  have HT := Aside0.mk (two_to κ (i + 2) tb n f g x hx w h3)
  clear h1 h2 h3
  go_enter Tryz.func77, Tryz.ntmps77
  go_wp2_with (go_at_call 131; (with_reducible refine HT.out.mono ?_); rintro e_ w1 ⟨rfl, rfl⟩)
  go_ret2
  exact ⟨rfl, rfl⟩
theorem i64_of (x : Int) (h0 : -9223372036854775808 ≤ x) (h1 : x ≤ 9223372036854775807) : I64 x := by
  have e1 : IntKind.i64.min = -9223372036854775808 := rfl
  have e2 : IntKind.i64.max = 9223372036854775807 := rfl
  simp [I64, Lit.wf, e1, e2]
  omega
set_option maxHeartbeats 1000000 in
set_option maxRecDepth 100000 in
theorem page_own (b : Nat) (x : Int) (h0 : 0 ≤ x) (h1 : x < 4096) (w : World) :
    Calls Tryz.prog 163 #[.pointer (some ⟨b, 0, none⟩), .int .i64 x] w fun e w' => e = .returned (.bool true) ∧ w' = w := by
  go_enter Tryz.func163, Tryz.ntmps163
  go_wp2_with fail
  go_ret
  refine ⟨?_, rfl⟩
  simp [h0, h1]
set_option maxHeartbeats 1000000 in
set_option maxRecDepth 100000 in
theorem both_own (κ : Kol) (i b each N n : Nat) (l : List Nat) (f g : Int → Option Int) (hN : N ≤ 100000) (x : Int) (h0 : 0 ≤ x) (h1 : x < 4096) (y : Nat) (hy : y < N) (w : World) (h : MemK κ i w b each N l n f g) :
    Calls Tryz.prog 156 #[.pointer (some ⟨b, 0, none⟩), .int .i64 x, .int .i64 y] w fun e w' => e = .returned (.bool true) ∧ w' = w := by
  obtain ⟨fb, tb, k1, ⟨_, gb, k2, _⟩, _⟩ := h
  have s0 := k1.blk.at 0 (.pointer (some ⟨fb, 0, none⟩)) rfl
  have HP := Aside0.mk (page_own b x h0 h1 w)
  have HL := Aside0.mk (frames_len each N gb fb hN w k2.blk)
  have y0 : (0 : Int) ≤ (y : Int) := by omega
  have y1 : (y : Int) < (N : Int) := by omega
  clear k1 k2
  go_enter Tryz.func156, Tryz.ntmps156
  go_wp2_with (first | (go_at_call 163; (with_reducible refine HP.out.mono ?_); rintro e_ w1 ⟨rfl, rfl⟩) | (go_at_call 89; (with_reducible refine HL.out.mono ?_); rintro e_ w1 ⟨rfl, rfl⟩))
  go_ret
  refine ⟨?_, rfl⟩
  simp [hy]
set_option maxHeartbeats 1000000 in
set_option maxRecDepth 100000 in
theorem mem_map (κ : Kol) (i b each N n : Nat) (l : List Nat) (f g : Int → Option Int) (hN : N ≤ 100000) (x : Int) (h0 : 0 ≤ x) (h1 : x < 4096) (y : Nat) (hy : y < N) (hf : f x = none) (hg : g y = none) (hn : n < 1000000) (w : World) (h : MemK κ i w b each N l n f g) :
    Calls Tryz.prog 175 #[.pointer (some ⟨b, 0, none⟩), .int .i64 x, .int .i64 y] w fun e w' => e = .returned (.int .i64 0) ∧ MemK κ i w' b each N l (n + 1) (putF f x y) (putF g y x) ∧ Upd (fun c => c = i + 3 ∨ c = i + 4) κ w κ w' := by
  have HB := Aside0.mk (both_own κ i b each N n l f g hN x h0 h1 y hy w h)
  obtain ⟨fb, tb, k1, k2, k3⟩ := h
  have s1 := k1.blk.at 1 (.pointer (some ⟨tb, 0, none⟩)) rfl
  have HT := Aside0.mk (two_map κ (i + 2) tb n f g x y (i64_of _ (by omega) (by omega)) (i64_of _ (by omega) (by omega)) hf hg hn w k3)
  have HK := Aside0.mk (And.intro k1 k2)
  clear k1 k2 k3
  go_enter Tryz.func175, Tryz.ntmps175
  go_wp2_with (first | (go_at_call 156; (with_reducible refine HB.out.mono ?_); rintro e_ w1 ⟨rfl, rfl⟩) | (go_at_call 212; (with_reducible refine HT.out.mono ?_); rintro e_ w2 ⟨rfl, q1, q2⟩; have HQ := Aside0.mk (And.intro q1 q2); clear q1 q2))
  go_ret
  exact ⟨rfl, ⟨fb, tb, HK.out.1.upd HQ.out.2 (by omega), HK.out.2.upd HQ.out.2 (by omega), HQ.out.1⟩, HQ.out.2.mono (by omega)⟩
set_option maxHeartbeats 1000000 in
set_option maxRecDepth 100000 in
theorem mem_new (κ : Kol) (i fb each N : Nat) (l : List Nat) (w : World) (h : FramesK κ (i + 1) w fb each N l) :
    Calls Tryz.prog 140 #[.pointer (some ⟨fb, 0, none⟩)] w fun e w' => ∃ κ' b, e = .returned (.tuple #[.pointer (some ⟨b, 0, none⟩), .int .i64 0]) ∧ MemK κ' i w' b each N l 0 (fun _ => none) (fun _ => none) ∧ w.heap.size ≤ b ∧ (∀ x, x < w.heap.size → κ' x = κ x) ∧ RowKit.Below w.heap.size w w' := by
  have HT := Aside0.mk (two_new κ (i + 2) w)
  have HF := Aside0.mk h
  clear h
  go_enter Tryz.func140, Tryz.ntmps140
  go_wp2_with (go_at_call 183; (with_reducible refine HT.out.mono ?_); rintro e_ w1 ⟨κ1, tb, rfl, q1, q2, q3⟩; have HQ := Aside0.mk (And.intro q1 (And.intro q2 q3)); clear q1 q2 q3)
  go_ret2
  have hsz := HQ.out.2.2.size
  have hb1 := below_alloc (RowKit.Below.refl w1.heap.size w1) (.cells #[.pointer (some ⟨fb, 0, none⟩), .pointer (some ⟨tb, 0, none⟩)] 189)
  have hu1 : Upd (fun _ => False) κ w κ1 w1 := ⟨HQ.out.2.1, Chg.of_below HQ.out.2.2⟩
  have hu2 : Upd (fun _ => False) κ1 w1 (κ1.ext w1.heap.size i) (w1.alloc (.cells #[.pointer (some ⟨fb, 0, none⟩), .pointer (some ⟨tb, 0, none⟩)] 189)) := (Upd.of_below κ1 hb1).paint _ _ (Nat.le_refl _)
  refine ⟨κ1.ext w1.heap.size i, w1.heap.size, rfl, ⟨fb, tb, ⟨Kol.ext_new _ (Nat.le_refl _), Blk.new w1 _ _⟩, (HF.out.upd hu1 (fun h => h)).upd hu2 (fun h => h), HQ.out.1.upd hu2 (fun _ _ h => h)⟩, hsz, fun x hx => (Kol.ext_old _ (Nat.lt_of_lt_of_le hx hsz)).trans (HQ.out.2.1 x hx), below_alloc HQ.out.2.2 _⟩
end Go.Proofs.YtenkdmloolbdaaaGreatDoor.T
end
section
namespace Go.Proofs.YtenkdmloolbdaaaGreatDoor.T
open Go.RowKit Go.Maps Go.WideShapes Go.Proofs.YtenkdmloolbdaaaGreatDoorW.PrintWords Go.Proofs.YtenkdmloolbdaaaGreatDoorW.PrintLast Go.Proofs.YtenkdmloolbdaaaGreatDoorW.PrintMore
set_option linter.unusedVariables false
set_option linter.unusedSimpArgs false
/-- A row of elements of a kind, all its blocks of a colour. -/
def KR {α : Type} (d : Kd α) (e : Nat) (κ : Kol) (i : Nat) (w : World) (v : Value) (xs : List α) : Prop := Kd.R d e w 0 (fun k => κ k = i) v xs
section
variable {α : Type} {d : Kd α} {e : Nat} {κ κ1 : Kol} {i : Nat} {w w1 : World} {v : Value} {xs : List α} {I : Nat → Prop}
theorem KR.upd (h : KR d e κ i w v xs) (k : Upd I κ w κ1 w1) (hi : ¬ I i) : KR d e κ1 i w1 v xs :=
  Kd.R_mono (Kd.R_move (Kd.R_bound h) (fun b hb => k.chg.block b hb.2.2.1 (fun hI => hi (hb.1 ▸ hI)))) (fun b hb => (k.kol b hb.2.2.1).trans hb.1)
theorem KR.below (h : KR d e κ i w v xs) (k : RowKit.Below w.heap.size w w1) : KR d e κ i w1 v xs := h.upd (I := fun _ => False) (Upd.of_below κ k) (fun h => h)
theorem KR.nil (d : Kd α) (e : Nat) (κ : Kol) (i : Nat) (w : World) : KR d e κ i w (.slice none 0 0) [] := Kd.R_nil d e w 0 _
theorem KR.reads (h : KR d e κ i w v xs) : ∃ A c, v = .slice A xs.length c ∧ xs.length ≤ c ∧ d.C w A xs.length xs := Kd.R_reads h
/-- What was made from a place on gets a colour. -/
theorem KR.made {base : Nat} {ok : Nat → Prop} (h : Kd.R d e w base ok v xs) (hk : ∀ b, base ≤ b → b < w.heap.size → κ b = i) : KR d e κ i w v xs :=
  Kd.R_lower (Kd.R_mono (Kd.R_bound h) (fun b hb => hk b hb.2.1 hb.2.2.1)) (Nat.zero_le _)
theorem KR.ext (h : KR d e κ i w v xs) : Kd.R d e w 0 (fun k => κ.ext w.heap.size i k = i) v xs := Kd.R_mono (Kd.R_bound h) (fun b hb => (Kol.ext_old κ hb.2.2.1).trans hb.1)
theorem KR.upd_grown (h : KR d e κ i w v xs) (hg : w.grownBy w1 v.ownBlock) : Upd (· = i) κ w (κ.ext w.heap.size i) w1 :=
  ⟨fun b hb => Kol.ext_old κ hb, ⟨hg.os, hg.tape, hg.output, hg.size, fun b hb hne => hg.block b hb (fun e => hne (h.1 b e.symm))⟩⟩
end
/-- How a pointer in a map reads. -/
def ptrElem (v : Value) : Option (DataW Unit × List MemPlace) := match v with
  | .pointer none => some (.lit (.int .i64 (-1)), [])
  | .pointer (some ⟨b, 0, none⟩) => some (.lit (.int .i64 (b : Int)), [])
  | _ => none
theorem ptr_inv {v : Value} {ps : List MemPlace} {x : Int} (h : ptrElem v = some (.lit (.int .i64 x), ps)) : (v = .pointer none ∧ x = -1) ∨ ∃ b : Nat, v = .pointer (some ⟨b, 0, none⟩) ∧ x = b := by
  unfold ptrElem at h
  split at h
  · simp at h; exact .inl ⟨rfl, h.1.symm⟩
  · rename_i b; simp at h; exact .inr ⟨b, rfl, h.1.symm⟩
  · simp at h
def ptrI (o : Option Nat) : Int := match o with
  | none => -1
  | some b => b
def ptrV (o : Option Nat) : Value := .pointer (o.map fun b => ⟨b, 0, none⟩)
/-- What a map of pointers as read holds. -/
def ViewP (D : DataW Unit) (f : Int → Option Nat) : Prop := ∀ k, I64 k → Maps.has D (.int .i64 k) = (f k).isSome ∧ D.atKey (.int .i64 k) (.lit (.int .i64 (-1))) = .lit (.int .i64 (ptrI (f k)))
def putP (f : Int → Option Nat) (k : Int) (v : Nat) : Int → Option Nat := fun x => if x = k then some v else f x
theorem ViewP.put {D : DataW Unit} {f : Int → Option Nat} (h : ViewP D f) (hD : IsMap D) (k : Int) (v : Nat) : ViewP (D.put (.int .i64 k) (.lit (.int .i64 (v : Int)))) (putP f k v) := by
  intro x hx
  unfold putP
  by_cases e : x = k
  · subst e
    rw [if_pos rfl, has_put_same hD (key_lit _), atKey_put_same hD (key_lit _)]
    exact ⟨rfl, rfl⟩
  · rw [if_neg e, has_put_other (key_ne e), atKey_put_other (key_ne e)]
    exact h x hx
/-- A map of pointers, of a colour. -/
structure MapP (κ : Kol) (i : Nat) (w : World) (b n : Nat) (f : Int → Option Nat) : Prop where
  kol : κ b = i
  own : ∃ D : DataW Unit, w.ownsMap Tryz.prog 3 ptrElem b n D ∧ ViewP D f
section
variable {I : Nat → Prop} {κ κ1 : Kol} {w w1 : World} {i b n : Nat} {f : Int → Option Nat}
theorem MapP.upd (h : MapP κ i w b n f) (k : Upd I κ w κ1 w1) (hi : ¬ I i) : MapP κ1 i w1 b n f := by
  obtain ⟨hk, D, h1, h2⟩ := h
  exact ⟨(k.kol b h1.lt).trans hk, D, owns_chg h1 k.chg (fun e => hi (hk ▸ e)), h2⟩
end
end Go.Proofs.YtenkdmloolbdaaaGreatDoor.T
end
section
namespace Go.Proofs.YtenkdmloolbdaaaGreatDoor.T
open Go.RowKit Go.Proofs.YtenkdmloolbdaaaGreatDoorW.PrintWords Go.Proofs.YtenkdmloolbdaaaGreatDoorW.PrintLast Go.Proofs.YtenkdmloolbdaaaGreatDoorW.PrintMore
set_option linter.unusedVariables false
set_option linter.unusedSimpArgs false
/-- Whole numbers, as elements. -/
def nk : Kd Nat := Kd.scalar (fun n : Nat => Value.int .i64 (n : Int)) (fun _ => rfl)
/-- A piece: frame, place, size. -/
def pcK : Kd (Nat × Nat × Nat) := Kd.pair nk (Kd.pair nk nk)
theorem pc_M (W : World) (base : Nat) (ok : Nat → Prop) (x y z : Nat) : pcK.M W base ok (x, y, z) [.int .i64 x, .int .i64 y, .int .i64 z] := by
  exact ⟨[.int .i64 x], [.int .i64 y, .int .i64 z], rfl, rfl, [.int .i64 y], [.int .i64 z], rfl, rfl, rfl⟩
theorem pc_at {w : World} {A : Option Addr} {n : Nat} {xs : List (Nat × Nat × Nat)} (h : pcK.C w A n xs) (i : Nat) (hi : i < n) (x y z : Nat) (hx : xs[i]? = some (x, y, z)) : ∃ ad, A = some ad ∧ w.cell? (ad.add (i * 3)) = some (.int .i64 x) ∧ w.cell? (ad.add (i * 3 + 1)) = some (.int .i64 y) ∧ w.cell? (ad.add (i * 3 + 2)) = some (.int .i64 z) := by
  obtain ⟨ad, c, e, hl, hK, hc⟩ := Kd.C_get h (0, 0, 0) (i : Int) (by omega) (by omega)
  rw [Int.toNat_natCast, List.getD_eq_getElem?_getD, hx] at hK
  obtain ⟨c0, c1, rfl, h0, c2, c3, rfl, h1, h2⟩ := hK
  have h0 : c0 = [.int .i64 x] := h0
  have h1 : c2 = [.int .i64 y] := h1
  have h2 : c3 = [.int .i64 z] := h2
  subst h0; subst h1; subst h2
  rw [Int.toNat_natCast, show pcK.sz = 3 from rfl] at hc
  exact ⟨ad, e, hc 0 _ rfl, hc 1 _ rfl, hc 2 _ rfl⟩
/-- The pieces of some bytes, page by page. -/
def pcs (pf : Nat → Nat) : Nat → Nat → Nat → List (Nat × Nat × Nat)
  | 0, _, _ => []
  | k + 1, a, n => if n = 0 then [] else (pf (a / 64), a % 64, min n (64 - a % 64)) :: pcs pf k (a + min n (64 - a % 64)) (n - min n (64 - a % 64))
theorem pcs_zero (pf : Nat → Nat) (k a : Nat) : pcs pf k a 0 = [] := by cases k <;> simp [pcs]
def RelPc (pf : Nat → Nat) (w : World) (a0 n0 : Nat) (v1 v2 v8 : Value) (wr : World) : Prop :=
  ∃ k a n don, v1 = .int .i64 ((a : Nat) : Int) ∧ v2 = .int .i64 ((n : Nat) : Int) ∧ n ≤ k ∧ pcs pf n0 a0 n0 = don ++ pcs pf k a n ∧ a + n = a0 + n0 ∧ a0 ≤ a ∧ don.length + n ≤ n0 ∧ Kd.R pcK 186 wr w.heap.size (fun _ => True) v8 don ∧ RowKit.Below w.heap.size w wr
set_option maxHeartbeats 2000000 in
set_option maxRecDepth 100000 in
theorem pieces_own (κ : Kol) (i b each N c : Nat) (l : List Nat) (f g : Int → Option Int) (pf : Nat → Nat) (a0 n0 : Nat) (hN : n0 ≤ 65536) (ha : a0 + n0 ≤ 262144) (hf : ∀ q, 0 < n0 → a0 / 64 ≤ q → q * 64 < a0 + n0 → f (q : Int) = some ((pf q : Nat) : Int)) (w : World) (h : MemK κ i w b each N l c f g) :
    Calls Tryz.prog 122 #[.pointer (some ⟨b, 0, none⟩), .int .i64 a0, .int .i64 n0] w fun e w' => ∃ A cp, e = .returned (.tuple #[.slice A (pcs pf n0 a0 n0).length cp, .int .i64 0]) ∧ Kd.R pcK 186 w' w.heap.size (fun _ => True) (.slice A (pcs pf n0 a0 n0).length cp) (pcs pf n0 a0 n0) ∧ RowKit.Below w.heap.size w w' := by
  have HM := Aside0.mk h
  obtain ⟨fb, tb, h1, h2, h3⟩ := h
  have HBX := Aside0.mk h1
  have HT := Aside0.mk h3
  have a1 : (0 : Int) ≤ (a0 : Int) := by omega
  have a2 : (0 : Int) ≤ (n0 : Int) := by omega
  have a3 : (n0 : Int) ≤ 65536 := by omega
  have a4 : (a0 : Int) ≤ 262144 - (n0 : Int) := by omega
  have d0 : decide ((a0 : Int) < 0) = false := decide_eq_false (by omega)
  have d1 : decide ((n0 : Int) < 0) = false := decide_eq_false (by omega)
  have d2 : decide (65536 < (n0 : Int)) = false := decide_eq_false (by omega)
  have d3 : decide (262144 - (n0 : Int) < (a0 : Int)) = false := decide_eq_false (by omega)
  have info3 : (Tryz.prog.info? 186).map (fun i => (i.zero, i.size, i.bytes)) = some (some (.agg #[.int .i64 0, .int .i64 0, .int .i64 0]), 3, 24) := by kernel_rfl
  clear h1 h2 h3
  go_enter Tryz.func122, Tryz.ntmps122
  go_wp2_with fail
  have H0 := Aside0.mk (show RelPc pf w a0 n0 (.int .i64 a0) (.int .i64 n0) (.slice none 0 0) w from ⟨n0, a0, n0, [], rfl, rfl, Nat.le_refl _, rfl, rfl, Nat.le_refl _, by simp, Kd.R_nil _ _ _ _ _, RowKit.Below.refl _ _⟩)
  clear a1 a2 a3 a4 d0 d1 d2 d3
  go_loopw [1, 2, 8, 9, 10, 11, 12] (fun v1 v2 v8 _ _ _ _ wr => RelPc pf w a0 n0 v1 v2 v8 wr) (fun _ v2 _ _ _ _ _ _ => (intOf v2).toNat)
  case atStart => exact H0.out
  case round =>
    clear H0
    obtain ⟨k, a, n, don, rfl, rfl, hk, hp, han, haa, hdl, hR, hB⟩ := hrel
    have HR := Aside0.mk hR
    have HB := Aside0.mk hB
    have HP := Aside0.mk hp
    clear hR hB hp
    by_cases hz : 0 < n
    · have nI : (0 : Int) < (n : Int) := by omega
      have hq := hf (a / 64) (by omega) (by omega) (by omega)
      have s1 := (HBX.out.below HB.out).blk.at 1 (.pointer (some ⟨tb, 0, none⟩)) rfl
      have HTT := Aside0.mk (two_to κ (i + 2) tb c f g ((a / 64 : Nat) : Int) (i64_of _ (by omega) (by omega)) wr (HT.out.upd (I := fun _ => False) (Upd.of_below κ HB.out) (fun _ _ h => h)))
      rw [hq, show ((a / 64 : Nat) : Int) = (a : Int) / 64 from by omega] at HTT
      clear hq hf
      go_upto_region 9 with (go_at_call 131; (with_reducible refine HTT.out.mono ?_); rintro e_ w1 ⟨rfl, rfl⟩)
      have e1 : (a : Int) % 64 = ((a % 64 : Nat) : Int) := by omega
      obtain ⟨r, hr⟩ : ∃ r, a % 64 = r := ⟨_, rfl⟩
      have hr64 : r < 64 := by omega
      rw [hr] at e1
      rcases Nat.lt_or_ge (64 - r) n with hc | hc
      · obtain ⟨q, hq⟩ : ∃ q, r + q = 64 := ⟨64 - r, by omega⟩
        have c1 : ¬ ((n : Int) ≤ 64 - (r : Int)) := by omega
        have c2 : (64 : Int) - (r : Int) = (q : Int) := by omega
        have HS := Aside0.mk (And.intro hr (show min n (64 - a % 64) = q by omega))
        have hs1 : 1 ≤ q ∧ q ≤ n ∧ q ≤ 64 := by omega
        have w1_ : wrap64 ((a : Int) + (q : Int)) = (a : Int) + (q : Int) := IntWalk.wrap64_in _ ⟨by omega, by omega⟩
        clear hr
        go_wp2_with ((with_reducible refine gate_builtin (b := .append) (xs := #[.tmp 53, .tmp 58]) rfl ?_); at_builtin; refine Kd.R_append pcK (w0 := w) w.heap.size rfl (.tmp 53) (.tmp 58) 182 186 (.agg #[.int .i64 0, .int .i64 0, .int .i64 0]) 24 rfl Tryz.underlying182 info3 rfl (by decide) (by omega) u8 don (pf (a / 64), r, q) [.int .i64 (pf (a / 64)), .int .i64 r, .int .i64 q] (fun _ => True) (fun _ => False) rfl rfl ?aP (fun _ hk => hk.elim) ?aF ?aO ?aB ?aS ?aL ?_; (case aP => exact pc_M _ _ _ _ _ _); (case aB => exact HB.out); (case aF => exact (fun _ _ => trivial)); (case aO => exact HR.out); (case aS => exact HB.out.size); (case aL => omega); intro v7 w7 ho7 hb7 hg7 hat7; have H7 := Aside0.mk (And.intro ho7 hb7); clear ho7 hb7 hg7 hat7)
        refine ⟨⟨k - 1, a + q, n - q, don ++ [(pf (a / 64), r, q)], by first | rfl | (rw [Int.natCast_add]), by first | rfl | (congr 1; omega), by omega, ?_, by omega, by omega, by simp; omega, H7.out.1, H7.out.2⟩, by simp only [intOf]; omega⟩
        obtain ⟨k', rfl⟩ : ∃ k', k = k' + 1 := ⟨k - 1, by omega⟩
        rw [HP.out, pcs, if_neg (by omega), HS.out.2, HS.out.1]
        simp
      · have c1 : (n : Int) ≤ 64 - (r : Int) := by omega
        have HS := Aside0.mk (And.intro hr (show min n (64 - a % 64) = n by omega))
        have hs1 : 1 ≤ n ∧ n ≤ n ∧ n ≤ 64 := by omega
        have w1_ : wrap64 ((a : Int) + (n : Int)) = (a : Int) + (n : Int) := IntWalk.wrap64_in _ ⟨by omega, by omega⟩
        clear hr
        go_wp2_with ((with_reducible refine gate_builtin (b := .append) (xs := #[.tmp 53, .tmp 58]) rfl ?_); at_builtin; refine Kd.R_append pcK (w0 := w) w.heap.size rfl (.tmp 53) (.tmp 58) 182 186 (.agg #[.int .i64 0, .int .i64 0, .int .i64 0]) 24 rfl Tryz.underlying182 info3 rfl (by decide) (by omega) u8 don (pf (a / 64), r, n) [.int .i64 (pf (a / 64)), .int .i64 r, .int .i64 n] (fun _ => True) (fun _ => False) rfl rfl ?aP (fun _ hk => hk.elim) ?aF ?aO ?aB ?aS ?aL ?_; (case aP => exact pc_M _ _ _ _ _ _); (case aB => exact HB.out); (case aF => exact (fun _ _ => trivial)); (case aO => exact HR.out); (case aS => exact HB.out.size); (case aL => omega); intro v7 w7 ho7 hb7 hg7 hat7; have H7 := Aside0.mk (And.intro ho7 hb7); clear ho7 hb7 hg7 hat7)
        refine ⟨⟨k - 1, a + n, n - n, don ++ [(pf (a / 64), r, n)], by first | rfl | (rw [Int.natCast_add]), by first | rfl | (congr 1; omega), by omega, ?_, by omega, by omega, by simp; omega, H7.out.1, H7.out.2⟩, by simp only [intOf]; omega⟩
        obtain ⟨k', rfl⟩ : ∃ k', k = k' + 1 := ⟨k - 1, by omega⟩
        rw [HP.out, pcs, if_neg (by omega), HS.out.2, HS.out.1]
        simp
    · obtain rfl : n = 0 := by omega
      rw [pcs_zero, List.append_nil] at HP
      obtain ⟨A2, c2, rfl, hle2, hC2⟩ := Kd.R_reads HR.out
      clear hle2 hC2
      go_wp2_with fail
      go_ret2
      exact ⟨A2, c2, by rw [HP.out]; rfl, by rw [HP.out]; exact HR.out, HB.out⟩
end Go.Proofs.YtenkdmloolbdaaaGreatDoor.T
end
