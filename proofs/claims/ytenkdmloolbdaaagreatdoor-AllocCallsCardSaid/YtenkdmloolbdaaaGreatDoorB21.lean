/- A machine in memory. A topology of its own. A machine's parts. A machine's CPUs, objects and spans, looked up. -/
import Derived.Test.YtenkdmloolbdaaaGreatDoorB15
import Derived.Test.YtenkdmloolbdaaaGreatDoorB13
import Derived.Test.YtenkdmloolbdaaaGreatDoorB10
import Derived.Test.YtenkdmloolbdaaaGreatDoorB17
import Derived.Test.YtenkdmloolbdaaaGreatDoorB12
import Derived.Test.YtenkdmloolbdaaaGreatDoorB20
import Derived.Test.YtenkdmloolbdaaaGreatDoorB05
section
namespace Go.Proofs.YtenkdmloolbdaaaGreatDoor.T
open Go.RowKit Go.Maps Go.WideShapes Go.Proofs.YtenkdmloolbdaaaGreatDoorW.PrintWords Go.Proofs.YtenkdmloolbdaaaGreatDoorW.PrintLast Go.Proofs.YtenkdmloolbdaaaGreatDoorW.PrintMore
set_option linter.unusedVariables false
set_option linter.unusedSimpArgs false
/-- A space, of two colours. -/
def SpK (κ : Kol) (i : Nat) (w : World) (g : Nat) (rs : List (Int × Int)) : Prop := ∃ A c, TS.Sp w 0 g A c rs ∧ κ g = i ∧ ∀ k, TS.Row0 A = some k → κ k = i + 1
theorem SpK.upd {I : Nat → Prop} {κ κ1 : Kol} {i g : Nat} {w w1 : World} {rs : List (Int × Int)} (h : SpK κ i w g rs) (k : Upd I κ w κ1 w1) (hi : ∀ c, c < 2 → ¬ I (i + c)) : SpK κ1 i w1 g rs := by
  obtain ⟨A, c, hs, h1, h2⟩ := h
  have hg : g < w.heap.size := (Array.getElem?_eq_some_iff.1 hs.cell).1
  refine ⟨A, c, ⟨Nat.zero_le _, (k.chg.block g hg (fun e => hi 0 (by omega) (by rwa [h1] at e))).trans hs.cell, ?_, hs.ne, hs.good⟩, (k.kol g hg).trans h1, fun q hq => ?_⟩
  · exact own_move hs.row (fun q hq => by rw [TS.own_slice] at hq; exact k.chg.block q (hs.row.rowlt q hq).2 (fun e => hi 1 (by omega) (by rwa [h2 q hq] at e)))
  · exact (k.kol q (hs.row.rowlt q hq).2).trans (h2 q hq)
theorem space_of {κ : Kol} {i g : Nat} {w : World} {rs : List (Int × Int)} (p : Int) (h : SpK κ i w g rs) :
    Calls Tryz.prog 145 #[.pointer (some ⟨g, 0, none⟩), .int .i64 p] w fun e w' => e = .returned (.tuple #[.int .i64 (TS.ofR rs p).1, .int .i64 (TS.ofR rs p).2.1, .bool (TS.ofR rs p).2.2]) ∧ RowKit.Below w.heap.size w w' := by
  obtain ⟨A, c, hs, _⟩ := h
  exact TS.of_own 0 g A c rs p w hs
theorem space_take {κ : Kol} {i g : Nat} {w : World} {rs : List (Int × Int)} (n : Int) (hn1 : 1 ≤ n) (hn2 : n ≤ 4095) (h : SpK κ i w g rs) :
    Calls Tryz.prog 120 #[.pointer (some ⟨g, 0, none⟩), .int .i64 n] w fun e w' => ∃ κ', e = .returned (.tuple #[.int .i64 (TS.takeR n rs).1, .int .i64 (TS.takeR n rs).2.1]) ∧ SpK κ' i w' g (TS.takeR n rs).2.2 ∧ Upd (fun c => c = i ∨ c = i + 1) κ w κ' w' := by
  obtain ⟨A, c, hs, h1, h2⟩ := h
  have hg : g < w.heap.size := (Array.getElem?_eq_some_iff.1 hs.cell).1
  refine (TS.take_own 0 g A c rs n w hs hn1 hn2).mono ?_
  rintro e w' ⟨A', c', rfl, q1, q2, q3⟩
  refine ⟨κ.ext w.heap.size (i + 1), rfl, ⟨A', c', q1, by rw [Kol.ext_old κ hg]; exact h1, fun k hk => ?_⟩, fun b hb => Kol.ext_old κ hb, ⟨q2.os, q2.tape, q2.output, q2.size, fun b hb hne => q2.block b hb (fun e => hne (.inl (by rw [e]; exact h1))) (fun e => hne (.inr (h2 b e.symm)))⟩⟩
  rcases q3 with e | ⟨b, e, hb⟩
  · rw [e] at hk
    rw [Kol.ext_old κ (hs.row.rowlt k hk).2]
    exact h2 k hk
  · rw [e] at hk
    obtain rfl := Option.some.inj hk
    exact Kol.ext_new κ hb
/-- What a CPU has. -/
structure Cpu where
  node : Int
  mode : Int
  set : Nat
  nd : Int
  cur : Int
  L : Nat → List Int
def CpuK (κ : Kol) (i : Nat) (w : World) (b : Nat) (c : Cpu) : Prop :=
  ∃ cb, BlkK κ i w b #[.int .i64 c.node, .int .i64 c.mode, .int .u8 c.set, .int .i64 c.nd, .int .i64 c.cur, .pointer (some ⟨cb, 0, none⟩)] 166 ∧ CacheK κ (i + 1) w cb c.L
theorem CpuK.upd {I : Nat → Prop} {κ κ1 : Kol} {i b : Nat} {w w1 : World} {c : Cpu} (h : CpuK κ i w b c) (k : Upd I κ w κ1 w1) (hi : ∀ c, c < 6 → ¬ I (i + c)) : CpuK κ1 i w1 b c := by
  obtain ⟨cb, h1, h2⟩ := h
  exact ⟨cb, h1.upd k (hi 0 (by omega)), h2.upd k (fun c hc => by have := hi (1 + c) (by omega); rwa [← Nat.add_assoc] at this)⟩
def CpusK (κ : Kol) (w : World) (v : Value) (ps : List Nat) (cs : List Cpu) : Prop :=
  KR pk 117 κ 124 w v ps ∧ ps.length = cs.length ∧ ∀ j c, cs[j]? = some c → ∃ p, ps[j]? = some p ∧ CpuK κ (150 + 6 * j) w p c
theorem CpusK.upd {I : Nat → Prop} {κ κ1 : Kol} {w w1 : World} {v : Value} {ps : List Nat} {cs : List Cpu} (h : CpusK κ w v ps cs) (k : Upd I κ w κ1 w1) (h0 : ¬ I 124) (hi : ∀ c, 150 ≤ c → c < 150 + 6 * cs.length → ¬ I c) : CpusK κ1 w1 v ps cs := by
  obtain ⟨h1, h2, h3⟩ := h
  refine ⟨h1.upd k h0, h2, fun j c hj => ?_⟩
  obtain ⟨p, hp, hc⟩ := h3 j c hj
  have hjl := (List.getElem?_eq_some_iff.1 hj).1
  exact ⟨p, hp, hc.upd k (fun q hq => hi _ (by omega) (by omega))⟩
/-- A queue in memory, with what waits in it. -/
def QueK (κ : Kol) (i : Nat) (w : World) (b : Nat) (q : List Int) : Prop :=
  ∃ cb, BlkK κ i w b #[.chan (some cb)] 227 ∧ κ cb = i + 1 ∧ w.heap[cb]? = some (.chan 16 (q.map (Value.int .i64)).toArray false 0 0 false)
theorem QueK.upd {I : Nat → Prop} {κ κ1 : Kol} {i b : Nat} {w w1 : World} {q : List Int} (h : QueK κ i w b q) (k : Upd I κ w κ1 w1) (hi : ∀ c, c < 2 → ¬ I (i + c)) : QueK κ1 i w1 b q := by
  obtain ⟨cb, h1, h2, h3⟩ := h
  have hl := (Array.getElem?_eq_some_iff.1 h3).1
  exact ⟨cb, h1.upd k (hi 0 (by omega)), (k.kol cb hl).trans h2, (k.chg.block cb hl (fun e => hi 1 (by omega) (by rwa [h2] at e))).trans h3⟩
def QuesK (κ : Kol) (w : World) (v : Value) (ps : List Nat) (qs : List (List Int)) : Prop :=
  KR pk 133 κ 125 w v ps ∧ ps.length = qs.length ∧ ∀ j q, qs[j]? = some q → ∃ p, ps[j]? = some p ∧ QueK κ (126 + 2 * j) w p q
theorem QuesK.upd {I : Nat → Prop} {κ κ1 : Kol} {w w1 : World} {v : Value} {ps : List Nat} {qs : List (List Int)} (h : QuesK κ w v ps qs) (k : Upd I κ w κ1 w1) (hi : ∀ c, 125 ≤ c → c < 126 + 2 * qs.length → ¬ I c) : QuesK κ1 w1 v ps qs := by
  obtain ⟨h1, h2, h3⟩ := h
  refine ⟨h1.upd k (hi _ (by omega) (by omega)), h2, fun j c hj => ?_⟩
  obtain ⟨p, hp, hc⟩ := h3 j c hj
  have hjl := (List.getElem?_eq_some_iff.1 hj).1
  exact ⟨p, hp, hc.upd k (fun q hq => hi _ (by omega) (by omega))⟩
/-- A book of policies with no page in it. -/
def BookK (κ : Kol) (w : World) (b nodes : Nat) : Prop := ∃ m, BlkK κ 11 w b #[.int .i64 nodes, .map (some m)] 241 ∧ κ m = 12 ∧ w.heap[m]? = some (.map #[] 0)
theorem BookK.upd {I : Nat → Prop} {κ κ1 : Kol} {b nodes : Nat} {w w1 : World} (h : BookK κ w b nodes) (k : Upd I κ w κ1 w1) (h1 : ¬ I 11) (h2 : ¬ I 12) : BookK κ1 w1 b nodes := by
  obtain ⟨m, k1, k2, k3⟩ := h
  have hl := (Array.getElem?_eq_some_iff.1 k3).1
  exact ⟨m, k1.upd k h1, (k.kol m hl).trans k2, (k.chg.block m hl (fun e => h2 (by rwa [k2] at e))).trans k3⟩
/-- A span that a machine has: its page is told by the map. -/
structure Held where
  node : Nat
  order : Nat
  frame : Nat
  cls : Nat
  tk : Nat
def HeldK (κ : Kol) (w : World) (b page : Nat) (x : Held) : Prop :=
  ∃ sb, BlkK κ (1000 + 2 * page) w b #[.pointer (some ⟨sb, 0, none⟩), .int .i64 page, .int .i64 x.node, .int .i64 x.order, .int .i64 x.frame] 142 ∧ BlkK κ (1001 + 2 * page) w sb (spanC x.cls x.tk) 194
theorem HeldK.upd {I : Nat → Prop} {κ κ1 : Kol} {b page : Nat} {w w1 : World} {x : Held} (h : HeldK κ w b page x) (k : Upd I κ w κ1 w1) (h1 : ¬ I (1000 + 2 * page)) (h2 : ¬ I (1001 + 2 * page)) : HeldK κ1 w1 b page x := by
  obtain ⟨sb, k1, k2⟩ := h
  exact ⟨sb, k1.upd k h1, k2.upd k h2⟩
/-- The spans of a machine, by their first pages. -/
def SpansK (κ : Kol) (w : World) (b n : Nat) (sp : Nat → Option Held) : Prop :=
  ∃ f, MapP κ 143 w b n f ∧ (∀ x : Int, (f x).isSome = true → 0 ≤ x ∧ x < 4096) ∧ ∀ p : Nat, (sp p = none → f (p : Int) = none) ∧ ∀ x, sp p = some x → ∃ q, f (p : Int) = some q ∧ HeldK κ w q p x
theorem SpansK.upd {I : Nat → Prop} {κ κ1 : Kol} {b n : Nat} {w w1 : World} {sp : Nat → Option Held} (h : SpansK κ w b n sp) (k : Upd I κ w κ1 w1) (h0 : ¬ I 143) (hi : ∀ c, 1000 ≤ c → ¬ I c) : SpansK κ1 w1 b n sp := by
  obtain ⟨f, h1, h2, h3⟩ := h
  refine ⟨f, h1.upd k h0, h2, fun p => ⟨(h3 p).1, fun x hx => ?_⟩⟩
  obtain ⟨q, hq, hh⟩ := (h3 p).2 x hx
  exact ⟨q, hq, hh.upd k (hi _ (by omega)) (hi _ (by omega))⟩
/-- Where the parts of a machine lie. -/
structure Ad where
  A : Option Addr
  ca : Nat
  B : Option Addr
  cb : Nat
  mem : Nat
  hp : Nat
  spc : Nat
  bk : Nat
  lg : Nat
  cv : Value
  cps : List Nat
  qv : Value
  qps : List Nat
  sb : Nat
  lb : Nat
/-- What a machine holds. -/
structure St where
  n : Nat
  f : Nat
  cs : List Int
  ds : List (List Int)
  mn : Int
  lo : Int
  hi : Int
  bs : List Bud
  l : List Nat
  pn : Nat
  pf : Int → Option Int
  pg : Int → Option Int
  ev : List Ev
  cn : List Int
  rs : List (Int × Int)
  cpus : List Cpu
  qs : List (List Int)
  sn : Nat
  sp : Nat → Option Held
  ln : Nat
  live : Int → Option Int
def boxC (a : Ad) (s : St) : Array Value := #[.int .i64 s.n, .int .i64 s.f, .slice a.A s.cs.length a.ca, .slice a.B s.ds.length a.cb, .pointer (some ⟨a.mem, 0, none⟩), .pointer (some ⟨a.hp, 0, none⟩), .pointer (some ⟨a.spc, 0, none⟩), .pointer (some ⟨a.bk, 0, none⟩), .pointer (some ⟨a.lg, 0, none⟩), a.cv, a.qv, .map (some a.sb), .map (some a.lb)]
/-- A machine in memory. -/
structure MachK (κ : Kol) (w : World) (m : Nat) (a : Ad) (s : St) : Prop where
  box : BlkK κ 1 w m (boxC a s) 129
  cs : KR (Kd.int .i64) 3 κ 2 w (.slice a.A s.cs.length a.ca) s.cs
  ds : KR (Kd.slice 3 (Kd.int .i64)) 34 κ 2 w (.slice a.B s.ds.length a.cb) s.ds
  mem : MemK κ 3 w a.mem s.f (s.n * s.f) s.l s.pn s.pf s.pg
  lg : LogK κ 8 w a.lg s.n s.ev s.cn
  bk : BookK κ w a.bk s.n
  spc : SpK κ 13 w a.spc s.rs
  hp : HeapK κ 16 w a.hp s.f s.mn s.lo s.hi s.bs
  cpus : CpusK κ w a.cv a.cps s.cpus
  qs : QuesK κ w a.qv a.qps s.qs
  sp : SpansK κ w a.sb s.sn s.sp
  live : MapI κ 144 w a.lb s.ln s.live
  hbs : s.bs.length ≤ 8
  hcp : s.cpus.length ≤ 16
  hqs : s.qs.length ≤ 8
theorem MachK.upd {I : Nat → Prop} {κ κ1 : Kol} {m : Nat} {a : Ad} {s : St} {w w1 : World} (h : MachK κ w m a s) (k : Upd I κ w κ1 w1) (hI : ∀ c, 1 ≤ c → ¬ I c) : MachK κ1 w1 m a s :=
  ⟨h.box.upd k (hI _ (by omega)), h.cs.upd k (hI _ (by omega)), h.ds.upd k (hI _ (by omega)), h.mem.upd k (fun c _ => hI _ (by omega)), h.lg.upd k (fun c _ => hI _ (by omega)), h.bk.upd k (hI _ (by omega)) (hI _ (by omega)), h.spc.upd k (fun c _ => hI _ (by omega)), h.hp.upd k (fun c _ => hI _ (by omega)), h.cpus.upd k (hI _ (by omega)) (fun c _ _ => hI _ (by omega)), h.qs.upd k (fun c _ _ => hI _ (by omega)), h.sp.upd k (hI _ (by omega)) (fun c _ => hI _ (by omega)), h.live.upd k (hI _ (by omega)), h.hbs, h.hcp, h.hqs⟩
theorem MachK.below {κ : Kol} {m : Nat} {a : Ad} {s : St} {w w1 : World} (h : MachK κ w m a s) (k : RowKit.Below w.heap.size w w1) : MachK κ w1 m a s := h.upd (I := fun _ => False) (Upd.of_below κ k) (fun _ _ h => h)
end Go.Proofs.YtenkdmloolbdaaaGreatDoor.T
end
section
namespace Go.Proofs.YtenkdmloolbdaaaGreatDoor.T
open Go.RowKit Go.Maps Go.WideShapes Go.Proofs.YtenkdmloolbdaaaGreatDoorW.PrintWords Go.Proofs.YtenkdmloolbdaaaGreatDoorW.PrintLast Go.Proofs.YtenkdmloolbdaaaGreatDoorW.PrintMore
set_option linter.unusedVariables false
set_option linter.unusedSimpArgs false
set_option maxHeartbeats 1000000 in
set_option maxRecDepth 100000 in
theorem clone_R (A : Addr) (n c : Nat) (xs : List Int) (hn : n ≤ 1000000) (W : World) (h : (Kd.int .i64).C W (some A) n xs) :
    Calls Tryz.prog 138 #[.slice (some A) n c] W fun e w' => ∃ A' c', e = .returned (.slice A' n c') ∧ Kd.R (Kd.int .i64) 3 w' W.heap.size (fun _ => True) (.slice A' n c') xs ∧ RowKit.Below W.heap.size W w' := by
  have hl : xs.length = n := h.1
  have HCM := Aside0.mk h
  have HL := Aside0.mk hl
  have info4 : (Tryz.prog.info? 3).map (fun i => (i.zero, i.size, i.bytes)) = some (some (.int .i64 0), 1, 8) := by kernel_rfl
  have hnil := Lib.run_eql_slice_nil (P := Tryz.prog) W 34 3 (some A) n c 0 0 Tryz.underlying34
  clear h hl
  go_enter Tryz.func138, Tryz.ntmps138
  go_wp2_with ((with_reducible refine gate_builtin (b := .append) (xs := #[.tmp 5, .tmp 6]) rfl ?_); at_builtin; refine Kd.R_append_rows (Kd.int .i64) (w0 := W) W.heap.size rfl (.tmp 5) (.tmp 6) 34 3 (.int .i64 0) 8 rfl Tryz.underlying34 info4 rfl (by decide) (by omega) _ ([] : List Int) xs (some A) n c (fun _ => True) (fun _ => False) rfl rfl ?aO ?aR (fun _ _ h => h) (fun _ h => h.elim) ?aF ?aB ?aS ?aL ?_; (case aO => exact R_empty_int W _ trivial _ (Nat.le_refl _)); (case aR => exact Kd.C_below HCM.out (below_alloc (RowKit.Below.refl _ _) _)); (case aB => exact below_alloc (RowKit.Below.refl _ _) _); (case aF => exact (fun _ _ => trivial)); (case aS => simp); (case aL => simp; omega); intro v7 w7 ho hb hg hat; have HO7 := Aside0.mk ho; have HB7 := Aside0.mk hb; clear ho hb hg hat)
  go_ret
  obtain ⟨A', c', rfl, hc, hr⟩ := R_open_int HO7.out HL.out
  exact ⟨A', c', rfl, HO7.out, HB7.out⟩
/-- A row of rows, read: one of them. -/
theorem rows_at {w : World} {B : Option Addr} {n : Nat} {ds : List (List Int)} (h : (Kd.slice 3 (Kd.int .i64)).C w B n ds) (i : Nat) (hi : i < n) (r : List Int) (hr : ds[i]? = some r) : ∃ ad A c, B = some ad ∧ w.cell? (ad.add i) = some (.slice A r.length c) ∧ r.length ≤ c ∧ (Kd.int .i64).C w A r.length r := by
  obtain ⟨ad, c, e, hl, hK, hc⟩ := Kd.C_get h [] (i : Int) (by omega) (by omega)
  rw [Int.toNat_natCast, List.getD_eq_getElem?_getD, hr] at hK
  obtain ⟨A, c', rfl, h1, h2⟩ := hK
  have := hc 0 _ rfl
  rw [Int.toNat_natCast] at this
  simp only [show (Kd.slice 3 (Kd.int .i64)).sz = 1 from rfl, Nat.mul_one, Nat.add_zero] at this
  exact ⟨ad, A, c', e, this, h1, h2⟩
theorem C_some {w : World} {A : Option Addr} {n : Nat} {xs : List Int} (h : (Kd.int .i64).C w A n xs) (hn : 1 ≤ n) : ∃ a, A = some a := by
  obtain ⟨a, e, _⟩ := h.2.2 (by omega)
  exact ⟨a, e⟩
theorem Blk.grown {w w' : World} {b : Nat} {cs : Array Value} {t : TypeId} {row : Option Nat} (h : Blk w b cs t) (hg : w.grownBy w' row) (hne : some b ≠ row) : Blk w' b cs t := (hg.block b h.lt hne).trans h
def RelCp (w : World) (n f : Int) (v1 : Value) (cs : List Int) (ds : List (List Int)) (v15 : Value) (wr : World) : Prop :=
  ∃ (i : Nat) (v2 : Value), v15 = .int .i64 i ∧ i ≤ ds.length ∧ Blk wr w.heap.size #[.int .i64 n, .int .i64 f, v1, v2] 37 ∧ Blk wr (w.heap.size + 1) #[.int .i64 0, .int .i64 0, .slice none 0 0, .slice none 0 0] 37 ∧ Kd.R (Kd.int .i64) 3 wr w.heap.size (fun _ => True) v1 cs ∧ Kd.R (Kd.slice 3 (Kd.int .i64)) 34 wr w.heap.size (fun _ => True) v2 (ds.take i) ∧ RowKit.Below w.heap.size w wr
set_option maxHeartbeats 4000000 in
set_option maxRecDepth 100000 in
theorem copied_own (n f : Int) (A : Option Addr) (ca : Nat) (cs : List Int) (B : Option Addr) (cb : Nat) (ds : List (List Int)) (w : World) (hA : (Kd.int .i64).C w A cs.length cs) (hB : (Kd.slice 3 (Kd.int .i64)).C w B ds.length ds) (h1 : 1 ≤ cs.length) (h2 : cs.length ≤ 1000) (h3 : ds.length ≤ 1000) (h4 : ∀ r ∈ ds, 1 ≤ r.length ∧ r.length ≤ 1000) :
    Calls Tryz.prog 83 #[.agg #[.int .i64 n, .int .i64 f, .slice A cs.length ca, .slice B ds.length cb]] w fun e w' => ∃ v1 v2, e = .returned (.agg #[.int .i64 n, .int .i64 f, v1, v2]) ∧ Kd.R (Kd.int .i64) 3 w' w.heap.size (fun _ => True) v1 cs ∧ Kd.R (Kd.slice 3 (Kd.int .i64)) 34 w' w.heap.size (fun _ => True) v2 ds ∧ RowKit.Below w.heap.size w w' := by
  obtain ⟨a, rfl⟩ := C_some hA h1
  have HA := Aside0.mk hA
  have HB := Aside0.mk hB
  have HD := Aside0.mk h4
  have info3 : (Tryz.prog.info? 34).map (fun i => (i.zero, i.size, i.bytes)) = some (some (.slice none 0 0), 1, 24) := by kernel_rfl
  obtain ⟨q, hq⟩ : ∃ q, cs.length = q := ⟨_, rfl⟩
  obtain ⟨dn, hdn⟩ : ∃ dn, ds.length = dn := ⟨_, rfl⟩
  have HQ := Aside0.mk (And.intro hq hdn)
  rw [hq] at HA h1 h2 ⊢
  rw [hdn] at HB h3 ⊢
  clear hA hB h4 hq hdn
  go_enter Tryz.func83, Tryz.ntmps83
  go_upto_region 2 with (go_at_call 138; (with_reducible refine (clone_R a q ca cs (by omega) _ (Kd.C_below HA.out (below_alloc (below_alloc (RowKit.Below.refl _ _) _) _))).mono ?_); rintro e_ w1 ⟨A', c', rfl, q1, q2⟩; have HR := Aside0.mk q1; have HX := Aside0.mk (((Blk.new w #[.int .i64 n, .int .i64 f, .slice (some a) q ca, .slice B dn cb] 37).alloc _).below q2); have HY := Aside0.mk ((Blk.new1 w _ #[.int .i64 0, .int .i64 0, .slice none 0 0, .slice none 0 0] 37).below q2); have HBL := Aside0.mk (below_then (below_alloc (below_alloc (RowKit.Below.refl w.heap.size w) _) _) (by simp only [World.size_alloc]; omega) q2); clear q1 q2; have x2 := HX.out.at 2 (.slice (some a) q ca) rfl; have f2 := HX.out.fz 2)
  clear x2 f2
  have HX2 := Aside0.mk (HX.out.set 2 (.slice A' q c'))
  have HY2 := Aside0.mk (HY.out.other ⟨w.heap.size, 2, none⟩ (by show w.heap.size + 1 ≠ w.heap.size; omega) (.slice A' q c'))
  have HR2 := Aside0.mk (Kd.R_set HR.out HX.out (fun e he => by simp [Kd.int, Kd.scalar] at he; subst he; decide) 2 (.slice A' q c'))
  have HBL2 := Aside0.mk (RowKit.Below.setCell (p := ⟨w.heap.size, 2, none⟩) HBL.out (Nat.le_refl _) (.slice A' q c'))
  clear HX HY HR HBL
  generalize w1.setCell ⟨w.heap.size, 2, none⟩ (.slice A' q c') = w2 at *
  have x3 := HX2.out.at 3 (.slice B dn cb) rfl
  have f3 := HX2.out.fz 3
  go_wp2_with fail
  have HX3 := Aside0.mk (HX2.out.set 3 (.slice none 0 0))
  have HY3 := Aside0.mk (HY2.out.other ⟨w.heap.size, 3, none⟩ (by show w.heap.size + 1 ≠ w.heap.size; omega) (.slice none 0 0))
  have HR3 := Aside0.mk (Kd.R_set HR2.out HX2.out (fun e he => by simp [Kd.int, Kd.scalar] at he; subst he; decide) 3 (.slice none 0 0))
  have HBL3 := Aside0.mk (RowKit.Below.setCell (p := ⟨w.heap.size, 3, none⟩) HBL2.out (Nat.le_refl _) (.slice none 0 0))
  clear HX2 HY2 HR2 HBL2 x3 f3
  generalize w2.setCell ⟨w.heap.size, 3, none⟩ (.slice none 0 0) = w3 at *
  have H0 := Aside0.mk (show RelCp w n f (.slice A' q c') cs ds (.int .i64 0) w3 from ⟨0, .slice none 0 0, rfl, Nat.zero_le _, HX3.out, HY3.out, Kd.R_lower HR3.out (by simp only [World.size_alloc]; omega), Kd.R_nil _ _ _ _ _, HBL3.out⟩)
  go_loopw [5, 15] (fun _ v15 wr => RelCp w n f (.slice A' q c') cs ds v15 wr) (fun _ v15 _ => dn - (intOf v15).toNat)
  case atStart => exact H0.out
  case round =>
    clear H0
    obtain ⟨i, v2, rfl, hi, hx, hy, hr1, hr2, hb⟩ := hrel
    rw [HQ.out.2] at hi
    have HX := Aside0.mk hx
    have HY := Aside0.mk hy
    have HR1 := Aside0.mk hr1
    have HR2 := Aside0.mk hr2
    have HBL := Aside0.mk hb
    by_cases hlt : i < dn
    · have iI : (i : Int) < (dn : Int) := by omega
      have i0 : (0 : Int) ≤ (i : Int) := by omega
      obtain ⟨r, hr⟩ : ∃ r, ds[i]? = some r := ⟨_, List.getElem?_eq_getElem (by rw [HQ.out.2]; exact hlt)⟩
      obtain ⟨ad, A5, c5, rfl, s0, hle, hC⟩ := rows_at (Kd.C_below HB.out hb) i hlt r hr
      have hrl := HD.out r (List.mem_of_getElem? hr)
      obtain ⟨a5, rfl⟩ := C_some hC hrl.1
      have HC := Aside0.mk hC
      have HRR := Aside0.mk hr
      obtain ⟨rl, hrl2⟩ : ∃ rl, r.length = rl := ⟨_, rfl⟩
      rw [hrl2] at s0 hrl HC
      have HRL := Aside0.mk (And.intro hrl2 hrl)
      clear hx hy hr1 hr2 hb hr hC hle hrl2 hrl
      go_upto_region 7 with fail
      have x3 := HX.out.at 3 v2 rfl
      refine st_ 8 (fun w' => w'.cell? ⟨w.heap.size, 3, none⟩ = some v2) [5, 7] (x3) (fun hHeld => ?_)
      have hd_ := below_drew (RowKit.Below.refl wr.heap.size wr)
      have n0_ := Aside0.mk (HX.out.below hd_)
      have n1_ := Aside0.mk (HY.out.below hd_)
      have n2_ := Aside0.mk (Kd.R_below HR1.out hd_)
      have n3_ := Aside0.mk (Kd.R_below HR2.out hd_)
      have n4_ := Aside0.mk (below_then HBL.out HBL.out.size hd_)
      have n5_ := Aside0.mk (Kd.C_below HC.out hd_)
      clear HX HY HR1 HR2 HBL HC x3 hd_
      have HX := n0_
      have HY := n1_
      have HR1 := n2_
      have HR2 := n3_
      have HBL := n4_
      have HC := n5_
      clear n0_ n1_ n2_ n3_ n4_ n5_
      have x3 := HX.out.at 3 v2 rfl
      generalize wr.drew = wd at *
      have HSZ := Aside0.mk HBL.out.size
      have HLT := Aside0.mk (fun k (hk : v2.ownBlock = some k) => Kd.R_lt HR2.out k hk)
      refine pu_ 0 19 1 ?_
      refine pu_ 2 21 5 ?_
      refine ta_ 1 20 7 hHeld ?_
      refine one_ (i := 3) (N := some 22) (bz 8 15) rfl rfl (by kernel_rfl) (by decide) (fun K hK => ?_)
      refine goes_ Tryz.func138 (by kernel_rfl) rfl #[.slice (some a5) rl c5] (by rfl) rfl rfl (by simp only [List.map_toArray, List.map_cons, List.map_nil]; rfl) ?_
      with_reducible refine (clone_R a5 rl c5 r (by have := HRL.out.2.2; omega) _ HC.out).mono ?_
      rintro e_ wc ⟨A8, c8, rfl, q1_, hb⟩
      refine ⟨_, rfl, ?_⟩
      have HN := Aside0.mk q1_
      clear q1_
      have n0_ := Aside0.mk (HX.out.below hb)
      have n1_ := Aside0.mk (HY.out.below hb)
      have n2_ := Aside0.mk (Kd.R_below HR1.out hb)
      have n3_ := Aside0.mk (Kd.R_below HR2.out hb)
      have n4_ := Aside0.mk (below_then HBL.out HBL.out.size hb)
      have n5_ := Aside0.mk (Kd.C_below HC.out hb)
      clear HX HY HR1 HR2 HBL HC x3 hb
      have HX := n0_
      have HY := n1_
      have HR1 := n2_
      have HR2 := n3_
      have HBL := n4_
      have HC := n5_
      clear n0_ n1_ n2_ n3_ n4_ n5_
      have x3 := HX.out.at 3 v2 rfl
      refine hK.out _ _ (x3) (fun hHeld => ?_)
      clear hK K
      refine no_ 22 ?_
      refine one_ (i := 4) (N := some 23) (bz 8 31) rfl rfl (by kernel_rfl) (by decide) (fun K hK => ?_)
      refine va_ ?_
      have hUb := below_alloc (RowKit.Below.refl wc.heap.size wc) (.cells #[.slice A8 rl c8] 34)
      refine hK.out _ _ ((HX.out.alloc _).at 3 v2 rfl) (fun hHeld => ?_)
      clear hK K
      refine no_ 23 ?_
      refine last_ (i := 5) (N := some 24) (bz 8 63) rfl rfl (by kernel_rfl) (by decide) (fun K hK => ?_)
      refine Kd.R_append_step (Kd.slice 3 (Kd.int .i64)) (w0 := w) w.heap.size rfl (.tmp 20) (.tmp 23) 35 34 (.slice none 0 0) 24 rfl Tryz.underlying35 info3 rfl (by decide) (by decide) v2 (ds.take i) r [.slice A8 rl c8] (fun _ => True) (fun k => wd.heap.size ≤ k) rfl rfl ?aP ?aK (fun _ _ => trivial) HR2.out HBL.out HBL.out.size ?aL ?_
      (case aP => exact ⟨.slice A8 rl c8, rfl, Kd.R_lower (Kd.R_mono (Kd.R_bound HN.out) (fun k hk => hk.2.1)) HSZ.out⟩)
      (case aK => exact fun k hk => ⟨trivial, fun e => by have := HLT.out k e.symm; omega⟩)
      (case aL => (rw [List.length_take]; have := HQ.out.2; omega))
      intro v7 w7 ho7 hb7 hg7 hat7
      obtain ⟨A7, c7, rfl⟩ := Kd.R_slice ho7
      have H7 := Aside0.mk (And.intro ho7 hb7)
      have HX7 := Aside0.mk (HX.out.grown hg7 (Kd.R_ne HR2.out HX.out (by decide)))
      have HY7 := Aside0.mk (HY.out.grown hg7 (Kd.R_ne HR2.out HY.out (by decide)))
      have HR17 := Aside0.mk (Kd.R_mono (Kd.R_grown (Kd.R_bound HR1.out) hg7 (fun k hk => by obtain ⟨_, _, _, q9, hq9, cells9, hc9⟩ := hk; refine Kd.R_ne HR2.out hc9 (fun e9 => ?_); subst e9; simp [Kd.int, Kd.scalar] at hq9)) (fun _ _ => trivial) : Kd.R (Kd.int .i64) 3 w7 w.heap.size (fun _ => True) (.slice A' q c') cs)
      have x7 := HX7.out.at 3 v2 rfl
      have f7 := HX7.out.fz 3
      clear ho7 hb7 hg7 hat7
      refine hK.out _ _ ?_
      clear hK K
      refine no_ 24 ?_
      refine pu_ 6 25 127 ?_
      refine last_ (i := 7) (N := none) (bz 8 255) rfl rfl (by kernel_rfl) (by decide) (fun K hK => ?_)
      refine skip_ (w1 := ?_) (by rfl) rfl ?_ ?_
      rotate_left
      · go_simp
        rfl
      refine hK.out _ _ ?_
      clear hK K
      refine done_ (by kernel_rfl) ?_
      go_wp2_with fail
      have hl7 : (ds.take i ++ [r]).length = (ds.take i).length + 1 := by simp
      have hr7 := H7.out.1
      have hb7 := RowKit.Below.setCell (p := ⟨w.heap.size, 3, none⟩) H7.out.2 (Nat.le_refl _) (.slice A7 (ds.take i ++ [r]).length c7)
      have hx7 := (HX7.out.set 3 (.slice A7 (ds.take i ++ [r]).length c7))
      have hy7 := (HY7.out.other ⟨w.heap.size, 3, none⟩ (by show w.heap.size + 1 ≠ w.heap.size; omega) (.slice A7 (ds.take i ++ [r]).length c7))
      have ha7 := Kd.R_set HR17.out HX7.out (fun e he => by simp [Kd.int, Kd.scalar] at he; subst he; decide) 3 (.slice A7 (ds.take i ++ [r]).length c7)
      have hd7 := Kd.R_set hr7 HX7.out (fun e he => by simp [Kd.slice, Kd.int, Kd.scalar] at he; rcases he with rfl | rfl <;> decide) 3 (.slice A7 (ds.take i ++ [r]).length c7)
      have he7 : ds.take (i + 1) = ds.take i ++ [r] := by rw [List.take_add_one, HRR.out]; rfl
      rw [show (ds.take i ++ [r]).length = min i ds.length + 1 by simp] at hb7 hx7 hy7 ha7 hd7
      exact ⟨⟨i + 1, .slice A7 (min i ds.length + 1) c7, by simp, by rw [HQ.out.2]; exact hlt, hx7, hy7, ha7, by rw [he7]; exact hd7, hb7⟩, by simp only [intOf]; omega⟩
    · obtain rfl : i = dn := by omega
      rw [List.take_of_length_le (by rw [HQ.out.2]; exact Nat.le_refl _)] at hr2
      obtain ⟨A2, c2, rfl, _, _⟩ := Kd.R_reads hr2
      have HR2' := Aside0.mk hr2
      have x0 := hx.at 0 (.int .i64 n) rfl
      have x1 := hx.at 1 (.int .i64 f) rfl
      have x2 := hx.at 2 (.slice A' q c') rfl
      have x3 := hx.at 3 (.slice A2 ds.length c2) rfl
      have y0 := hy.at 0 (.int .i64 0) rfl
      have y1 := hy.at 1 (.int .i64 0) rfl
      have y2 := hy.at 2 (.slice none 0 0) rfl
      have y3 := hy.at 3 (.slice none 0 0) rfl
      have g0 := hy.fz 0
      have g1 := hy.fz 1
      have g2 := hy.fz 2
      have g3 := hy.fz 3
      clear hx hy hr1 hr2 hb HR2
      go_wp2_with fail
      refine bodyPost_ret (results_cell_row rfl _ _ (w.heap.size + 1) 37 #[.int .i64 n, .int .i64 f, .slice A' q c', .slice A2 ds.length c2] (0, 0) _ rfl ((((HY.out.set 0 _).set 1 _).set 2 _).set 3 _) Tryz.underlying37 rfl (by kernel_rfl)) rfl ?_
      have hset : ∀ {α : Type} {d : Kd α} {e : Nat} {v : Value} {xs : List α}, Kd.R d e wr w.heap.size (fun _ => True) v xs → (∀ q, q ∈ e :: d.E → q ≠ 37) → Kd.R d e ((((wr.setCell ⟨w.heap.size + 1, 0, none⟩ (.int .i64 n)).setCell ⟨w.heap.size + 1, 1, none⟩ (.int .i64 f)).setCell ⟨w.heap.size + 1, 2, none⟩ (.slice A' q c')).setCell ⟨w.heap.size + 1, 3, none⟩ (.slice A2 ds.length c2)) w.heap.size (fun _ => True) v xs := fun hR ht =>
        Kd.R_set (Kd.R_set (Kd.R_set (Kd.R_set hR HY.out ht 0 _) (HY.out.set 0 _) ht 1 _) ((HY.out.set 0 _).set 1 _) ht 2 _) (((HY.out.set 0 _).set 1 _).set 2 _) ht 3 _
      refine ⟨_, _, rfl, hset HR1.out (fun e he => by simp [Kd.int, Kd.scalar] at he; subst he; decide), hset HR2'.out (fun e he => by simp [Kd.slice, Kd.int, Kd.scalar] at he; rcases he with rfl | rfl <;> decide), ?_⟩
      exact RowKit.Below.setCell (p := ⟨w.heap.size + 1, 3, none⟩) (RowKit.Below.setCell (p := ⟨w.heap.size + 1, 2, none⟩) (RowKit.Below.setCell (p := ⟨w.heap.size + 1, 1, none⟩) (RowKit.Below.setCell (p := ⟨w.heap.size + 1, 0, none⟩) HBL.out (by show w.heap.size ≤ w.heap.size + 1; omega) _) (by show w.heap.size ≤ w.heap.size + 1; omega) _) (by show w.heap.size ≤ w.heap.size + 1; omega) _) (by show w.heap.size ≤ w.heap.size + 1; omega) _
end Go.Proofs.YtenkdmloolbdaaaGreatDoor.T
end
section
namespace Go.Proofs.YtenkdmloolbdaaaGreatDoor.T
open Go.RowKit Go.Maps Go.WideShapes Go.Proofs.YtenkdmloolbdaaaGreatDoorW.PrintWords Go.Proofs.YtenkdmloolbdaaaGreatDoorW.PrintLast Go.Proofs.YtenkdmloolbdaaaGreatDoorW.PrintMore
set_option linter.unusedVariables false
set_option linter.unusedSimpArgs false
abbrev mC (n f : Nat) (v2 v3 v4 v5 v6 v7 v8 v9 v10 v11 v12 : Value) : Array Value := #[.int .i64 n, .int .i64 f, v2, v3, v4, v5, v6, v7, v8, v9, v10, v11, v12]
theorem Upd.fresh {κ κ' : Kol} {w w' : World} (h1 : ∀ x, x < w.heap.size → κ' x = κ x) (h2 : RowKit.Below w.heap.size w w') : Upd (fun _ => False) κ w κ' w' := ⟨h1, Chg.of_below h2⟩
set_option maxHeartbeats 4000000 in
set_option maxRecDepth 100000 in
theorem parts_own (κ : Kol) (m n f : Nat) (v2 v3 v5 v6 v9 v10 v11 v12 : Value) (h1 : 1 ≤ n) (h8 : n ≤ 8) (f1 : 1 ≤ f) (f2 : f ≤ 1024) (w : World) (h : BlkK κ 1 w m (mC n f v2 v3 (.pointer none) v5 v6 (.pointer none) (.pointer none) v9 v10 v11 v12) 129) :
    Calls Tryz.prog 85 #[.pointer (some ⟨m, 0, none⟩)] w fun e w' => e = .returned (.int .i64 0) ∧ ∃ κ' mem bk lg, BlkK κ' 1 w' m (mC n f v2 v3 (.pointer (some ⟨mem, 0, none⟩)) v5 v6 (.pointer (some ⟨bk, 0, none⟩)) (.pointer (some ⟨lg, 0, none⟩)) v9 v10 v11 v12) 129 ∧ MemK κ' 3 w' mem f (n * f) (List.replicate (n * f * 64) 0) 0 (fun _ => none) (fun _ => none) ∧ BookK κ' w' bk n ∧ LogK κ' 8 w' lg n [] (List.replicate (n * 6) 0) ∧ Upd (· = 1) κ w κ' w' := by
  have HB := Aside0.mk h
  have c0 := h.blk.at 0 (.int .i64 (n : Int)) rfl
  have c1 := h.blk.at 1 (.int .i64 (f : Int)) rfl
  have HU := Aside0.mk (Upd.refl (· = 1) κ w)
  clear h
  go_enter Tryz.func85, Tryz.ntmps85
  go_upto_region 1 with fail
  refine st_ 16 (fun w' => w'.cell? ⟨m, 0, none⟩ = some (.int .i64 (n : Int)) ∧ w'.cell? ⟨m, 1, none⟩ = some (.int .i64 (f : Int))) [10] ⟨c0, c1⟩ (fun hHeld => ?_)
  have hd_ := below_drew (RowKit.Below.refl w.heap.size w)
  have n0_ := Aside0.mk (HB.out.below hd_)
  have n1_ := Aside0.mk (HU.out.below hd_)
  clear HB HU c0 c1 hd_
  have HB := n0_
  have HU := n1_
  clear n0_ n1_
  have c0 := HB.out.blk.at 0 (.int .i64 (n : Int)) rfl
  have c1 := HB.out.blk.at 1 (.int .i64 (f : Int)) rfl
  generalize w.drew = wd at *
  refine pu_ 0 6 1 ?_
  refine pu_ 1 7 3 ?_
  refine pu_ 2 8 7 ?_
  refine pu_ 3 9 15 ?_
  refine pu_ 5 11 47 ?_
  refine pu_ 6 12 111 ?_
  refine pu_ 7 13 239 ?_
  refine pu_ 8 14 495 ?_
  refine ta_ 4 10 511 hHeld ?_
  refine ta_ 9 15 1023 hHeld ?_
  refine last_ (i := 10) (N := some 16) (bz 16 2047) rfl rfl (by kernel_rfl) (by decide) (fun K hK => ?_)
  refine goes_ Tryz.func139 (by kernel_rfl) rfl #[.int .i64 n, .int .i64 f] (by rfl) rfl rfl (by simp only [List.map_toArray, List.map_cons, List.map_nil]; rfl) ?_
  with_reducible refine (frames_new κ 4 n f h1 h8 f1 f2 _).mono ?_
  rintro e_ w1 ⟨κ1, fb, rfl, q1_⟩
  refine ⟨_, rfl, ?_⟩
  have HR := Aside0.mk q1_
  clear q1_
  refine hK.out _ _ ?_
  clear hK K
  refine no_ 16 ?_
  refine pu_ 11 5 4095 ?_
  refine pu_ 12 17 8191 ?_
  refine pu_ 13 18 16383 ?_
  refine pu_ 14 3 32767 ?_
  refine pu_ 15 4 65535 ?_
  refine done_ (by kernel_rfl) ?_
  obtain ⟨q1, q2, q3, q4⟩ := HR.out
  have hU1 := Upd.fresh q3 q4
  have HB1 := Aside0.mk (HB.out.upd hU1 (fun h => h))
  have HU1 := Aside0.mk (HU.out.then hU1 (fun c h => h.elim))
  have HMN := Aside0.mk (mem_new κ1 3 fb f (n * f) (List.replicate (n * f * 64) 0) w1 q1)
  have c4 := HB1.out.blk.at 4 (.pointer none) rfl
  have f4 := HB1.out.blk.fz 4
  clear HR hHeld q1 q2 q3 q4 hU1 HB HU c0 c1
  go_upto_region 5 with (go_at_call 140; (with_reducible refine HMN.out.mono ?_); rintro e_ w2 ⟨κ2, mb, rfl, q1, q2, q3, q4⟩; have hU2 := Upd.fresh q3 q4; have HB2 := Aside0.mk (HB1.out.upd hU2 (fun h => h)); have HU2 := Aside0.mk (HU1.out.then hU2 (fun c h => h.elim)); have HM2 := Aside0.mk q1; clear hU2 q1 q2 q3 q4 c4 f4; have c4 := HB2.out.blk.at 4 (.pointer none) rfl; have f4 := HB2.out.blk.fz 4)
  have hS1 := (HB2.out.set 4 (.pointer (some ⟨mb, 0, none⟩)))
  have hV1 : Upd (· = 1) κ2 w2 κ2 (w2.setCell ⟨m, 4, none⟩ (.pointer (some ⟨mb, 0, none⟩))) := (Upd.refl _ _ _).set ⟨m, 4, none⟩ (fun _ => HB2.out.kol) _
  have HB3 := Aside0.mk hS1
  have HM3 := Aside0.mk (HM2.out.upd hV1 (by omega))
  have HU3 := Aside0.mk (HU2.out.then hV1 (fun _ h => h))
  clear hS1 hV1 HB2 HM2 HU2 c4 f4 HB1 HU1
  generalize w2.setCell ⟨m, 4, none⟩ (.pointer (some ⟨mb, 0, none⟩)) = w3 at *
  have c0 := HB3.out.blk.at 0 (.int .i64 (n : Int)) rfl
  have hbn := book_new n h1 h8
  have HBN := Aside0.mk hbn
  clear hbn
  go_upto_region 8 with (go_at_call 141; (with_reducible refine (HBN.out _).mono ?_); rintro e_ w4 ⟨rfl, h4⟩; have hU4 : Upd (fun _ => False) κ2 w3 (fun x => if x < w3.heap.size then κ2 x else if x = w3.heap.size then 12 else 11) w4 := ⟨fun b hb => if_pos hb, Chg.of_below (by rw [h4]; exact below_alloc (below_alloc (RowKit.Below.refl _ _) _) _)⟩; have HB4 := Aside0.mk (HB3.out.upd hU4 (fun h => h)); have HM4 := Aside0.mk (HM3.out.upd hU4 (fun _ _ h => h)); have HU4 := Aside0.mk (HU3.out.then hU4 (fun c h => h.elim)); have H4 := Aside0.mk (show BookK (fun x => if x < w3.heap.size then κ2 x else if x = w3.heap.size then 12 else 11) w4 (w3.heap.size + 1) n from by rw [h4]; exact ⟨w3.heap.size, ⟨by show (if w3.heap.size + 1 < w3.heap.size then _ else _) = _; rw [if_neg (by omega), if_neg (by omega)], Blk.new1 w3 _ _ _⟩, by show (if w3.heap.size < w3.heap.size then _ else _) = _; rw [if_neg (by omega), if_pos rfl], ((below_alloc (RowKit.Below.refl _ _) _).block w3.heap.size (by rw [World.size_alloc]; omega)).trans (heap_alloc_new _ _)⟩); have c7 := HB4.out.blk.at 7 (.pointer none) rfl; have f7 := HB4.out.blk.fz 7; clear h4 hU4 c0)
  obtain ⟨κ4, hκ4⟩ : ∃ κ4, (fun x => if x < w3.heap.size then κ2 x else if x = w3.heap.size then 12 else 11 : Kol) = κ4 := ⟨_, rfl⟩
  rw [hκ4] at HB4 HM4 HU4 H4
  clear hκ4
  obtain ⟨bk, hbk⟩ : ∃ bk, w3.heap.size + 1 = bk := ⟨_, rfl⟩
  rw [hbk] at H4 ⊢
  clear hbk
  have hV4 : Upd (· = 1) κ4 w4 κ4 (w4.setCell ⟨m, 7, none⟩ (.pointer (some ⟨bk, 0, none⟩))) := (Upd.refl _ _ _).set ⟨m, 7, none⟩ (fun _ => HB4.out.kol) _
  have HB5 := Aside0.mk (HB4.out.set 7 (.pointer (some ⟨bk, 0, none⟩)))
  have HM5 := Aside0.mk (HM4.out.upd hV4 (by omega))
  have HK5 := Aside0.mk (H4.out.upd hV4 (by omega) (by omega))
  have HU5 := Aside0.mk (HU4.out.then hV4 (fun _ h => h))
  clear hV4 HB4 HM4 H4 HU4 c7 f7 HB3 HM3 HU3
  generalize w4.setCell ⟨m, 7, none⟩ (.pointer (some ⟨bk, 0, none⟩)) = w5 at *
  have c0 := HB5.out.blk.at 0 (.int .i64 (n : Int)) rfl
  have HLN := Aside0.mk (log_new κ4 8 n h1 h8 w5)
  go_upto_region 11 with (go_at_call 142; (with_reducible refine HLN.out.mono ?_); rintro e_ w6 ⟨κ6, lg, rfl, q1, q2, q3, q4⟩; have hU6 := Upd.fresh q3 q4; have HB6 := Aside0.mk (HB5.out.upd hU6 (fun h => h)); have HM6 := Aside0.mk (HM5.out.upd hU6 (fun _ _ h => h)); have HK6 := Aside0.mk (HK5.out.upd hU6 (fun h => h) (fun h => h)); have HU6 := Aside0.mk (HU5.out.then hU6 (fun c h => h.elim)); have HL6 := Aside0.mk q1; have c8 := HB6.out.blk.at 8 (.pointer none) rfl; have f8 := HB6.out.blk.fz 8; clear q1 q2 q3 q4 hU6 c0)
  have hV6 : Upd (· = 1) κ6 w6 κ6 (w6.setCell ⟨m, 8, none⟩ (.pointer (some ⟨lg, 0, none⟩))) := (Upd.refl _ _ _).set ⟨m, 8, none⟩ (fun _ => HB6.out.kol) _
  go_wp2_with fail
  go_ret
  exact ⟨rfl, κ6, mb, bk, lg, HB6.out.set 8 _, HM6.out.upd hV6 (by omega), HK6.out.upd hV6 (by omega) (by omega), HL6.out.upd hV6 (by omega), HU6.out.then hV6 (fun _ h => h)⟩
end Go.Proofs.YtenkdmloolbdaaaGreatDoor.T
end
section
namespace Go.Proofs.YtenkdmloolbdaaaGreatDoor.T
open Go.RowKit Go.Maps Go.WideShapes Go.Proofs.YtenkdmloolbdaaaGreatDoorW.PrintWords Go.Proofs.YtenkdmloolbdaaaGreatDoorW.PrintLast Go.Proofs.YtenkdmloolbdaaaGreatDoorW.PrintMore
set_option linter.unusedVariables false
set_option linter.unusedSimpArgs false
section
variable {κ : Kol} {w : World} {m : Nat} {a : Ad} {s : St}
theorem MachK.c0 (h : MachK κ w m a s) : w.cell? ⟨m, 0, none⟩ = some (.int .i64 s.n) := h.box.blk.at 0 _ rfl
theorem MachK.c1 (h : MachK κ w m a s) : w.cell? ⟨m, 1, none⟩ = some (.int .i64 s.f) := h.box.blk.at 1 _ rfl
theorem MachK.c2 (h : MachK κ w m a s) : w.cell? ⟨m, 2, none⟩ = some (.slice a.A s.cs.length a.ca) := h.box.blk.at 2 _ rfl
theorem MachK.c3 (h : MachK κ w m a s) : w.cell? ⟨m, 3, none⟩ = some (.slice a.B s.ds.length a.cb) := h.box.blk.at 3 _ rfl
theorem MachK.c4 (h : MachK κ w m a s) : w.cell? ⟨m, 4, none⟩ = some (.pointer (some ⟨a.mem, 0, none⟩)) := h.box.blk.at 4 _ rfl
theorem MachK.c5 (h : MachK κ w m a s) : w.cell? ⟨m, 5, none⟩ = some (.pointer (some ⟨a.hp, 0, none⟩)) := h.box.blk.at 5 _ rfl
theorem MachK.c6 (h : MachK κ w m a s) : w.cell? ⟨m, 6, none⟩ = some (.pointer (some ⟨a.spc, 0, none⟩)) := h.box.blk.at 6 _ rfl
theorem MachK.c8 (h : MachK κ w m a s) : w.cell? ⟨m, 8, none⟩ = some (.pointer (some ⟨a.lg, 0, none⟩)) := h.box.blk.at 8 _ rfl
theorem MachK.c9 (h : MachK κ w m a s) : w.cell? ⟨m, 9, none⟩ = some a.cv := h.box.blk.at 9 _ rfl
theorem MachK.c10 (h : MachK κ w m a s) : w.cell? ⟨m, 10, none⟩ = some a.qv := h.box.blk.at 10 _ rfl
theorem MachK.c11 (h : MachK κ w m a s) : w.cell? ⟨m, 11, none⟩ = some (.map (some a.sb)) := h.box.blk.at 11 _ rfl
theorem MachK.c12 (h : MachK κ w m a s) : w.cell? ⟨m, 12, none⟩ = some (.map (some a.lb)) := h.box.blk.at 12 _ rfl
end
set_option maxHeartbeats 1000000 in
set_option maxRecDepth 100000 in
theorem cpu_own (κ : Kol) (m : Nat) (a : Ad) (s : St) (j p : Nat) (hp : a.cps[j]? = some p) (w : World) (h : MachK κ w m a s) :
    Calls Tryz.prog 61 #[.pointer (some ⟨m, 0, none⟩), .int .i64 j] w fun e w' => e = .returned (.tuple #[.pointer (some ⟨p, 0, none⟩), .int .i64 0]) ∧ w' = w := by
  obtain ⟨h1, h2, _⟩ := h.cpus
  have hj := (List.getElem?_eq_some_iff.1 hp).1
  have h16 := h.hcp
  obtain ⟨A, c, hv, hle, hC⟩ := h1.reads
  obtain ⟨ad, rfl, q0⟩ := pk_at hC j (by omega) p hp
  have s9 := h.c9
  rw [hv] at s9
  obtain ⟨n, hn⟩ : ∃ n, a.cps.length = n := ⟨_, rfl⟩
  rw [hn] at s9
  have j0 : (0 : Int) ≤ (j : Int) := by omega
  have jI : (j : Int) < (n : Int) := by omega
  have d0 : decide ((j : Int) < 0) = false := decide_eq_false (by omega)
  have d1 : decide (n ≤ j) = false := decide_eq_false (by omega)
  clear h h1 h2 hC hle hn hp h16 hv
  go_enter Tryz.func61, Tryz.ntmps61
  go_wp2_with fail
  go_ret2
  exact ⟨rfl, rfl⟩
set_option maxHeartbeats 1000000 in
set_option maxRecDepth 100000 in
theorem cpu_none (κ : Kol) (m : Nat) (a : Ad) (s : St) (j : Int) (hp : j < 0 ∨ (s.cpus.length : Int) ≤ j) (w : World) (h : MachK κ w m a s) :
    Calls Tryz.prog 61 #[.pointer (some ⟨m, 0, none⟩), .int .i64 j] w fun e w' => e = .returned (.tuple #[.pointer none, .int .i64 11]) ∧ w' = w := by
  obtain ⟨h1, h2, _⟩ := h.cpus
  obtain ⟨A, c, hv, hle, hC⟩ := h1.reads
  have s9 := h.c9
  rw [hv, h2] at s9
  obtain ⟨n, hn⟩ : ∃ n, s.cpus.length = n := ⟨_, rfl⟩
  rw [hn] at s9 hp
  clear h h1 h2 hC hle hn hv
  by_cases hj : j < 0
  · have d0 : decide (j < 0) = true := decide_eq_true hj
    clear hp
    go_enter Tryz.func61, Tryz.ntmps61
    go_wp2_with fail
    go_ret2
    exact ⟨rfl, rfl⟩
  · have d0 : decide (j < 0) = false := decide_eq_false hj
    have d1 : decide ((n : Int) ≤ j) = true := decide_eq_true (by omega)
    clear hp
    go_enter Tryz.func61, Tryz.ntmps61
    go_wp2_with fail
    go_ret2
    exact ⟨rfl, rfl⟩
set_option maxHeartbeats 1000000 in
set_option maxRecDepth 100000 in
theorem object_own (κ : Kol) (m : Nat) (a : Ad) (s : St) (x : Int) (hx : I64 x) (w : World) (h : MachK κ w m a s) :
    Calls Tryz.prog 64 #[.pointer (some ⟨m, 0, none⟩), .int .i64 x] w fun e w' => e = .returned (.tuple #[.int .i64 ((s.live x).getD 0), .int .i64 (if (s.live x).isSome = true then 0 else 6)]) ∧ w' = w := by
  obtain ⟨hk, D, ho, hv⟩ := h.live
  have s12 := h.c12
  have HO := Aside0.mk ho
  have HX := Aside0.mk hx
  have HV := Aside0.mk hv
  have HH := Aside0.mk ((hv x hx).1)
  clear h hk ho hv hx
  cases hl : s.live x with
  | none =>
    rw [hl] at HH
    go_enter Tryz.func64, Tryz.ntmps64
    go_wp2_with (at_lookup; refine wpList_lookup_own_ok_int _ rfl _ _ 127 rfl 3 3 .i64 int_law Tryz.underlying127 Tryz.underlying3 (zero_int _) a.lb s.ln D rfl HO.out _ (.int .i64 x) rfl (keyOf_int_mk Tryz.underlying3 HX.out) ?_; intro c hat hwc; rw [HH.out]; obtain rfl := view_c HV.out HX.out hat; rw [hl]; clear hat hwc)
    go_ret2
    exact ⟨rfl, rfl⟩
  | some n =>
    rw [hl] at HH
    go_enter Tryz.func64, Tryz.ntmps64
    go_wp2_with (at_lookup; refine wpList_lookup_own_ok_int _ rfl _ _ 127 rfl 3 3 .i64 int_law Tryz.underlying127 Tryz.underlying3 (zero_int _) a.lb s.ln D rfl HO.out _ (.int .i64 x) rfl (keyOf_int_mk Tryz.underlying3 HX.out) ?_; intro c hat hwc; rw [HH.out]; obtain rfl := view_c HV.out HX.out hat; rw [hl]; clear hat hwc)
    go_ret2
    exact ⟨rfl, rfl⟩
theorem zero_held (w : World) : (zeroValue 139).run Tryz.prog w = .ok (.pointer none) w := Tryz.zeroValue139 w
/-- A pointer looked up in a map. -/
theorem MapP.look {κ : Kol} {i : Nat} {w : World} {b n : Nat} {f : Int → Option Nat} (h : MapP κ i w b n f) (x : Int) (hx : I64 x) :
    (Instr.lookup 126 (.map (some b)) (.int .i64 x) false).run Tryz.prog w = .ok (ptrV (f x)) w := by
  obtain ⟨hk, D, ho, hv⟩ := h
  obtain ⟨v, ps, hrun, hr⟩ := ho.lookup int_law Tryz.underlying126 (zero_held w) (show ptrElem (.pointer none) = some (.lit (.int .i64 (-1)), []) from rfl) (keyOf_int_mk Tryz.underlying3 hx)
  rw [hrun]
  rw [(hv x hx).2] at hr
  rcases ptr_inv hr with ⟨rfl, e⟩ | ⟨q, rfl, e⟩
  · cases hf : f x with
    | none => rfl
    | some q => rw [hf] at e; simp [ptrI] at e
  · cases hf : f x with
    | none => rw [hf] at e; simp [ptrI] at e
    | some q' =>
      rw [hf] at e
      have : q' = q := by simp [ptrI] at e; omega
      subst this
      rfl
set_option maxHeartbeats 1000000 in
set_option maxRecDepth 100000 in
/-- The span of an address within a run. -/
theorem span_of (κ : Kol) (m : Nat) (a : Ad) (s : St) (x p : Nat) (y : Int) (hx : x ≤ 1000000) (hp : p < 4096) (ho : TS.ofR s.rs ((x / 64 : Nat) : Int) = ((p : Int), y, true)) (w : World) (h : MachK κ w m a s) (hd : Held) (hsp : s.sp p = some hd) :
    Calls Tryz.prog 91 #[.pointer (some ⟨m, 0, none⟩), .int .i64 x] w fun e w' => ∃ q, e = .returned (.pointer (some ⟨q, 0, none⟩)) ∧ HeldK κ w' q p hd ∧ RowKit.Below w.heap.size w w' := by
  have HOF := Aside0.mk (space_of ((x / 64 : Nat) : Int) h.spc)
  rw [ho, show ((x / 64 : Nat) : Int) = (x : Int) / 64 from by omega] at HOF
  have HM := Aside0.mk h
  have c6 := h.c6
  have hx0 : (0 : Int) ≤ (x : Int) := by omega
  have hx1 : (x : Int) ≤ 1000000 := by omega
  clear h ho
  go_enter Tryz.func91, Tryz.ntmps91
  go_upto_region 4 with (go_at_call 145; (with_reducible refine HOF.out.mono ?_); rintro e_ w1 ⟨rfl, hb⟩; have HB := Aside0.mk hb; clear hb)
  have hm1 := HM.out.below HB.out
  obtain ⟨f, k1, k2, k3⟩ := hm1.sp
  obtain ⟨q1, hq1, hh⟩ := (k3 p).2 hd hsp
  have hlk := k1.look (p : Int) (i64o _ (by omega) (by omega))
  rw [hq1] at hlk
  have c11 := hm1.c11
  have HH := Aside0.mk hh
  clear hm1 k1 k2 k3 hq1 hh c6
  go_wp2_with fail
  go_ret
  exact ⟨q1, rfl, HH.out, HB.out⟩
end Go.Proofs.YtenkdmloolbdaaaGreatDoor.T
end
