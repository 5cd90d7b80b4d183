import Derived.Test.YtenkdmloolbdaaaGreatDoorE08
import Derived.Test.YtenkdmloolbdaaaGreatDoorE09
import Derived.Test.YtenkdmloolbdaaaGreatDoorE10
import Derived.Test.YtenkdmloolbdaaaGreatDoorE12
import Derived.Test.YtenkdmloolbdaaaGreatDoorE14
import Derived.Test.YtenkdmloolbdaaaGreatDoorE15
set_option linter.unusedVariables false
set_option linter.unusedSimpArgs false
set_option maxHeartbeats 8000000
set_option maxRecDepth 100000
section
namespace Go.Proofs.YtenkdmloolbdaaaGreatDoor.T
open Go.RowKit Go.Maps Go.WideShapes Go.Proofs.YtenkdmloolbdaaaGreatDoorW.PrintWords Go.Proofs.YtenkdmloolbdaaaGreatDoorW.PrintLast Go.Proofs.YtenkdmloolbdaaaGreatDoorW.PrintMore
def SpK (κ : Kol) (i : Nat) (w : World) (g : Nat) (rs : List (Int × Int)) : Prop := ∃ A c, TS.Sp w 0 g A c rs ∧ κ g = i ∧ ∀ k, TS.Row0 A = some k → κ k = i + 1
theorem SpK.upd {I : Nat → Prop} {κ κ1 : Kol} {i g : Nat} {w w1 : World} {rs : List (Int × Int)} (h : SpK κ i w g rs) (k : Upd I κ w κ1 w1) (hi : ∀ c, c < 2 → ¬ I (i + c)) : SpK κ1 i w1 g rs := by
 obtain ⟨A, c, hs, h1, h2⟩ := h
 have hg : g < w.heap.size := (Array.getElem?_eq_some_iff.1 hs.cell).1
 refine ⟨A, c, ⟨Nat.zero_le _, (k.chg.block g hg (fun e => hi 0 (by omega) (by rwa [h1] at e))).trans hs.cell, ?_, hs.ne, hs.good⟩, (k.kol g hg).trans h1, fun q hq => ?_⟩
 ·exact own_move hs.row (fun q hq => by rw [TS.own_slice] at hq; exact k.chg.block q (hs.row.rowlt q hq).2 (fun e => hi 1 (by omega) (by rwa [h2 q hq] at e)))
 ·exact (k.kol q (hs.row.rowlt q hq).2).trans (h2 q hq)
theorem space_of {κ : Kol} {i g : Nat} {w : World} {rs : List (Int × Int)} (p : Int) (h : SpK κ i w g rs) :
 Calls Tryz.prog 145 #[.pointer (some ⟨g, 0, none⟩), .int .i64 p] w fun e w' => e = .returned (.tuple #[.int .i64 (TS.ofR rs p).1, .int .i64 (TS.ofR rs p).2.1, .bool (TS.ofR rs p).2.2]) ∧ RowKit.Below w.heap.size w w' := by
 obtain ⟨A, c, hs, _⟩ := h
 exact TS.of_own 0 g A c rs p w hs
theorem space_take {κ : Kol} {i g : Nat} {w : World} {rs : List (Int × Int)} (n : Int) (hn1 : 1 ≤ n) (hn2 : n ≤ 4095) (h : SpK κ i w g rs) :
 Calls Tryz.prog 120 #[.pointer (some ⟨g, 0, none⟩), .int .i64 n] w fun e w' => ∃ κ', e = .returned (.tuple #[.int .i64 (TS.takeR n rs).1, .int .i64 (TS.takeR n rs).2.1]) ∧ SpK κ' i w' g (TS.takeR n rs).2.2 ∧ Upd (fun c => c = i ∨ c = i + 1) κ w κ' w' := by
 obtain ⟨A, c, hs, h1, h2⟩ := h
 have hg : g < w.heap.size := (Array.getElem?_eq_some_iff.1 hs.cell).1
 refine (TS.take_own 0 g A c rs n w hs hn1 hn2).mono ?_
 rintro e w' ⟨A', c', rfl, q1, q2, q3⟩
 refine ⟨κ.ext w.heap.size (i + 1), rfl, ⟨A', c', q1, by rw [Kol.ext_old κ hg]; exact h1, fun k hk => ?_⟩, fun b hb => Kol.ext_old κ hb, ⟨q2.os, q2.tape, q2.output, q2.size, fun b hb hne => q2.block b hb (fun e => hne (.inl (by rw [e]; exact h1))) (fun e => hne (.inr (h2 b e.symm)))⟩⟩
 rcases q3 with e | ⟨b, e, hb⟩
 ·rw [e] at hk
  rw [Kol.ext_old κ (hs.row.rowlt k hk).2]
  exact h2 k hk
 ·rw [e] at hk
  obtain rfl := Option.some.inj hk
  exact Kol.ext_new κ hb
structure Cpu where
 node : Int
 mode : Int
 set : Nat
 nd : Int
 cur : Int
 L : Nat → List Int
def CpuK (κ : Kol) (i : Nat) (w : World) (b : Nat) (c : Cpu) : Prop :=
 ∃ cb, BlkK κ i w b #[.int .i64 c.node, .int .i64 c.mode, .int .u8 c.set, .int .i64 c.nd, .int .i64 c.cur, .pointer (some ⟨cb, 0, none⟩)] 166 ∧ CacheK κ (i + 1) w cb c.L
theorem CpuK.upd {I : Nat → Prop} {κ κ1 : Kol} {i b : Nat} {w w1 : World} {c : Cpu} (h : CpuK κ i w b c) (k : Upd I κ w κ1 w1) (hi : ∀ c, c < 6 → ¬ I (i + c)) : CpuK κ1 i w1 b c := by
 obtain ⟨cb, h1, h2⟩ := h
 exact ⟨cb, h1.upd k (hi 0 (by omega)), h2.upd k (fun c hc => by have := hi (1 + c) (by omega); rwa [← Nat.add_assoc] at this)⟩
def CpusK (κ : Kol) (w : World) (v : Value) (ps : List Nat) (cs : List Cpu) : Prop :=
 KR pk 117 κ 124 w v ps ∧ ps.length = cs.length ∧ ∀ j c, cs[j]? = some c → ∃ p, ps[j]? = some p ∧ CpuK κ (150 + 6 * j) w p c
theorem CpusK.upd {I : Nat → Prop} {κ κ1 : Kol} {w w1 : World} {v : Value} {ps : List Nat} {cs : List Cpu} (h : CpusK κ w v ps cs) (k : Upd I κ w κ1 w1) (h0 : ¬ I 124) (hi : ∀ c, 150 ≤ c → c < 150 + 6 * cs.length → ¬ I c) : CpusK κ1 w1 v ps cs := by
 obtain ⟨h1, h2, h3⟩ := h
 refine ⟨h1.upd k h0, h2, fun j c hj => ?_⟩
 obtain ⟨p, hp, hc⟩ := h3 j c hj
 have hjl := (List.getElem?_eq_some_iff.1 hj).1
 exact ⟨p, hp, hc.upd k (fun q hq => hi _ (by omega) (by omega))⟩
def QueK (κ : Kol) (i : Nat) (w : World) (b : Nat) (q : List Int) : Prop :=
 ∃ cb s r, BlkK κ i w b #[.chan (some cb)] 227 ∧ κ cb = i + 1 ∧ w.heap[cb]? = some (.chan 16 (q.map (Value.int .i64)).toArray false s r false)
theorem QueK.upd {I : Nat → Prop} {κ κ1 : Kol} {i b : Nat} {w w1 : World} {q : List Int} (h : QueK κ i w b q) (k : Upd I κ w κ1 w1) (hi : ∀ c, c < 2 → ¬ I (i + c)) : QueK κ1 i w1 b q := by
 obtain ⟨cb, s, r, h1, h2, h3⟩ := h
 have hl := (Array.getElem?_eq_some_iff.1 h3).1
 exact ⟨cb, s, r, h1.upd k (hi 0 (by omega)), (k.kol cb hl).trans h2, (k.chg.block cb hl (fun e => hi 1 (by omega) (by rwa [h2] at e))).trans h3⟩
def QuesK (κ : Kol) (w : World) (v : Value) (ps : List Nat) (qs : List (List Int)) : Prop :=
 KR pk 133 κ 125 w v ps ∧ ps.length = qs.length ∧ ∀ j q, qs[j]? = some q → ∃ p, ps[j]? = some p ∧ QueK κ (126 + 2 * j) w p q
theorem QuesK.upd {I : Nat → Prop} {κ κ1 : Kol} {w w1 : World} {v : Value} {ps : List Nat} {qs : List (List Int)} (h : QuesK κ w v ps qs) (k : Upd I κ w κ1 w1) (hi : ∀ c, 125 ≤ c → c < 126 + 2 * qs.length → ¬ I c) : QuesK κ1 w1 v ps qs := by
 obtain ⟨h1, h2, h3⟩ := h
 refine ⟨h1.upd k (hi _ (by omega) (by omega)), h2, fun j c hj => ?_⟩
 obtain ⟨p, hp, hc⟩ := h3 j c hj
 have hjl := (List.getElem?_eq_some_iff.1 hj).1
 exact ⟨p, hp, hc.upd k (fun q hq => hi _ (by omega) (by omega))⟩
structure Held where
 node : Nat
 order : Nat
 frame : Nat
 cls : Nat
 tk : Nat
def HeldK (κ : Kol) (w : World) (b page : Nat) (x : Held) : Prop :=
 ∃ sb, BlkK κ (1000 + 2 * page) w b #[.pointer (some ⟨sb, 0, none⟩), .int .i64 page, .int .i64 x.node, .int .i64 x.order, .int .i64 x.frame] 142 ∧ BlkK κ (1001 + 2 * page) w sb (spanC x.cls x.tk) 194
theorem HeldK.upd {I : Nat → Prop} {κ κ1 : Kol} {b page : Nat} {w w1 : World} {x : Held} (h : HeldK κ w b page x) (k : Upd I κ w κ1 w1) (h1 : ¬ I (1000 + 2 * page)) (h2 : ¬ I (1001 + 2 * page)) : HeldK κ1 w1 b page x := by
 obtain ⟨sb, k1, k2⟩ := h
 exact ⟨sb, k1.upd k h1, k2.upd k h2⟩
def SpansK (κ : Kol) (w : World) (b n : Nat) (sp : Nat → Option Held) : Prop :=
 ∃ f, MapP κ 143 w b n f ∧ (∀ x : Int, (f x).isSome = true → 0 ≤ x ∧ x < 4096) ∧ ∀ p : Nat, (sp p = none → f (p : Int) = none) ∧ ∀ x, sp p = some x → ∃ q, f (p : Int) = some q ∧ HeldK κ w q p x
theorem SpansK.upd {I : Nat → Prop} {κ κ1 : Kol} {b n : Nat} {w w1 : World} {sp : Nat → Option Held} (h : SpansK κ w b n sp) (k : Upd I κ w κ1 w1) (h0 : ¬ I 143) (hi : ∀ c, 1000 ≤ c → ¬ I c) : SpansK κ1 w1 b n sp := by
 obtain ⟨f, h1, h2, h3⟩ := h
 refine ⟨f, h1.upd k h0, h2, fun p => ⟨(h3 p).1, fun x hx => ?_⟩⟩
 obtain ⟨q, hq, hh⟩ := (h3 p).2 x hx
 exact ⟨q, hq, hh.upd k (hi _ (by omega)) (hi _ (by omega))⟩
structure Ad where
 A : Option Addr
 ca : Nat
 B : Option Addr
 cb : Nat
 mem : Nat
 hp : Nat
 spc : Nat
 bk : Nat
 lg : Nat
 cv : Value
 cps : List Nat
 qv : Value
 qps : List Nat
 sb : Nat
 lb : Nat
structure St where
 n : Nat
 f : Nat
 cs : List Int
 ds : List (List Int)
 mn : Int
 lo : Int
 hi : Int
 bs : List Bud
 l : List Nat
 pn : Nat
 pf : Int → Option Int
 pg : Int → Option Int
 ev : List Ev
 cn : List Int
 rs : List (Int × Int)
 cpus : List Cpu
 qs : List (List Int)
 sn : Nat
 sp : Nat → Option Held
 ln : Nat
 live : Int → Option Int
 bm : Int → Option Pol
def boxC (a : Ad) (s : St) : Array Value := #[.int .i64 s.n, .int .i64 s.f, .slice a.A s.cs.length a.ca, .slice a.B s.ds.length a.cb, .pointer (some ⟨a.mem, 0, none⟩), .pointer (some ⟨a.hp, 0, none⟩), .pointer (some ⟨a.spc, 0, none⟩), .pointer (some ⟨a.bk, 0, none⟩), .pointer (some ⟨a.lg, 0, none⟩), a.cv, a.qv, .map (some a.sb), .map (some a.lb)]
structure MachK (κ : Kol) (w : World) (m : Nat) (a : Ad) (s : St) : Prop where
 box : BlkK κ 1 w m (boxC a s) 129
 cs : KR (Kd.int .i64) 3 κ 2 w (.slice a.A s.cs.length a.ca) s.cs
 ds : KR (Kd.slice 3 (Kd.int .i64)) 34 κ 2 w (.slice a.B s.ds.length a.cb) s.ds
 mem : MemK κ 3 w a.mem s.f (s.n * s.f) s.l s.pn s.pf s.pg
 lg : LogK κ 8 w a.lg s.n s.ev s.cn
 bk : BookK κ w a.bk s.n s.bm
 spc : SpK κ 13 w a.spc s.rs
 hp : HeapK κ 16 w a.hp s.f s.mn s.lo s.hi s.bs
 cpus : CpusK κ w a.cv a.cps s.cpus
 qs : QuesK κ w a.qv a.qps s.qs
 sp : SpansK κ w a.sb s.sn s.sp
 live : MapI κ 144 w a.lb s.ln s.live
 hbs : s.bs.length ≤ 8
 hcp : s.cpus.length ≤ 16
 hqs : s.qs.length ≤ 8
theorem MachK.upd {I : Nat → Prop} {κ κ1 : Kol} {m : Nat} {a : Ad} {s : St} {w w1 : World} (h : MachK κ w m a s) (k : Upd I κ w κ1 w1) (hI : ∀ c, 1 ≤ c → ¬ I c) : MachK κ1 w1 m a s :=
 ⟨h.box.upd k (hI _ (by omega)), h.cs.upd k (hI _ (by omega)), h.ds.upd k (hI _ (by omega)), h.mem.upd k (fun c _ => hI _ (by omega)), h.lg.upd k (fun c _ => hI _ (by omega)), h.bk.upd k (hI _ (by omega)) (hI _ (by omega)), h.spc.upd k (fun c _ => hI _ (by omega)), h.hp.upd k (fun c _ => hI _ (by omega)), h.cpus.upd k (hI _ (by omega)) (fun c _ _ => hI _ (by omega)), h.qs.upd k (fun c _ _ => hI _ (by omega)), h.sp.upd k (hI _ (by omega)) (fun c _ => hI _ (by omega)), h.live.upd k (hI _ (by omega)), h.hbs, h.hcp, h.hqs⟩
theorem MachK.below {κ : Kol} {m : Nat} {a : Ad} {s : St} {w w1 : World} (h : MachK κ w m a s) (k : RowKit.Below w.heap.size w w1) : MachK κ w1 m a s := h.upd (I := fun _ => False) (Upd.of_below κ k) (fun _ _ h => h)
section
variable {κ : Kol} {w : World} {m : Nat} {a : Ad} {s : St}
theorem MachK.c0 (h : MachK κ w m a s) : w.cell? ⟨m, 0, none⟩ = some (.int .i64 s.n) := h.box.blk.at 0 _ rfl
theorem MachK.c1 (h : MachK κ w m a s) : w.cell? ⟨m, 1, none⟩ = some (.int .i64 s.f) := h.box.blk.at 1 _ rfl
theorem MachK.c2 (h : MachK κ w m a s) : w.cell? ⟨m, 2, none⟩ = some (.slice a.A s.cs.length a.ca) := h.box.blk.at 2 _ rfl
theorem MachK.c3 (h : MachK κ w m a s) : w.cell? ⟨m, 3, none⟩ = some (.slice a.B s.ds.length a.cb) := h.box.blk.at 3 _ rfl
theorem MachK.c4 (h : MachK κ w m a s) : w.cell? ⟨m, 4, none⟩ = some (.pointer (some ⟨a.mem, 0, none⟩)) := h.box.blk.at 4 _ rfl
theorem MachK.c5 (h : MachK κ w m a s) : w.cell? ⟨m, 5, none⟩ = some (.pointer (some ⟨a.hp, 0, none⟩)) := h.box.blk.at 5 _ rfl
theorem MachK.c6 (h : MachK κ w m a s) : w.cell? ⟨m, 6, none⟩ = some (.pointer (some ⟨a.spc, 0, none⟩)) := h.box.blk.at 6 _ rfl
theorem MachK.c7 (h : MachK κ w m a s) : w.cell? ⟨m, 7, none⟩ = some (.pointer (some ⟨a.bk, 0, none⟩)) := h.box.blk.at 7 _ rfl
theorem MachK.c8 (h : MachK κ w m a s) : w.cell? ⟨m, 8, none⟩ = some (.pointer (some ⟨a.lg, 0, none⟩)) := h.box.blk.at 8 _ rfl
theorem MachK.c9 (h : MachK κ w m a s) : w.cell? ⟨m, 9, none⟩ = some a.cv := h.box.blk.at 9 _ rfl
theorem MachK.c10 (h : MachK κ w m a s) : w.cell? ⟨m, 10, none⟩ = some a.qv := h.box.blk.at 10 _ rfl
theorem MachK.c11 (h : MachK κ w m a s) : w.cell? ⟨m, 11, none⟩ = some (.map (some a.sb)) := h.box.blk.at 11 _ rfl
theorem MachK.c12 (h : MachK κ w m a s) : w.cell? ⟨m, 12, none⟩ = some (.map (some a.lb)) := h.box.blk.at 12 _ rfl
end
theorem cpu_own (κ : Kol) (m : Nat) (a : Ad) (s : St) (j p : Nat) (hp : a.cps[j]? = some p) (w : World) (h : MachK κ w m a s) :
 Calls Tryz.prog 61 #[.pointer (some ⟨m, 0, none⟩), .int .i64 j] w fun e w' => e = .returned (.tuple #[.pointer (some ⟨p, 0, none⟩), .int .i64 0]) ∧ w' = w := by
 obtain ⟨h1, h2, _⟩ := h.cpus
 have hj := (List.getElem?_eq_some_iff.1 hp).1
 have h16 := h.hcp
 obtain ⟨A, c, hv, hle, hC⟩ := h1.reads
 obtain ⟨ad, rfl, q0⟩ := pk_at hC j (by omega) p hp
 have s9 := h.c9
 rw [hv] at s9
 obtain ⟨n, hn⟩ : ∃ n, a.cps.length = n := ⟨_, rfl⟩
 rw [hn] at s9
 have j0 : (0 : Int) ≤ (j : Int) := by omega
 have jI : (j : Int) < (n : Int) := by omega
 have d0 : decide ((j : Int) < 0) = false := decide_eq_false (by omega)
 have d1 : decide (n ≤ j) = false := decide_eq_false (by omega)
 clear h h1 h2 hC hle hn hp h16 hv
 go_enter Tryz.func61, Tryz.ntmps61
 go_wp2_with fail
 go_ret2
 exact ⟨rfl, rfl⟩
theorem object_own (κ : Kol) (m : Nat) (a : Ad) (s : St) (x : Int) (hx : I64 x) (w : World) (h : MachK κ w m a s) :
 Calls Tryz.prog 64 #[.pointer (some ⟨m, 0, none⟩), .int .i64 x] w fun e w' => e = .returned (.tuple #[.int .i64 ((s.live x).getD 0), .int .i64 (if (s.live x).isSome = true then 0 else 6)]) ∧ w' = w := by
 obtain ⟨hk, D, ho, hv⟩ := h.live
 have s12 := h.c12
 have HO := ak ho
 have HX := ak hx
 have HV := ak hv
 have HH := ak ((hv x hx).1)
 clear h hk ho hv hx
 cases hl : s.live x with
 | none =>
  rw [hl] at HH
  go_enter Tryz.func64, Tryz.ntmps64
  go_wp2_with (at_lookup; refine wpList_lookup_own_ok_int _ rfl _ _ 127 rfl 3 3 .i64 int_law Tryz.underlying127 Tryz.underlying3 (zero_int _) a.lb s.ln D rfl HO.1 _ (.int .i64 x) rfl (keyOf_int_mk Tryz.underlying3 HX.1) ?_; intro c hat hwc; rw [HH.1]; obtain rfl := view_c HV.1 HX.1 hat; rw [hl]; clear hat hwc)
  go_ret2
  exact ⟨rfl, rfl⟩
 | some n =>
  rw [hl] at HH
  go_enter Tryz.func64, Tryz.ntmps64
  go_wp2_with (at_lookup; refine wpList_lookup_own_ok_int _ rfl _ _ 127 rfl 3 3 .i64 int_law Tryz.underlying127 Tryz.underlying3 (zero_int _) a.lb s.ln D rfl HO.1 _ (.int .i64 x) rfl (keyOf_int_mk Tryz.underlying3 HX.1) ?_; intro c hat hwc; rw [HH.1]; obtain rfl := view_c HV.1 HX.1 hat; rw [hl]; clear hat hwc)
  go_ret2
  exact ⟨rfl, rfl⟩
theorem zero_held (w : World) : (zeroValue 139).run Tryz.prog w = .ok (.pointer none) w := Tryz.zeroValue139 w
theorem MapP.look {κ : Kol} {i : Nat} {w : World} {b n : Nat} {f : Int → Option Nat} (h : MapP κ i w b n f) (x : Int) (hx : I64 x) :
 (Instr.lookup 126 (.map (some b)) (.int .i64 x) false).run Tryz.prog w = .ok (ptrV (f x)) w := by
 obtain ⟨hk, D, ho, hv⟩ := h
 obtain ⟨v, ps, hrun, hr⟩ := ho.lookup int_law Tryz.underlying126 (zero_held w) (show ptrElem (.pointer none) = some (.lit (.int .i64 (-1)), []) from rfl) (keyOf_int_mk Tryz.underlying3 hx)
 rw [hrun]
 rw [(hv x hx).2] at hr
 rcases ptr_inv hr with ⟨rfl, e⟩ | ⟨q, rfl, e⟩
 ·cases hf : f x with
  | none => rfl
  | some q => rw [hf] at e; simp [ptrI] at e
 ·cases hf : f x with
  | none => rw [hf] at e; simp [ptrI] at e
  | some q' =>
   rw [hf] at e
   have : q' = q := by simp [ptrI] at e; omega
   subst this
   rfl
theorem span_of (κ : Kol) (m : Nat) (a : Ad) (s : St) (x p : Nat) (y : Int) (hx : x ≤ 1000000) (hp : p < 4096) (ho : TS.ofR s.rs ((x / 64 : Nat) : Int) = ((p : Int), y, true)) (w : World) (h : MachK κ w m a s) (hd : Held) (hsp : s.sp p = some hd) :
 Calls Tryz.prog 91 #[.pointer (some ⟨m, 0, none⟩), .int .i64 x] w fun e w' => ∃ q, e = .returned (.pointer (some ⟨q, 0, none⟩)) ∧ HeldK κ w' q p hd ∧ RowKit.Below w.heap.size w w' := by
 have HOF := ak (space_of ((x / 64 : Nat) : Int) h.spc)
 rw [ho, show ((x / 64 : Nat) : Int) = (x : Int) / 64 from by omega] at HOF
 have HM := ak h
 have c6 := h.c6
 have hx0 : (0 : Int) ≤ (x : Int) := by omega
 have hx1 : (x : Int) ≤ 1000000 := by omega
 clear h ho
 go_enter Tryz.func91, Tryz.ntmps91
 go_upto_region 4 with (go_at_call 145; (with_reducible refine HOF.1.mono ?_); rintro e_ w1 ⟨rfl, hb⟩; have HB := ak hb; clear hb)
 have hm1 := HM.1.below HB.1
 obtain ⟨f, k1, k2, k3⟩ := hm1.sp
 obtain ⟨q1, hq1, hh⟩ := (k3 p).2 hd hsp
 have hlk := k1.look (p : Int) (i64o _ (by omega) (by omega))
 rw [hq1] at hlk
 have c11 := hm1.c11
 have HH := ak hh
 clear hm1 k1 k2 k3 hq1 hh c6
 go_wp2_with fail
 go_ret
 exact ⟨q1, rfl, HH.1, HB.1⟩
theorem MachK.cpuK {κ : Kol} {w : World} {m : Nat} {a : Ad} {s : St} (h : MachK κ w m a s) {j p : Nat} {c : Cpu} (hp : a.cps[j]? = some p) (hc : s.cpus[j]? = some c) : CpuK κ (150 + 6 * j) w p c := by
 obtain ⟨p', h1, h2⟩ := h.cpus.2.2 j c hc
 rw [hp] at h1
 obtain rfl := Option.some.inj h1
 exact h2
theorem CpuK.k0 {κ : Kol} {i : Nat} {w : World} {b : Nat} {c : Cpu} (h : CpuK κ i w b c) : w.cell? ⟨b, 0, none⟩ = some (.int .i64 c.node) := by obtain ⟨cb, h1, _⟩ := h; exact h1.blk.at 0 _ rfl
theorem CpuK.k1 {κ : Kol} {i : Nat} {w : World} {b : Nat} {c : Cpu} (h : CpuK κ i w b c) : w.cell? ⟨b, 1, none⟩ = some (.int .i64 c.mode) := by obtain ⟨cb, h1, _⟩ := h; exact h1.blk.at 1 _ rfl
theorem CpuK.k2 {κ : Kol} {i : Nat} {w : World} {b : Nat} {c : Cpu} (h : CpuK κ i w b c) : w.cell? ⟨b, 2, none⟩ = some (.int .u8 c.set) := by obtain ⟨cb, h1, _⟩ := h; exact h1.blk.at 2 _ rfl
theorem CpuK.k3 {κ : Kol} {i : Nat} {w : World} {b : Nat} {c : Cpu} (h : CpuK κ i w b c) : w.cell? ⟨b, 3, none⟩ = some (.int .i64 c.nd) := by obtain ⟨cb, h1, _⟩ := h; exact h1.blk.at 3 _ rfl
theorem CpuK.k4 {κ : Kol} {i : Nat} {w : World} {b : Nat} {c : Cpu} (h : CpuK κ i w b c) : w.cell? ⟨b, 4, none⟩ = some (.int .i64 c.cur) := by obtain ⟨cb, h1, _⟩ := h; exact h1.blk.at 4 _ rfl
theorem CpuK.f4 {κ : Kol} {i : Nat} {w : World} {b : Nat} {c : Cpu} (h : CpuK κ i w b c) : w.frozen? ⟨b, 4, none⟩ = false := by obtain ⟨cb, h1, _⟩ := h; exact h1.blk.fz 4
section
variable {κ κ1 : Kol} {w w1 : World} {m : Nat} {a : Ad} {s : St}
theorem MachK.putMem (h : MachK κ w m a s) (l : List Nat) (pn : Nat) (pf pg : Int → Option Int) (hk : MemK κ1 3 w1 a.mem s.f (s.n * s.f) l pn pf pg) (hU : Upd (fun z => 3 ≤ z ∧ z < 8) κ w κ1 w1) : MachK κ1 w1 m a { s with l := l, pn := pn, pf := pf, pg := pg } := by
 have hb := h.hbs
 have hc := h.hcp
 have hq := h.hqs
 exact ⟨h.box.upd hU (by omega), h.cs.upd hU (by omega), h.ds.upd hU (by omega), hk, h.lg.upd hU (fun c hc => by omega), h.bk.upd hU (by omega) (by omega), h.spc.upd hU (fun c hc => by omega), h.hp.upd hU (fun c hc => by omega), h.cpus.upd hU (by omega) (fun c hc1 hc2 => by omega), h.qs.upd hU (fun c hc1 hc2 => by omega), h.sp.upd hU (by omega) (fun c hc => by omega), h.live.upd hU (by omega), h.hbs, h.hcp, h.hqs⟩
theorem MachK.putLog (h : MachK κ w m a s) (ev : List Ev) (cn : List Int) (hk : LogK κ1 8 w1 a.lg s.n ev cn) (hU : Upd (fun z => 8 ≤ z ∧ z < 11) κ w κ1 w1) : MachK κ1 w1 m a { s with ev := ev, cn := cn } := by
 have hb := h.hbs
 have hc := h.hcp
 have hq := h.hqs
 exact ⟨h.box.upd hU (by omega), h.cs.upd hU (by omega), h.ds.upd hU (by omega), h.mem.upd hU (fun c hc => by omega), hk, h.bk.upd hU (by omega) (by omega), h.spc.upd hU (fun c hc => by omega), h.hp.upd hU (fun c hc => by omega), h.cpus.upd hU (by omega) (fun c hc1 hc2 => by omega), h.qs.upd hU (fun c hc1 hc2 => by omega), h.sp.upd hU (by omega) (fun c hc => by omega), h.live.upd hU (by omega), h.hbs, h.hcp, h.hqs⟩
theorem MachK.putSpc (h : MachK κ w m a s) (rs : List (Int × Int)) (hk : SpK κ1 13 w1 a.spc rs) (hU : Upd (fun z => z = 13 ∨ z = 13 + 1) κ w κ1 w1) : MachK κ1 w1 m a { s with rs := rs } := by
 have hb := h.hbs
 have hc := h.hcp
 have hq := h.hqs
 exact ⟨h.box.upd hU (by omega), h.cs.upd hU (by omega), h.ds.upd hU (by omega), h.mem.upd hU (fun c hc => by omega), h.lg.upd hU (fun c hc => by omega), h.bk.upd hU (by omega) (by omega), hk, h.hp.upd hU (fun c hc => by omega), h.cpus.upd hU (by omega) (fun c hc1 hc2 => by omega), h.qs.upd hU (fun c hc1 hc2 => by omega), h.sp.upd hU (by omega) (fun c hc => by omega), h.live.upd hU (by omega), h.hbs, h.hcp, h.hqs⟩
theorem MachK.putHeap (h : MachK κ w m a s) (bs : List Bud) (hlb : bs.length ≤ 8) (hk : HeapK κ1 16 w1 a.hp s.f s.mn s.lo s.hi bs) (hU : Upd (fun z => 16 ≤ z ∧ z < 124) κ w κ1 w1) : MachK κ1 w1 m a { s with bs := bs } := by
 have hb := h.hbs
 have hc := h.hcp
 have hq := h.hqs
 exact ⟨h.box.upd hU (by omega), h.cs.upd hU (by omega), h.ds.upd hU (by omega), h.mem.upd hU (fun c hc => by omega), h.lg.upd hU (fun c hc => by omega), h.bk.upd hU (by omega) (by omega), h.spc.upd hU (fun c hc => by omega), hk, h.cpus.upd hU (by omega) (fun c hc1 hc2 => by omega), h.qs.upd hU (fun c hc1 hc2 => by omega), h.sp.upd hU (by omega) (fun c hc => by omega), h.live.upd hU (by omega), hlb, h.hcp, h.hqs⟩
theorem MachK.putSpans (h : MachK κ w m a s) (sn : Nat) (sp : Nat → Option Held) (hk : SpansK κ1 w1 a.sb sn sp) (hU : Upd (fun z => z = 143 ∨ 1000 ≤ z) κ w κ1 w1) : MachK κ1 w1 m a { s with sn := sn, sp := sp } := by
 have hb := h.hbs
 have hc := h.hcp
 have hq := h.hqs
 exact ⟨h.box.upd hU (by omega), h.cs.upd hU (by omega), h.ds.upd hU (by omega), h.mem.upd hU (fun c hc => by omega), h.lg.upd hU (fun c hc => by omega), h.bk.upd hU (by omega) (by omega), h.spc.upd hU (fun c hc => by omega), h.hp.upd hU (fun c hc => by omega), h.cpus.upd hU (by omega) (fun c hc1 hc2 => by omega), h.qs.upd hU (fun c hc1 hc2 => by omega), hk, h.live.upd hU (by omega), h.hbs, h.hcp, h.hqs⟩
theorem MachK.putLive (h : MachK κ w m a s) (ln : Nat) (lv : Int → Option Int) (hk : MapI κ1 144 w1 a.lb ln lv) (hU : Upd (fun z => z = 144) κ w κ1 w1) : MachK κ1 w1 m a { s with ln := ln, live := lv } := by
 have hb := h.hbs
 have hc := h.hcp
 have hq := h.hqs
 exact ⟨h.box.upd hU (by omega), h.cs.upd hU (by omega), h.ds.upd hU (by omega), h.mem.upd hU (fun c hc => by omega), h.lg.upd hU (fun c hc => by omega), h.bk.upd hU (by omega) (by omega), h.spc.upd hU (fun c hc => by omega), h.hp.upd hU (fun c hc => by omega), h.cpus.upd hU (by omega) (fun c hc1 hc2 => by omega), h.qs.upd hU (fun c hc1 hc2 => by omega), h.sp.upd hU (by omega) (fun c hc => by omega), hk, h.hbs, h.hcp, h.hqs⟩
theorem MachK.putCpu (h : MachK κ w m a s) {j p : Nat} {c c' : Cpu} (hp : a.cps[j]? = some p) (hj : s.cpus[j]? = some c) (hk : CpuK κ1 (150 + 6 * j) w1 p c') (hU : Upd (fun z => 150 + 6 * j ≤ z ∧ z < 156 + 6 * j) κ w κ1 w1) : MachK κ1 w1 m a { s with cpus := s.cpus.set j c' } := by
 have hb := h.hbs
 have hc := h.hcp
 have hq := h.hqs
 have hjl := (List.getElem?_eq_some_iff.1 hj).1
 have hcp : CpusK κ1 w1 a.cv a.cps (s.cpus.set j c') := by
  obtain ⟨k1, k2, k3⟩ := h.cpus
  refine ⟨k1.upd hU (by omega), by rw [List.length_set]; exact k2, fun q x hx => ?_⟩
  rw [List.getElem?_set] at hx
  split at hx
  ·rename_i e
   subst e
   obtain rfl := Option.some.inj hx
   exact ⟨p, hp, hk⟩
  ·rename_i e
   obtain ⟨p', hp', hb'⟩ := k3 q x hx
   exact ⟨p', hp', hb'.upd hU (fun c hc => by omega)⟩
 exact ⟨h.box.upd hU (by omega), h.cs.upd hU (by omega), h.ds.upd hU (by omega), h.mem.upd hU (fun c hc => by omega), h.lg.upd hU (fun c hc => by omega), h.bk.upd hU (by omega) (by omega), h.spc.upd hU (fun c hc => by omega), h.hp.upd hU (fun c hc => by omega), hcp, h.qs.upd hU (fun c hc1 hc2 => by omega), h.sp.upd hU (by omega) (fun c hc => by omega), h.live.upd hU (by omega), h.hbs, by rw [List.length_set]; exact h.hcp, h.hqs⟩
end
end Go.Proofs.YtenkdmloolbdaaaGreatDoor.T
end
