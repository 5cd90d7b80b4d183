/- A machine's CPUs, objects and spans, looked up. -/
import Derived.Test.YtenkdmloolbdaaaGreatDoorV22
section
namespace Go.Proofs.YtenkdmloolbdaaaGreatDoor.T
open Go.RowKit Go.Maps Go.WideShapes Go.Proofs.YtenkdmloolbdaaaGreatDoorW.PrintWords Go.Proofs.YtenkdmloolbdaaaGreatDoorW.PrintLast Go.Proofs.YtenkdmloolbdaaaGreatDoorW.PrintMore
set_option linter.unusedVariables false
set_option linter.unusedSimpArgs false
section
variable {κ : Kol} {w : World} {m : Nat} {a : Ad} {s : St}
theorem MachK.c0 (h : MachK κ w m a s) : w.cell? ⟨m, 0, none⟩ = some (.int .i64 s.n) := h.box.blk.at 0 _ rfl
theorem MachK.c1 (h : MachK κ w m a s) : w.cell? ⟨m, 1, none⟩ = some (.int .i64 s.f) := h.box.blk.at 1 _ rfl
theorem MachK.c2 (h : MachK κ w m a s) : w.cell? ⟨m, 2, none⟩ = some (.slice a.A s.cs.length a.ca) := h.box.blk.at 2 _ rfl
theorem MachK.c3 (h : MachK κ w m a s) : w.cell? ⟨m, 3, none⟩ = some (.slice a.B s.ds.length a.cb) := h.box.blk.at 3 _ rfl
theorem MachK.c4 (h : MachK κ w m a s) : w.cell? ⟨m, 4, none⟩ = some (.pointer (some ⟨a.mem, 0, none⟩)) := h.box.blk.at 4 _ rfl
theorem MachK.c5 (h : MachK κ w m a s) : w.cell? ⟨m, 5, none⟩ = some (.pointer (some ⟨a.hp, 0, none⟩)) := h.box.blk.at 5 _ rfl
theorem MachK.c6 (h : MachK κ w m a s) : w.cell? ⟨m, 6, none⟩ = some (.pointer (some ⟨a.spc, 0, none⟩)) := h.box.blk.at 6 _ rfl
theorem MachK.c8 (h : MachK κ w m a s) : w.cell? ⟨m, 8, none⟩ = some (.pointer (some ⟨a.lg, 0, none⟩)) := h.box.blk.at 8 _ rfl
theorem MachK.c9 (h : MachK κ w m a s) : w.cell? ⟨m, 9, none⟩ = some a.cv := h.box.blk.at 9 _ rfl
theorem MachK.c10 (h : MachK κ w m a s) : w.cell? ⟨m, 10, none⟩ = some a.qv := h.box.blk.at 10 _ rfl
theorem MachK.c11 (h : MachK κ w m a s) : w.cell? ⟨m, 11, none⟩ = some (.map (some a.sb)) := h.box.blk.at 11 _ rfl
theorem MachK.c12 (h : MachK κ w m a s) : w.cell? ⟨m, 12, none⟩ = some (.map (some a.lb)) := h.box.blk.at 12 _ rfl
end
set_option maxHeartbeats 1000000 in
set_option maxRecDepth 100000 in
theorem cpu_own (κ : Kol) (m : Nat) (a : Ad) (s : St) (j p : Nat) (hp : a.cps[j]? = some p) (w : World) (h : MachK κ w m a s) :
    Calls Tryz.prog 61 #[.pointer (some ⟨m, 0, none⟩), .int .i64 j] w fun e w' => e = .returned (.tuple #[.pointer (some ⟨p, 0, none⟩), .int .i64 0]) ∧ w' = w := by
  obtain ⟨h1, h2, _⟩ := h.cpus
  have hj := (List.getElem?_eq_some_iff.1 hp).1
  have h16 := h.hcp
  obtain ⟨A, c, hv, hle, hC⟩ := h1.reads
  obtain ⟨ad, rfl, q0⟩ := pk_at hC j (by omega) p hp
  have s9 := h.c9
  rw [hv] at s9
  obtain ⟨n, hn⟩ : ∃ n, a.cps.length = n := ⟨_, rfl⟩
  rw [hn] at s9
  have j0 : (0 : Int) ≤ (j : Int) := by omega
  have jI : (j : Int) < (n : Int) := by omega
  have d0 : decide ((j : Int) < 0) = false := decide_eq_false (by omega)
  have d1 : decide (n ≤ j) = false := decide_eq_false (by omega)
  clear h h1 h2 hC hle hn hp h16 hv
  go_enter Tryz.func61, Tryz.ntmps61
  go_wp2_with fail
  go_ret2
  exact ⟨rfl, rfl⟩
set_option maxHeartbeats 1000000 in
set_option maxRecDepth 100000 in
theorem object_own (κ : Kol) (m : Nat) (a : Ad) (s : St) (x : Int) (hx : I64 x) (w : World) (h : MachK κ w m a s) :
    Calls Tryz.prog 64 #[.pointer (some ⟨m, 0, none⟩), .int .i64 x] w fun e w' => e = .returned (.tuple #[.int .i64 ((s.live x).getD 0), .int .i64 (if (s.live x).isSome = true then 0 else 6)]) ∧ w' = w := by
  obtain ⟨hk, D, ho, hv⟩ := h.live
  have s12 := h.c12
  have HO := Aside0.mk ho
  have HX := Aside0.mk hx
  have HV := Aside0.mk hv
  have HH := Aside0.mk ((hv x hx).1)
  clear h hk ho hv hx
  cases hl : s.live x with
  | none =>
    rw [hl] at HH
    go_enter Tryz.func64, Tryz.ntmps64
    go_wp2_with (at_lookup; refine wpList_lookup_own_ok_int _ rfl _ _ 127 rfl 3 3 .i64 int_law Tryz.underlying127 Tryz.underlying3 (zero_int _) a.lb s.ln D rfl HO.out _ (.int .i64 x) rfl (keyOf_int_mk Tryz.underlying3 HX.out) ?_; intro c hat hwc; rw [HH.out]; obtain rfl := view_c HV.out HX.out hat; rw [hl]; clear hat hwc)
    go_ret2
    exact ⟨rfl, rfl⟩
  | some n =>
    rw [hl] at HH
    go_enter Tryz.func64, Tryz.ntmps64
    go_wp2_with (at_lookup; refine wpList_lookup_own_ok_int _ rfl _ _ 127 rfl 3 3 .i64 int_law Tryz.underlying127 Tryz.underlying3 (zero_int _) a.lb s.ln D rfl HO.out _ (.int .i64 x) rfl (keyOf_int_mk Tryz.underlying3 HX.out) ?_; intro c hat hwc; rw [HH.out]; obtain rfl := view_c HV.out HX.out hat; rw [hl]; clear hat hwc)
    go_ret2
    exact ⟨rfl, rfl⟩
theorem zero_held (w : World) : (zeroValue 139).run Tryz.prog w = .ok (.pointer none) w := Tryz.zeroValue139 w
/-- A pointer looked up in a map. -/
theorem MapP.look {κ : Kol} {i : Nat} {w : World} {b n : Nat} {f : Int → Option Nat} (h : MapP κ i w b n f) (x : Int) (hx : I64 x) :
    (Instr.lookup 126 (.map (some b)) (.int .i64 x) false).run Tryz.prog w = .ok (ptrV (f x)) w := by
  obtain ⟨hk, D, ho, hv⟩ := h
  obtain ⟨v, ps, hrun, hr⟩ := ho.lookup int_law Tryz.underlying126 (zero_held w) (show ptrElem (.pointer none) = some (.lit (.int .i64 (-1)), []) from rfl) (keyOf_int_mk Tryz.underlying3 hx)
  rw [hrun]
  rw [(hv x hx).2] at hr
  rcases ptr_inv hr with ⟨rfl, e⟩ | ⟨q, rfl, e⟩
  · cases hf : f x with
    | none => rfl
    | some q => rw [hf] at e; simp [ptrI] at e
  · cases hf : f x with
    | none => rw [hf] at e; simp [ptrI] at e
    | some q' =>
      rw [hf] at e
      have : q' = q := by simp [ptrI] at e; omega
      subst this
      rfl
set_option maxHeartbeats 1000000 in
set_option maxRecDepth 100000 in
/-- The span of an address within a run. -/
theorem span_of (κ : Kol) (m : Nat) (a : Ad) (s : St) (x p : Nat) (y : Int) (hx : x ≤ 1000000) (hp : p < 4096) (ho : TS.ofR s.rs ((x / 64 : Nat) : Int) = ((p : Int), y, true)) (w : World) (h : MachK κ w m a s) (hd : Held) (hsp : s.sp p = some hd) :
    Calls Tryz.prog 91 #[.pointer (some ⟨m, 0, none⟩), .int .i64 x] w fun e w' => ∃ q, e = .returned (.pointer (some ⟨q, 0, none⟩)) ∧ HeldK κ w' q p hd ∧ RowKit.Below w.heap.size w w' := by
  have HOF := Aside0.mk (space_of ((x / 64 : Nat) : Int) h.spc)
  rw [ho, show ((x / 64 : Nat) : Int) = (x : Int) / 64 from by omega] at HOF
  have HM := Aside0.mk h
  have c6 := h.c6
  have hx0 : (0 : Int) ≤ (x : Int) := by omega
  have hx1 : (x : Int) ≤ 1000000 := by omega
  clear h ho
  go_enter Tryz.func91, Tryz.ntmps91
  go_upto_region 4 with (go_at_call 145; (with_reducible refine HOF.out.mono ?_); rintro e_ w1 ⟨rfl, hb⟩; have HB := Aside0.mk hb; clear hb)
  have hm1 := HM.out.below HB.out
  obtain ⟨f, k1, k2, k3⟩ := hm1.sp
  obtain ⟨q1, hq1, hh⟩ := (k3 p).2 hd hsp
  have hlk := k1.look (p : Int) (i64o _ (by omega) (by omega))
  rw [hq1] at hlk
  have c11 := hm1.c11
  have HH := Aside0.mk hh
  clear hm1 k1 k2 k3 hq1 hh c6
  go_wp2_with fail
  go_ret
  exact ⟨q1, rfl, HH.out, HB.out⟩
end Go.Proofs.YtenkdmloolbdaaaGreatDoor.T
end
