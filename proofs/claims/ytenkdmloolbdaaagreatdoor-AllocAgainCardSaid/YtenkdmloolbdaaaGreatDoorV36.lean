/- A machine, one of its parts anew. -/
import Derived.Test.YtenkdmloolbdaaaGreatDoorV23
section
namespace Go.Proofs.YtenkdmloolbdaaaGreatDoor.T
open Go.RowKit Go.Maps Go.WideShapes Go.Proofs.YtenkdmloolbdaaaGreatDoorW.PrintWords Go.Proofs.YtenkdmloolbdaaaGreatDoorW.PrintLast Go.Proofs.YtenkdmloolbdaaaGreatDoorW.PrintMore
set_option linter.unusedVariables false
set_option linter.unusedSimpArgs false
theorem MachK.cpuK {κ : Kol} {w : World} {m : Nat} {a : Ad} {s : St} (h : MachK κ w m a s) {j p : Nat} {c : Cpu} (hp : a.cps[j]? = some p) (hc : s.cpus[j]? = some c) : CpuK κ (150 + 6 * j) w p c := by
  obtain ⟨p', h1, h2⟩ := h.cpus.2.2 j c hc
  rw [hp] at h1
  obtain rfl := Option.some.inj h1
  exact h2
theorem CpuK.k0 {κ : Kol} {i : Nat} {w : World} {b : Nat} {c : Cpu} (h : CpuK κ i w b c) : w.cell? ⟨b, 0, none⟩ = some (.int .i64 c.node) := by obtain ⟨cb, h1, _⟩ := h; exact h1.blk.at 0 _ rfl
theorem CpuK.k1 {κ : Kol} {i : Nat} {w : World} {b : Nat} {c : Cpu} (h : CpuK κ i w b c) : w.cell? ⟨b, 1, none⟩ = some (.int .i64 c.mode) := by obtain ⟨cb, h1, _⟩ := h; exact h1.blk.at 1 _ rfl
theorem CpuK.k2 {κ : Kol} {i : Nat} {w : World} {b : Nat} {c : Cpu} (h : CpuK κ i w b c) : w.cell? ⟨b, 2, none⟩ = some (.int .u8 c.set) := by obtain ⟨cb, h1, _⟩ := h; exact h1.blk.at 2 _ rfl
theorem CpuK.k3 {κ : Kol} {i : Nat} {w : World} {b : Nat} {c : Cpu} (h : CpuK κ i w b c) : w.cell? ⟨b, 3, none⟩ = some (.int .i64 c.nd) := by obtain ⟨cb, h1, _⟩ := h; exact h1.blk.at 3 _ rfl
theorem CpuK.k4 {κ : Kol} {i : Nat} {w : World} {b : Nat} {c : Cpu} (h : CpuK κ i w b c) : w.cell? ⟨b, 4, none⟩ = some (.int .i64 c.cur) := by obtain ⟨cb, h1, _⟩ := h; exact h1.blk.at 4 _ rfl
theorem CpuK.f4 {κ : Kol} {i : Nat} {w : World} {b : Nat} {c : Cpu} (h : CpuK κ i w b c) : w.frozen? ⟨b, 4, none⟩ = false := by obtain ⟨cb, h1, _⟩ := h; exact h1.blk.fz 4
section
variable {κ κ1 : Kol} {w w1 : World} {m : Nat} {a : Ad} {s : St}
theorem MachK.putMem (h : MachK κ w m a s) (l : List Nat) (pn : Nat) (pf pg : Int → Option Int) (hk : MemK κ1 3 w1 a.mem s.f (s.n * s.f) l pn pf pg) (hU : Upd (fun z => 3 ≤ z ∧ z < 8) κ w κ1 w1) : MachK κ1 w1 m a { s with l := l, pn := pn, pf := pf, pg := pg } := by
  have hb := h.hbs
  have hc := h.hcp
  have hq := h.hqs
  exact ⟨h.box.upd hU (by omega), h.cs.upd hU (by omega), h.ds.upd hU (by omega), hk, h.lg.upd hU (fun c hc => by omega), h.bk.upd hU (by omega) (by omega), h.spc.upd hU (fun c hc => by omega), h.hp.upd hU (fun c hc => by omega), h.cpus.upd hU (by omega) (fun c hc1 hc2 => by omega), h.qs.upd hU (fun c hc1 hc2 => by omega), h.sp.upd hU (by omega) (fun c hc => by omega), h.live.upd hU (by omega), h.hbs, h.hcp, h.hqs⟩
theorem MachK.putLog (h : MachK κ w m a s) (ev : List Ev) (cn : List Int) (hk : LogK κ1 8 w1 a.lg s.n ev cn) (hU : Upd (fun z => 8 ≤ z ∧ z < 11) κ w κ1 w1) : MachK κ1 w1 m a { s with ev := ev, cn := cn } := by
  have hb := h.hbs
  have hc := h.hcp
  have hq := h.hqs
  exact ⟨h.box.upd hU (by omega), h.cs.upd hU (by omega), h.ds.upd hU (by omega), h.mem.upd hU (fun c hc => by omega), hk, h.bk.upd hU (by omega) (by omega), h.spc.upd hU (fun c hc => by omega), h.hp.upd hU (fun c hc => by omega), h.cpus.upd hU (by omega) (fun c hc1 hc2 => by omega), h.qs.upd hU (fun c hc1 hc2 => by omega), h.sp.upd hU (by omega) (fun c hc => by omega), h.live.upd hU (by omega), h.hbs, h.hcp, h.hqs⟩
theorem MachK.putSpc (h : MachK κ w m a s) (rs : List (Int × Int)) (hk : SpK κ1 13 w1 a.spc rs) (hU : Upd (fun z => z = 13 ∨ z = 13 + 1) κ w κ1 w1) : MachK κ1 w1 m a { s with rs := rs } := by
  have hb := h.hbs
  have hc := h.hcp
  have hq := h.hqs
  exact ⟨h.box.upd hU (by omega), h.cs.upd hU (by omega), h.ds.upd hU (by omega), h.mem.upd hU (fun c hc => by omega), h.lg.upd hU (fun c hc => by omega), h.bk.upd hU (by omega) (by omega), hk, h.hp.upd hU (fun c hc => by omega), h.cpus.upd hU (by omega) (fun c hc1 hc2 => by omega), h.qs.upd hU (fun c hc1 hc2 => by omega), h.sp.upd hU (by omega) (fun c hc => by omega), h.live.upd hU (by omega), h.hbs, h.hcp, h.hqs⟩
theorem MachK.putHeap (h : MachK κ w m a s) (bs : List Bud) (hlb : bs.length ≤ 8) (hk : HeapK κ1 16 w1 a.hp s.f s.mn s.lo s.hi bs) (hU : Upd (fun z => 16 ≤ z ∧ z < 124) κ w κ1 w1) : MachK κ1 w1 m a { s with bs := bs } := by
  have hb := h.hbs
  have hc := h.hcp
  have hq := h.hqs
  exact ⟨h.box.upd hU (by omega), h.cs.upd hU (by omega), h.ds.upd hU (by omega), h.mem.upd hU (fun c hc => by omega), h.lg.upd hU (fun c hc => by omega), h.bk.upd hU (by omega) (by omega), h.spc.upd hU (fun c hc => by omega), hk, h.cpus.upd hU (by omega) (fun c hc1 hc2 => by omega), h.qs.upd hU (fun c hc1 hc2 => by omega), h.sp.upd hU (by omega) (fun c hc => by omega), h.live.upd hU (by omega), hlb, h.hcp, h.hqs⟩
theorem MachK.putSpans (h : MachK κ w m a s) (sn : Nat) (sp : Nat → Option Held) (hk : SpansK κ1 w1 a.sb sn sp) (hU : Upd (fun z => z = 143 ∨ 1000 ≤ z) κ w κ1 w1) : MachK κ1 w1 m a { s with sn := sn, sp := sp } := by
  have hb := h.hbs
  have hc := h.hcp
  have hq := h.hqs
  exact ⟨h.box.upd hU (by omega), h.cs.upd hU (by omega), h.ds.upd hU (by omega), h.mem.upd hU (fun c hc => by omega), h.lg.upd hU (fun c hc => by omega), h.bk.upd hU (by omega) (by omega), h.spc.upd hU (fun c hc => by omega), h.hp.upd hU (fun c hc => by omega), h.cpus.upd hU (by omega) (fun c hc1 hc2 => by omega), h.qs.upd hU (fun c hc1 hc2 => by omega), hk, h.live.upd hU (by omega), h.hbs, h.hcp, h.hqs⟩
theorem MachK.putLive (h : MachK κ w m a s) (ln : Nat) (lv : Int → Option Int) (hk : MapI κ1 144 w1 a.lb ln lv) (hU : Upd (fun z => z = 144) κ w κ1 w1) : MachK κ1 w1 m a { s with ln := ln, live := lv } := by
  have hb := h.hbs
  have hc := h.hcp
  have hq := h.hqs
  exact ⟨h.box.upd hU (by omega), h.cs.upd hU (by omega), h.ds.upd hU (by omega), h.mem.upd hU (fun c hc => by omega), h.lg.upd hU (fun c hc => by omega), h.bk.upd hU (by omega) (by omega), h.spc.upd hU (fun c hc => by omega), h.hp.upd hU (fun c hc => by omega), h.cpus.upd hU (by omega) (fun c hc1 hc2 => by omega), h.qs.upd hU (fun c hc1 hc2 => by omega), h.sp.upd hU (by omega) (fun c hc => by omega), hk, h.hbs, h.hcp, h.hqs⟩
theorem MachK.putCpu (h : MachK κ w m a s) {j p : Nat} {c c' : Cpu} (hp : a.cps[j]? = some p) (hj : s.cpus[j]? = some c) (hk : CpuK κ1 (150 + 6 * j) w1 p c') (hU : Upd (fun z => 150 + 6 * j ≤ z ∧ z < 156 + 6 * j) κ w κ1 w1) : MachK κ1 w1 m a { s with cpus := s.cpus.set j c' } := by
  have hb := h.hbs
  have hc := h.hcp
  have hq := h.hqs
  have hjl := (List.getElem?_eq_some_iff.1 hj).1
  have hcp : CpusK κ1 w1 a.cv a.cps (s.cpus.set j c') := by
    obtain ⟨k1, k2, k3⟩ := h.cpus
    refine ⟨k1.upd hU (by omega), by rw [List.length_set]; exact k2, fun q x hx => ?_⟩
    rw [List.getElem?_set] at hx
    split at hx
    · rename_i e
      subst e
      obtain rfl := Option.some.inj hx
      exact ⟨p, hp, hk⟩
    · rename_i e
      obtain ⟨p', hp', hb'⟩ := k3 q x hx
      exact ⟨p', hp', hb'.upd hU (fun c hc => by omega)⟩
  exact ⟨h.box.upd hU (by omega), h.cs.upd hU (by omega), h.ds.upd hU (by omega), h.mem.upd hU (fun c hc => by omega), h.lg.upd hU (fun c hc => by omega), h.bk.upd hU (by omega) (by omega), h.spc.upd hU (fun c hc => by omega), h.hp.upd hU (fun c hc => by omega), hcp, h.qs.upd hU (fun c hc1 hc2 => by omega), h.sp.upd hU (by omega) (fun c hc => by omega), h.live.upd hU (by omega), h.hbs, by rw [List.length_set]; exact h.hcp, h.hqs⟩
end
end Go.Proofs.YtenkdmloolbdaaaGreatDoor.T
end
