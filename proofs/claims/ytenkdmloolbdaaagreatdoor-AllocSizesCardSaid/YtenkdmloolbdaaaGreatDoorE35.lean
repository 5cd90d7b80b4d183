import Derived.Test.YtenkdmloolbdaaaGreatDoorE33
import Derived.Test.YtenkdmloolbdaaaGreatDoorE34
set_option linter.unusedVariables false
set_option linter.unusedSimpArgs false
set_option maxHeartbeats 8000000
set_option maxRecDepth 100000
section
namespace Go.Proofs.YtenkdmloolbdaaaGreatDoor.T
open Go.RowKit Go.Maps Go.WideShapes Go.Proofs.YtenkdmloolbdaaaGreatDoorW.PrintWords Go.Proofs.YtenkdmloolbdaaaGreatDoorW.PrintLast Go.Proofs.YtenkdmloolbdaaaGreatDoorW.PrintMore
def findP (s : St) (x : Int) : Option (Nat × Held) := match TS.ofR s.rs (x / 64) with
 | (p, _, true) => (s.sp p.toNat).map fun h => (p.toNat, h)
 | _ => none
def backA (s : St) (x : Int) : St := match findP s x with
 | some (p, hd) => backS s p hd ((x - 64 * p).toNat / clS hd.cls)
 | none => s
theorem tk_lt {c tk : Nat} (hc : c < 4) (h : tk < 2 ^ clN c) : tk < 256 := Nat.lt_of_lt_of_le h (Nat.pow_le_pow_right (by decide) (cln_le c hc))
theorem backA_at {s : St} (h : FrI s) {p i : Nat} {hd : Held} (hp : s.sp p = some hd) (hi : i < clN hd.cls) : backA s (plc p hd.cls i) = backS s p hd i := by
 have ho := h.of hp hi
 have hc := (h.spn p hd hp).1
 have h1 := (cls_mul _ hc).2.1
 unfold backA findP
 rw [ho]
 simp only [Int.toNat_natCast, hp, Option.map_some]
 congr 1
 unfold plc
 rw [show (((64 * p + i * clS hd.cls : Nat) : Int) - 64 * (p : Int)).toNat = i * clS hd.cls from by omega]
 exact Nat.mul_div_cancel _ (by omega)
theorem Mi.back1 {E t : Nat} {s : St} {H : List Int} {x : Int} (h : Mi E t s (x :: H)) (m : Nat) (a : Ad) : Mi E t (backA s x) H ∧ Do 98 #[.pointer (some ⟨m, 0, none⟩), .int .i64 x] m a s (backA s x) (.tuple #[]) := by
 obtain ⟨c, hs⟩ := h.hand List.mem_cons_self
 obtain ⟨p, hd, i, h1, h2, rfl, h4, h5, h6⟩ := hs.at h.fr
 have hcl := (h.fr.spn p hd h1).1
 rw [backA_at h.fr h1 h2]
 refine ⟨h.give h1 h2, back_own m a s p i hd ((2 ^ clO hd.cls : Nat) : Int) h1 hcl (tk_lt hcl (h.ob.tk p hd h1)) h2 h4 (by have := h.fr.page h1; have := Nat.two_pow_pos (clO hd.cls); omega) ?_⟩
 rw [← h6]
 unfold plc
 congr 1
def RdI (κ : Kol) (w : World) (A : Option Addr) (l : List Int) : Prop := ∀ κ' w', Upd (fun z => 1 ≤ z) κ w κ' w' → (Kd.int .i64).C w' A l.length l
theorem RdI.row {κ : Kol} {w : World} {base e : Nat} {A : Option Addr} {n c : Nat} {l : List Int} (h : Kd.R (Kd.int .i64) e w base (fun _ => True) (.slice A n c) l) (hk : ∀ b, base ≤ b → κ b = 0) : RdI κ w A l := fun κ' w' hU => by
 obtain ⟨A', c', e1, _, h2⟩ := Kd.R_reads (row_keep h hk hU (by omega))
 injection e1 with e1 _ _
 subst e1
 exact h2
def RelBk (κ : Kol) (w : World) (m : Nat) (a : Ad) (s : St) (l : List Int) (v9 : Value) (wr : World) : Prop :=
 ∃ (i : Nat) (κ' : Kol), v9 = .int .i64 i ∧ i ≤ l.length ∧ MachK κ' wr m a ((l.take i).foldl backA s) ∧ Upd (fun z => 1 ≤ z) κ w κ' wr
theorem Mi.backs {E t : Nat} {s : St} {H : List Int} : ∀ {l : List Int}, Mi E t s (l ++ H) → Mi E t (l.foldl backA s) H
 | [], h => h
 | x :: l, h => Mi.backs (l := l) (s := backA s x) (h.back1 0 ⟨none, 0, none, 0, 0, 0, 0, 0, 0, .int .i64 0, [], .int .i64 0, [], 0, 0⟩).1
theorem backs_own (E t : Nat) (H : List Int) (m : Nat) (a : Ad) (s : St) (l : List Int) (hl : l.length ≤ 1000) (hI : Mi E t s (l ++ H)) (κ : Kol) (w : World) (hg : GlobK κ w) (h : MachK κ w m a s) (A : Option Addr) (c : Nat) (hr : RdI κ w A l) :
 Calls Tryz.prog 68 #[.pointer (some ⟨m, 0, none⟩), .slice A l.length c] w fun e w' => e = .returned (.int .i64 (l.length : Int)) ∧ ∃ κ', MachK κ' w' m a (l.foldl backA s) ∧ Upd (fun z => 1 ≤ z) κ w κ' w' := by
 have H0 := ak (show RelBk κ w m a s l (.int .i64 0) w from ⟨0, κ, rfl, Nat.zero_le _, h, Upd.refl _ _ _⟩)
 have HI := ak hI
 have HG := ak hg
 have HR := ak hr
 obtain ⟨n, hn⟩ : ∃ n, l.length = n := ⟨_, rfl⟩
 rw [hn] at hl ⊢
 have HN := ak hn
 clear hI hg h hr hn
 go_enter Tryz.func68, Tryz.ntmps68
 go_wp2_with fail
 go_loopw [6, 9] (fun _ v9 wr => RelBk κ w m a s l v9 wr) (fun _ v9 _ => n - (RowKit.intOf v9).toNat)
 case atStart => exact H0.1
 case round =>
  clear H0
  obtain ⟨i, κ', rfl, hi, hM, hU⟩ := hrel
  rw [HN.1] at hi
  have HM := ak hM
  have HU := ak hU
  clear hM hU
  by_cases hlt : i < n
  ·have jI : (i : Int) < (n : Int) := by omega
   have j0 : (0 : Int) ≤ (i : Int) := by omega
   obtain ⟨x, hx⟩ : ∃ x, l[i]? = some x := ⟨_, List.getElem?_eq_getElem (by rw [HN.1]; exact hlt)⟩
   have hil : i < l.length := by rw [HN.1]; exact hlt
   have hMi : Mi E t ((l.take i).foldl backA s) (x :: (l.drop (i + 1) ++ H)) := by
    have h1 := HI.1
    rw [show l ++ H = l.take i ++ (x :: (l.drop (i + 1) ++ H)) from by
     rw [← List.cons_append, ← List.append_assoc]
     congr 1
     have h2 := List.getElem?_eq_some_iff.1 hx
     rw [← h2.2, ← List.drop_eq_getElem_cons hil, List.take_append_drop]] at h1
    exact h1.backs
   obtain ⟨g, off, rfl, hrd⟩ := TZ.reads_plain (HR.1 _ _ HU.1) (by rw [HN.1]; omega)
   have hcx := hrd i hil
   have hx2 : rd l (i : Int) = x := by
    unfold rd
    simp [hx]
   rw [hx2] at hcx
   have HDO := ak ((hMi.back1 m a).2 κ' wr (HG.1.upd HU.1 (by omega)) HM.1)
   have HX := ak hx
   clear hrd hMi hx hx2 hil
   go_wp2_with (go_at_call 98; (with_reducible refine HDO.1.mono ?_); rintro e_ w1 ⟨rfl, κ1, q1, q2⟩; have HM1 := ak q1; have HU1 := ak q2; clear q1 q2 hcx)
   refine ⟨⟨i + 1, κ1, by simp, by rw [HN.1]; omega, ?_, HU.1.then HU1.1 (fun _ e => e)⟩, by simp only [RowKit.intOf]; omega⟩
   rw [List.take_add_one, HX.1]
   simpa using HM1.1
  ·obtain rfl : i = n := by omega
   go_wp2_with fail
   go_ret
   have := HM.1
   rw [List.take_of_length_le (by rw [HN.1]; exact Nat.le_refl _)] at this
   exact ⟨rfl, κ', this, HU.1⟩
def emptS (s : St) (j : Nat) (c : Cpu) : St := { s with cpus := s.cpus.set j { c with L := upL c.L 4 } }
def flushS (s : St) (j : Nat) (c : Cpu) : St := (flL c.L 4).foldl backA (emptS s j c)
theorem Mi.empt {E t : Nat} {s : St} {H : List Int} (h : Mi E t s H) {j : Nat} {c : Cpu} (hc : s.cpus[j]? = some c) : Mi E t (emptS s j c) (flL c.L 4 ++ H) := by
 refine h.cpu hc rfl (h.co.cpu j c hc).2 ?_ (fun k hk => ?_)
 ·show (cpuL { c with L := upL c.L 4 } ++ (flL c.L 4 ++ H)).Perm (cpuL c ++ H)
  refine List.perm_iff_count.2 (fun a => ?_)
  simp [cpuL, upL, flL, List.count_append]
 ·simp only [upL, if_pos hk]
  exact ⟨by simp, fun x hx => by cases hx⟩
theorem Mi.flush {E t : Nat} {s : St} {H : List Int} (h : Mi E t s H) {j : Nat} {c : Cpu} (hc : s.cpus[j]? = some c) : Mi E t (flushS s j c) H := (h.empt hc).backs
theorem Mi.fl32 {E t : Nat} {s : St} {H : List Int} (h : Mi E t s H) {j : Nat} {c : Cpu} (hc : s.cpus[j]? = some c) : (flL c.L 4).length ≤ 32 := flL_len c.L (fun k hk => h.ob.clen j c k hc hk) 4 (by decide)
theorem flush_own (E t : Nat) (H : List Int) (m : Nat) (a : Ad) (s : St) (j p : Nat) (c : Cpu) (hp : a.cps[j]? = some p) (hc : s.cpus[j]? = some c) (hI : Mi E t s H) :
 Do 42 #[.pointer (some ⟨m, 0, none⟩), .int .i64 j] m a s (flushS s j c) (.tuple #[.int .i64 ((flL c.L 4).length : Int), .int .i64 0]) := by
 intro κ w hg h
 have HC := ak (cpu_own κ m a s j p hp w h)
 obtain ⟨cb, k1, k2⟩ := h.cpuK hp hc
 have HCA := ak (cache_all κ (150 + 6 * j + 1) cb (by omega) c.L (fun k hk => hI.ob.clen j c k hc hk) w k2)
 have s5 := k1.blk.at 5 (.pointer (some ⟨cb, 0, none⟩)) rfl
 have HK1 := ak k1
 have HM := ak h
 have HG := ak hg
 have HI := ak (hI.empt hc)
 have HX := ak (And.intro hp hc)
 have HL := ak (hI.fl32 hc)
 clear h hg k1 k2 hI hp hc
 go_enter Tryz.func42, Tryz.ntmps42
 go_wp2_with (first | (go_at_call 61; (with_reducible refine HC.1.mono ?_); rintro e_ w1 ⟨rfl, hw1⟩; have hw1 := hw1.symm; subst hw1) | (go_at_call 94; (with_reducible refine HCA.1.mono ?_); rintro e_ w2 ⟨v2, κ2, rfl, q1, q2, q3, q4⟩; obtain ⟨A2, c2, rfl, _, _⟩ := Kd.R_reads q1; have HM2 := ak (HM.1.putCpu (c' := { c with L := upL c.L 4 }) HX.1.1 HX.1.2 ⟨cb, HK1.1.upd q4 (by omega), q2⟩ (q4.mono (fun c e => by omega))); have HU2 := ak (q4.mono (J := fun z => 1 ≤ z) (fun c e => by omega)); have HBK := ak (backs_own E t H m a (emptS s j c) (flL c.L 4) (by have := HL.1; omega) HI.1 κ2 w2 (HG.1.upd HU2.1 (by omega)) HM2.1 A2 c2 (RdI.row q1 q3)); clear q1 q2 q3 q4 s5) | (go_at_call 68; (with_reducible refine HBK.1.mono ?_); rintro e_ w3 ⟨rfl, κ3, q1, q2⟩; have HM3 := ak q1; have HU3 := ak q2; clear q1 q2))
 go_ret2
 exact ⟨rfl, κ3, HM3.1, HU2.1.then HU3.1 (fun _ e => e)⟩
end Go.Proofs.YtenkdmloolbdaaaGreatDoor.T
end
