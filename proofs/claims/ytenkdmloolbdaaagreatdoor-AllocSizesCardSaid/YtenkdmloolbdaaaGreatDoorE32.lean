import Derived.Test.YtenkdmloolbdaaaGreatDoorE29
import Derived.Test.YtenkdmloolbdaaaGreatDoorE30
import Derived.Test.YtenkdmloolbdaaaGreatDoorE25
import Derived.Test.YtenkdmloolbdaaaGreatDoorE31
set_option linter.unusedVariables false
set_option linter.unusedSimpArgs false
set_option maxHeartbeats 8000000
set_option maxRecDepth 100000
section
namespace Go.Proofs.YtenkdmloolbdaaaGreatDoor.T
open Go.RowKit Go.Maps Go.Proofs.YtenkdmloolbdaaaGreatDoorW.PrintWords Go.Proofs.YtenkdmloolbdaaaGreatDoorW.PrintLast Go.Proofs.YtenkdmloolbdaaaGreatDoorW.PrintMore
def pgs (n : Int) : Int := (n + 63) / 64
def cpuL (c : Cpu) : List Int := c.L 0 ++ (c.L 1 ++ (c.L 2 ++ c.L 3))
def homes (s : St) : List Int := s.cpus.flatMap cpuL ++ s.qs.flatten
def Big (s : St) (p : Int) : Prop := ∃ q n : Int, (q, n) ∈ s.rs ∧ q ≤ p ∧ p < q + n ∧ s.sp q.toNat = none
def plc (p cls i : Nat) : Int := ((64 * p + i * clS cls : Nat) : Int)
def Slot (s : St) (x : Int) (c : Nat) : Prop := ∃ p hd i, s.sp p = some hd ∧ i < clN hd.cls ∧ x = plc p hd.cls i ∧ hd.tk.testBit i = true ∧ hd.cls = c
structure PolI (n : Nat) (mode : Int) (set : Nat) (nd : Int) : Prop where
 lt : set < 256
 ok : TZ.polR mode set nd n = 0
structure CoI (E t : Nat) (s : St) : Prop where
 n1 : 1 ≤ s.n
 n8 : s.n ≤ 8
 f2 : s.f ∈ p2s
 chk : TZ.chk s.n s.f s.cs s.ds = 0
 c16 : s.cs.length ≤ 16
 cpl : s.cpus.length = s.cs.length
 cpu : ∀ (j : Nat) (c : Cpu), s.cpus[j]? = some c → s.cs[j]? = some c.node ∧ PolI s.n c.mode c.set c.nd
 mn : 0 ≤ s.mn
 ql : s.qs.length = s.n
 pn : s.pn = 8192
 sn : s.sn = 4096
 ln : s.ln = 262144
 ev : s.ev.length ≤ E
 t1 : 1 ≤ t
 top : ∀ r ∈ s.rs, r.1 + r.2 ≤ (t : Int)
structure FrI (s : St) : Prop where
 bl : s.bs.length = s.n
 bud : ∀ (k : Nat) (x : Bud), s.bs[k]? = some x → BudI s.f x
 len : s.l.length = s.n * s.f * 64
 run : TS.From 1 s.rs
 inv : ∀ p fr, s.pf p = some fr ↔ s.pg fr = some p
 dom : ∀ p fr, s.pf p = some fr → 0 ≤ fr ∧ fr < ((s.n * s.f : Nat) : Int) ∧ ∃ q n, (q, n) ∈ s.rs ∧ q ≤ p ∧ p < q + n
 spn : ∀ p hd, s.sp p = some hd → hd.cls < 4 ∧ hd.order = clO hd.cls ∧ hd.node < s.n ∧ ((p : Int), ((2 ^ clO hd.cls : Nat) : Int)) ∈ s.rs ∧ (∀ i, i < 2 ^ clO hd.cls → s.pf ((p + i : Nat) : Int) = some ((hd.frame + i : Nat) : Int)) ∧ ∃ (y : Nat) (x : Bud), hd.frame = hd.node * s.f + y ∧ s.bs[hd.node]? = some x ∧ x.tk (y : Int) = some ((clO hd.cls : Nat) : Int)
 tak : ∀ (k y o : Nat) (x : Bud), s.bs[k]? = some x → x.tk (y : Int) = some (o : Int) → (∃ p hd, s.sp p = some hd ∧ hd.node = k ∧ hd.frame = k * s.f + y ∧ o = clO hd.cls) ∨ (o = 0 ∧ ∃ p, s.pf p = some ((k * s.f + y : Nat) : Int) ∧ Big s p)
 big : ∀ p fr, s.pf p = some fr → Big s p → ∃ (k y : Nat) (x : Bud), fr = ((k * s.f + y : Nat) : Int) ∧ s.bs[k]? = some x ∧ x.tk (y : Int) = some 0
structure ObI (s : St) (H : List Int) : Prop where
 tk : ∀ p hd, s.sp p = some hd → hd.tk < 2 ^ clN hd.cls
 live : ∀ x sz, s.live x = some sz → 1 ≤ sz ∧ sz ≤ 1024 ∧ (sz ≤ 64 → Slot s x (clOf sz.toNat)) ∧ (64 < sz → ∃ p : Nat, x = ((64 * p : Nat) : Int) ∧ ((p : Int), pgs sz) ∈ s.rs ∧ s.sp p = none)
 runs : ∀ q n, (q, n) ∈ s.rs → s.sp q.toNat = none → ∃ sz, s.live (64 * q) = some sz ∧ 64 < sz ∧ n = pgs sz
 nod : (homes s ++ H).Nodup
 hom : ∀ x, x ∈ homes s ++ H ↔ (∃ c, Slot s x c) ∧ s.live x = none
 cch : ∀ (j : Nat) (c : Cpu) (k : Nat) (x : Int), s.cpus[j]? = some c → k < 4 → x ∈ c.L k → Slot s x k
 clen : ∀ (j : Nat) (c : Cpu) (k : Nat), s.cpus[j]? = some c → k < 4 → (c.L k).length ≤ 8
 qlen : ∀ q ∈ s.qs, q.length ≤ 16
 book : ∀ p pol, s.bm p = some pol → PolI s.n pol.mode pol.set pol.nd ∧ Big s p
structure Mi (E t : Nat) (s : St) (H : List Int) : Prop where
 co : CoI E t s
 fr : FrI s
 ob : ObI s H
theorem cls_mul : ∀ c : Nat, c < 4 → clN c * clS c = 64 * 2 ^ clO c ∧ 1 ≤ clS c ∧ clS c ≤ 64 ∧ clN c ≤ 8 := by decide
theorem plc_in {p c i : Nat} (hc : c < 4) (hi : i < clN c) : 64 * p ≤ 64 * p + i * clS c ∧ 64 * p + i * clS c + clS c ≤ 64 * (p + 2 ^ clO c) := by
 obtain ⟨h1, h2, _⟩ := cls_mul c hc
 have h3 : (i + 1) * clS c ≤ clN c * clS c := Nat.mul_le_mul_right _ hi
 rw [Nat.add_mul, Nat.one_mul] at h3
 omega
theorem FrI.one {s : St} (h : FrI s) {p q i k : Nat} {hp hq : Held} (h1 : s.sp p = some hp) (h2 : s.sp q = some hq) (hi : i < clN hp.cls) (hk : k < clN hq.cls) (he : plc p hp.cls i = plc q hq.cls k) : p = q ∧ i = k := by
 obtain ⟨a1, a2, a3, a4, _⟩ := h.spn p hp h1
 obtain ⟨b1, b2, b3, b4, _⟩ := h.spn q hq h2
 have c1 := plc_in (p := p) a1 hi
 have c2 := plc_in (p := q) b1 hk
 have d1 := (cls_mul _ a1).2.1
 have d2 := (cls_mul _ b1).2.1
 unfold plc at he
 have he' : 64 * p + i * clS hp.cls = 64 * q + k * clS hq.cls := by omega
 obtain ⟨e1, e2⟩ := h.run.one a4 b4 (x := ((64 * p + i * clS hp.cls : Nat) : Int) / 64) (by omega) (by omega) (by omega) (by omega)
 obtain rfl : p = q := by omega
 rw [h1] at h2
 obtain rfl := Option.some.inj h2
 refine ⟨rfl, ?_⟩
 have h3 : i * clS hp.cls = k * clS hp.cls := by omega
 exact Nat.eq_of_mul_eq_mul_right (by omega) h3
theorem FrI.of {s : St} (h : FrI s) {p i : Nat} {hd : Held} (h1 : s.sp p = some hd) (hi : i < clN hd.cls) : TS.ofR s.rs ((plc p hd.cls i) / 64) = ((p : Int), ((2 ^ clO hd.cls : Nat) : Int), true) := by
 obtain ⟨a1, a2, a3, a4, _⟩ := h.spn p hd h1
 have c1 := plc_in (p := p) a1 hi
 have d1 := (cls_mul _ a1).2.1
 exact TS.of_mem h.run a4 (by unfold plc; omega) (by unfold plc; omega)
theorem FrI.page {s : St} (h : FrI s) {p : Nat} {hd : Held} (h1 : s.sp p = some hd) : 1 ≤ p ∧ p + 2 ^ clO hd.cls ≤ 4096 := by
 obtain ⟨a1, a2, a3, a4, _⟩ := h.spn p hd h1
 have := h.run.all _ a4
 simp only at this
 omega
theorem flat_set {α : Type} (f : α → List Int) : ∀ (l : List α) (j : Nat) (c c' : α), l[j]? = some c → ((l.set j c').flatMap f ++ f c).Perm (l.flatMap f ++ f c')
 | [], j, c, c', h => by cases j <;> cases h
 | x :: l, 0, c, c', h => by
  obtain rfl := Option.some.inj h
  simp only [List.set_cons_zero, List.flatMap_cons]
  exact List.perm_iff_count.2 (fun a => by simp only [List.count_append]; omega)
 | x :: l, j + 1, c, c', h => by
  simp only [List.set_cons_succ, List.flatMap_cons, List.append_assoc]
  exact (flat_set f l j c c' h).append_left _
end Go.Proofs.YtenkdmloolbdaaaGreatDoor.T
end
