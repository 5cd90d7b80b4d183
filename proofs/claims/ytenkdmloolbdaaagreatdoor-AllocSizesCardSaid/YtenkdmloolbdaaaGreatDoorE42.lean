import Derived.Test.YtenkdmloolbdaaaGreatDoorE10
import Derived.Test.YtenkdmloolbdaaaGreatDoorE08
import Derived.Test.YtenkdmloolbdaaaGreatDoorE09
set_option linter.unusedVariables false
set_option linter.unusedSimpArgs false
set_option maxHeartbeats 8000000
set_option maxRecDepth 100000
section
namespace Go.Proofs.YtenkdmloolbdaaaGreatDoor.T
open Go.RowKit Go.Maps Go.WideShapes Go.Proofs.YtenkdmloolbdaaaGreatDoorW.PrintWords Go.Proofs.YtenkdmloolbdaaaGreatDoorW.PrintLast Go.Proofs.YtenkdmloolbdaaaGreatDoorW.PrintMore
structure Ob where
 addr : Nat
 blk : Nat
 bs : List Nat
def Ob.cells (x : Ob) : List Value := [.int .i64 x.addr, .slice (some ⟨x.blk, 0, none⟩) x.bs.length x.bs.length]
def obs (l : List Ob) : List Value := l.flatMap Ob.cells
theorem obs_len : ∀ l : List Ob, (obs l).length = l.length * 2
 | [] => rfl
 | o :: l => by
  have := obs_len l
  unfold obs at *
  rw [List.flatMap_cons, List.length_append, this, List.length_cons]
  simp only [Ob.cells, List.length_cons, List.length_nil]
  omega
theorem obs_get : ∀ (l : List Ob) (i : Nat) (hi : i < l.length), (obs l)[i * 2]? = some (.int .i64 l[i].addr) ∧ (obs l)[i * 2 + 1]? = some (.slice (some ⟨l[i].blk, 0, none⟩) l[i].bs.length l[i].bs.length)
 | o :: l, 0, _ => ⟨rfl, rfl⟩
 | o :: l, i + 1, hi => by
  have := obs_get l i (by simpa using hi)
  rw [show (i + 1) * 2 = i * 2 + 1 + 1 by omega]
  exact this
theorem obs_append (l r : List Ob) : obs (l ++ r) = obs l ++ obs r := List.flatMap_append ..
theorem obs_take (l : List Ob) (k : Nat) (hk : k ≤ l.length) : (obs l).take (k * 2) = obs (l.take k) := by
 have h := congrArg obs (List.take_append_drop k l)
 rw [obs_append] at h
 rw [← h]
 exact List.take_left' (by rw [obs_len, List.length_take]; omega)
theorem obs_drop (l : List Ob) (k : Nat) (hk : k ≤ l.length) : (obs l).drop (k * 2) = obs (l.drop k) := by
 have h := congrArg obs (List.take_append_drop k l)
 rw [obs_append] at h
 rw [← h]
 exact List.drop_left' (by rw [obs_len, List.length_take]; omega)
theorem obs_one (l : List Ob) : ∀ u ∈ obs l, u.oneCell' = true := by
 intro u hu
 obtain ⟨o, _, ho⟩ := List.mem_flatMap.1 hu
 simp only [Ob.cells, List.mem_cons, List.not_mem_nil, or_false] at ho
 rcases ho with rfl | rfl <;> rfl
theorem RowG.cells {κ : Kol} {i : Nat} {w : World} {e : TypeId} {sz : Nat} {g n c : Nat} {xs : List Value} (h : RowG κ i w e sz (.slice (some ⟨g, 0, none⟩) n c) n xs) (j : Nat) (u : Value) (hj : xs[j]? = some u) : w.cell? ⟨g, j, none⟩ = some u := by
 rcases h.1.2 with ⟨h0, _⟩ | ⟨g', c', cur, hv, _, hg, _, _, _, hx⟩
 ·cases h0
 ·injection hv with ha _ _
  injection ha with ha
  injection ha with ha _ _
  subst ha
  rw [← hx, List.getElem?_take] at hj
  split at hj
  ·rw [Array.getElem?_toList] at hj
   simp only [World.cell?, hg]
   exact hj
  ·cases hj
theorem obs_at {κ : Kol} {i : Nat} {w : World} {e : TypeId} {A : Option Addr} {c : Nat} {l : List Ob} (h : RowG κ i w e 2 (.slice A l.length c) l.length (obs l)) (j : Nat) (hj : j < l.length) :
 ∃ g, A = some ⟨g, 0, none⟩ ∧ w.cell? ⟨g, j * 2, none⟩ = some (.int .i64 l[j].addr) ∧ w.cell? ⟨g, j * 2 + 1, none⟩ = some (.slice (some ⟨l[j].blk, 0, none⟩) l[j].bs.length l[j].bs.length) := by
 rcases h.1.2 with ⟨_, h0⟩ | ⟨g, c', cur, hv, _⟩
 ·omega
 ·injection hv with ha _ hc
  subst ha
  exact ⟨g, rfl, h.cells _ _ (obs_get l j hj).1, h.cells _ _ (obs_get l j hj).2⟩
structure ModK (κ : Kol) (w : World) (b nc : Nat) (l : List Ob) : Prop where
 row : ∃ A c, BlkK κ 2 w b #[.int .i64 nc, .slice A l.length c] 31 ∧ RowG κ 3 w 45 2 (.slice A l.length c) l.length (obs l)
 bl : ∀ o ∈ l, BlkK κ 4 w o.blk (bv o.bs) 5
 nd : (l.map Ob.blk).Nodup
 len : l.length ≤ 100000
 val : ∀ o ∈ l, o.addr ≤ 262144 ∧ o.bs.length ≤ 1024
theorem ModK.upd {I : Nat → Prop} {κ κ1 : Kol} {w w1 : World} {b nc : Nat} {l : List Ob} (h : ModK κ w b nc l) (k : Upd I κ w κ1 w1) (hi : ∀ c, 2 ≤ c → c ≤ 4 → ¬ I c) : ModK κ1 w1 b nc l := by
 obtain ⟨⟨A, c, h1, h2⟩, h3, h4, h5, h6⟩ := h
 exact ⟨⟨A, c, h1.upd k (hi 2 (by omega) (by omega)), h2.upd k (hi 3 (by omega) (by omega))⟩, fun o ho => (h3 o ho).upd k (hi 4 (by omega) (by omega)), h4, h5, h6⟩
theorem ModK.below {κ : Kol} {w w1 : World} {b nc : Nat} {l : List Ob} (h : ModK κ w b nc l) (k : RowKit.Below w.heap.size w w1) : ModK κ w1 b nc l := h.upd (I := fun _ => False) (Upd.of_below κ k) (fun _ _ _ h => h)
def fndI (l : List Ob) (x : Int) : Int := if l.findIdx (fun o => (o.addr : Int) == x) < l.length then (l.findIdx (fun o => (o.addr : Int) == x) : Int) else -1
theorem fndI_at (l : List Ob) (x : Int) (i : Nat) (hi : i < l.length) (h : ∀ k, (hk : k < l.length) → k < i → (l[k].addr : Int) ≠ x) (hx : (l[i].addr : Int) = x) : fndI l x = i := by
 have e : l.findIdx (fun o => (o.addr : Int) == x) = i := (List.findIdx_eq hi).2 ⟨by simpa using hx, fun j hj => by simpa using h j (by omega) hj⟩
 unfold fndI
 rw [e, if_pos hi]
theorem fndI_none (l : List Ob) (x : Int) (h : ∀ o ∈ l, (o.addr : Int) ≠ x) : fndI l x = -1 := by
 have e : l.findIdx (fun o => (o.addr : Int) == x) = l.length := List.findIdx_eq_length_of_false (fun o ho => by simpa using h o ho)
 unfold fndI
 rw [e, if_neg (by omega)]
theorem model_cpu (κ : Kol) (b nc : Nat) (l : List Ob) (j : Int) (hj : 0 ≤ j) (hj2 : j < nc) (hnc : nc ≤ 1000) (w : World) (h : ModK κ w b nc l) :
 Calls Tryz.prog 57 #[.pointer (some ⟨b, 0, none⟩), .int .i64 j] w fun e w' => e = .returned (.int .i64 0) ∧ w' = w := by
 obtain ⟨A, c, hB, _⟩ := h.row
 have x0 := hB.blk.at 0 (.int .i64 (nc : Int)) rfl
 have b0 : decide (j < 0) = false := decide_eq_false (by omega)
 have b1 : decide ((nc : Int) ≤ j) = false := decide_eq_false (by omega)
 clear hB h
 go_enter Tryz.func57, Tryz.ntmps57
 go_wp2_with fail
 go_ret
 exact ⟨rfl, rfl⟩
def RelMf (w : World) (l : List Ob) (x : Int) (v5 : Value) (wr : World) : Prop := wr = w ∧ ∃ i : Nat, v5 = .int .i64 i ∧ i ≤ l.length ∧ ∀ k, (hk : k < l.length) → k < i → (l[k].addr : Int) ≠ x
theorem model_find (κ : Kol) (b nc : Nat) (l : List Ob) (x : Int) (w : World) (h : ModK κ w b nc l) :
 Calls Tryz.prog 60 #[.pointer (some ⟨b, 0, none⟩), .int .i64 x] w fun e w' => e = .returned (.int .i64 (fndI l x)) ∧ w' = w := by
 have hlen := h.len
 obtain ⟨A, c, hB, hR⟩ := h.row
 have HB := ak hB
 have HR := ak hR
 clear hB hR h
 go_enter Tryz.func60, Tryz.ntmps60
 go_wp2_with fail
 have H0 := ak (show RelMf w l x (.int .i64 0) w from ⟨rfl, 0, rfl, Nat.zero_le _, fun k _ hk => by omega⟩)
 go_loopw [5] (fun v5 wr => RelMf w l x v5 wr) (fun v5 _ => l.length - (RowKit.intOf v5).toNat)
 case atStart => exact H0.1
 case round =>
  clear H0
  obtain ⟨rfl, i, rfl, hi, hno⟩ := hrel
  have HNO := ak hno
  clear hno
  have x1 := HB.1.blk.at 1 (.slice A l.length c) rfl
  by_cases hlt : i < l.length
  ·obtain ⟨g, rfl, s0, _⟩ := obs_at HR.1 i hlt
   obtain ⟨y, hy⟩ : ∃ y : Int, (l[i].addr : Int) = y := ⟨_, rfl⟩
   rw [hy] at s0
   have HY := ak hy
   clear hy
   have i0 : (0 : Int) ≤ (i : Int) := by omega
   have iI : (i : Int) < (l.length : Int) := by omega
   have hi1 : (i : Int) ≤ 100000 := by omega
   by_cases he : y = x
   ·have e1 : (y == x) = true := by simpa using he
    have HE := ak he
    clear he
    go_wp2_with fail
    go_ret
    exact ⟨by rw [fndI_at l x i hlt HNO.1 (HY.1.trans HE.1)]; rfl, rfl⟩
   ·have e1 : (y == x) = false := by simpa using he
    have HE := ak he
    clear he
    go_wp2_with fail
    exact ⟨⟨rfl, i + 1, by simp, hlt, fun k hk hk2 => by
     rcases Nat.lt_or_ge k i with h9 | h9
     ·exact HNO.1 k hk h9
     ·obtain rfl : k = i := by omega
      rw [HY.1]; exact HE.1⟩, by simp only [RowKit.intOf]; omega⟩
  ·have iI : ¬ ((i : Int) < (l.length : Int)) := by omega
   go_wp2_with fail
   go_ret
   exact ⟨by rw [fndI_none l x (fun o ho => by
    obtain ⟨k, hk, rfl⟩ := List.mem_iff_getElem.1 ho
    exact HNO.1 k hk (by omega))]; rfl, rfl⟩
def MayO (l : List Ob) (a n : Nat) : Prop := 64 ≤ a ∧ a + n ≤ 262144 ∧ ∀ o ∈ l, o.addr + o.bs.length ≤ a ∨ a + n ≤ o.addr
def RelMm (w : World) (l : List Ob) (v7 : Value) (wr : World) : Prop := RowKit.Below w.heap.size w wr ∧ ∃ i : Nat, v7 = .int .i64 i ∧ i ≤ l.length
theorem model_may (κ : Kol) (b nc : Nat) (l : List Ob) (a n : Nat) (hm : MayO l a n) (w : World) (h : ModK κ w b nc l) :
 Calls Tryz.prog 58 #[.pointer (some ⟨b, 0, none⟩), .int .i64 a, .int .i64 n] w fun e w' => e = .returned (.bool true) ∧ RowKit.Below w.heap.size w w' := by
 have hlen := h.len
 obtain ⟨A, c, hB, hR⟩ := h.row
 have HB := ak hB
 have HR := ak hR
 have HV := ak h.val
 have HM := ak hm
 have b0 : decide ((a : Int) < 64) = false := decide_eq_false (by have := hm.1; omega)
 have b1 : decide (262144 < (a : Int) + (n : Int)) = false := decide_eq_false (by have := hm.2.1; omega)
 have a1 : (a : Int) ≤ 262144 := by have := hm.2.1; omega
 have a2 : (n : Int) ≤ 262144 := by have := hm.2.1; omega
 have a3 : (0 : Int) ≤ (a : Int) := by omega
 have a4 : (0 : Int) ≤ (n : Int) := by omega
 have a5 : (a : Int) + (n : Int) ≤ 262144 := by have := hm.2.1; omega
 clear hB hR h hm
 go_enter Tryz.func58, Tryz.ntmps58
 go_wp2_with fail
 have H0 := ak (show RelMm w l (.int .i64 0) w from ⟨RowKit.Below.refl _ _, 0, rfl, Nat.zero_le _⟩)
 go_loopw [7, 8] (fun v7 _ wr => RelMm w l v7 wr) (fun v7 _ _ => l.length - (RowKit.intOf v7).toNat)
 case atStart => exact H0.1
 case round =>
  clear H0
  obtain ⟨hbl, i, rfl, hi⟩ := hrel
  have HBL := ak hbl
  have x1 := (HB.1.below hbl).blk.at 1 (.slice A l.length c) rfl
  clear hbl
  by_cases hlt : i < l.length
  ·obtain ⟨g, rfl, s0, s1⟩ := obs_at (HR.1.below HBL.1) i hlt
   have hV := HV.1 l[i] (List.getElem_mem hlt)
   have hO := HM.1.2.2 l[i] (List.getElem_mem hlt)
   obtain ⟨y, hy⟩ : ∃ y : Nat, l[i].addr = y := ⟨_, rfl⟩
   obtain ⟨z, hz⟩ : ∃ z : Nat, l[i].bs.length = z := ⟨_, rfl⟩
   rw [hy, hz] at hV hO
   rw [hy] at s0
   rw [hz] at s1
   clear hy hz
   have i0 : (0 : Int) ≤ (i : Int) := by omega
   have iI : (i : Int) < (l.length : Int) := by omega
   have hi1 : (i : Int) ≤ 100000 := by omega
   have y0 : (0 : Int) ≤ (y : Int) ∧ (y : Int) ≤ 262144 := by omega
   have z0 : (0 : Int) ≤ (z : Int) ∧ (z : Int) ≤ 1024 := by omega
   by_cases hc : y + z ≤ a
   ·have c1 : decide ((a : Int) < (y : Int) + (z : Int)) = false := decide_eq_false (by omega)
    have FF := ak hlt
    clear hV hO hc
    go_wp2_with fail
    exact ⟨⟨below_then HBL.1 HBL.1.size (below_alloc (RowKit.Below.refl _ _) _), i + 1, by simp, FF.out⟩, by have := FF.out; simp only [RowKit.intOf]; omega⟩
   ·have c1 : decide ((a : Int) < (y : Int) + (z : Int)) = true := decide_eq_true (by omega)
    have c2 : decide ((y : Int) < (a : Int) + (n : Int)) = false := decide_eq_false (by omega)
    have FF := ak hlt
    clear hV hO hc
    go_wp2_with fail
    exact ⟨⟨below_then HBL.1 HBL.1.size (below_alloc (RowKit.Below.refl _ _) _), i + 1, by simp, FF.out⟩, by have := FF.out; simp only [RowKit.intOf]; omega⟩
  ·have iI : ¬ ((i : Int) < (l.length : Int)) := by omega
   go_wp2_with fail
   go_ret
   exact ⟨rfl, HBL.1⟩
theorem model_reach (κ : Kol) (b nc : Nat) (l : List Ob) (j : Int) (hj : 0 ≤ j) (hj2 : j < nc) (hnc : nc ≤ 1000) (x i o n : Nat) (hi : i < l.length) (hx : fndI l x = i) (ho : o + n ≤ l[i].bs.length) (w : World) (h : ModK κ w b nc l) :
 Calls Tryz.prog 59 #[.pointer (some ⟨b, 0, none⟩), .int .i64 j, .int .i64 x, .int .i64 o, .int .i64 n] w fun e w' => e = .returned (.int .i64 0) ∧ w' = w := by
 have HC := ak (model_cpu κ b nc l j hj hj2 hnc w h)
 have HF := ak (model_find κ b nc l x w h)
 have hlen := h.len
 obtain ⟨A, c, hB, hR⟩ := h.row
 have x1 := hB.blk.at 1 (.slice A l.length c) rfl
 obtain ⟨g, rfl, _, s1⟩ := obs_at hR i hi
 obtain ⟨z, hz⟩ : ∃ z : Nat, l[i].bs.length = z := ⟨_, rfl⟩
 have hV := (h.val l[i] (List.getElem_mem hi)).2
 rw [hz] at s1 ho hV
 rw [hx] at HF
 have i0 : (0 : Int) ≤ (i : Int) := by omega
 have iI : (i : Int) < (l.length : Int) := by omega
 have hi1 : (i : Int) ≤ 100000 := by omega
 have b0 : decide ((i : Int) < 0) = false := decide_eq_false (by omega)
 have b1 : decide ((o : Int) < 0) = false := decide_eq_false (by omega)
 have b2 : decide ((n : Int) < 0) = false := decide_eq_false (by omega)
 have b3 : decide ((z : Int) < (o : Int)) = false := decide_eq_false (by omega)
 have b3' : decide (z < o) = false := decide_eq_false (by omega)
 have b4 : decide ((z : Int) - (o : Int) < (n : Int)) = false := decide_eq_false (by omega)
 have z1 : (z : Int) ≤ 1024 := by omega
 have o1 : (o : Int) ≤ 1024 := by omega
 have z0 : (0 : Int) ≤ (z : Int) := by omega
 have o0 : (0 : Int) ≤ (o : Int) := by omega
 clear hB hR h hx hz ho hV
 go_enter Tryz.func59, Tryz.ntmps59
 go_wp2_with (first | (go_at_call 57; (with_reducible refine HC.1.mono ?_); rintro e_ w1 ⟨rfl, rfl⟩) | (go_at_call 60; (with_reducible refine HF.1.mono ?_); rintro e_ w2 ⟨rfl, rfl⟩))
 go_ret
 exact ⟨rfl, rfl⟩
end Go.Proofs.YtenkdmloolbdaaaGreatDoor.T
end
