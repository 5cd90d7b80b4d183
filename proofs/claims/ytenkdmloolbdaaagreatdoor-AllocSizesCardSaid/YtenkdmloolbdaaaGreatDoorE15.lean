import Derived.Test.YtenkdmloolbdaaaGreatDoorE03
import Derived.Lib.SlKeysI
import Derived.Test.YtenkdmloolbdaaaGreatDoorE08
set_option linter.unusedVariables false
set_option linter.unusedSimpArgs false
set_option maxHeartbeats 8000000
set_option maxRecDepth 100000
section
namespace Go.Proofs.YtenkdmloolbdaaaGreatDoor.T
open Go.RowKit Go.Maps Go.WideShapes Go.Proofs.YtenkdmloolbdaaaGreatDoorW.PrintWords Go.Proofs.YtenkdmloolbdaaaGreatDoorW.PrintLast Go.Proofs.YtenkdmloolbdaaaGreatDoorW.PrintMore
theorem keys_perm {w : World} {R : Value → Option (DataW Unit × List MemPlace)} {b n : Nat} {D : DataW Unit} (hown : w.ownsMap Tryz.prog 3 R b n D) (L : List Int) (hnd : L.Nodup) (hm : ∀ x, x ∈ L ↔ Maps.has D (.int .i64 x) = true) : L.Perm (intKeys D) := by
 obtain ⟨es, hD, hpw, _⟩ := hown.entries int_law
 obtain ⟨es', hD', hko⟩ := hown.keysOf
 obtain rfl : es = es' := by rw [hD] at hD'; simpa using hD'
 subst hD
 exact perm_intKeys hpw (fun p hp => by obtain ⟨v, hv⟩ := hko p hp; obtain ⟨x, _, hx, _⟩ := Maps.keyOf_i64 Tryz.underlying3 hv; exact ⟨x, hx⟩) hnd hm
theorem keys_size {w : World} {R : Value → Option (DataW Unit × List MemPlace)} {b n : Nat} {D : DataW Unit} (hown : w.ownsMap Tryz.prog 3 R b n D) : (intKeys D).length = Maps.size D := by
 obtain ⟨es, hD, _⟩ := hown.entries int_law
 subst hD
 simp [intKeys, Maps.size]
theorem has_i64 {w : World} {R : Value → Option (DataW Unit × List MemPlace)} {b n : Nat} {D : DataW Unit} (hown : w.ownsMap Tryz.prog 3 R b n D) (x : Int) (h : Maps.has D (.int .i64 x) = true) : I64 x := by
 obtain ⟨es, hD, _⟩ := hown.entries int_law
 obtain ⟨es', hD', hko⟩ := hown.keysOf
 obtain rfl : es = es' := by rw [hD] at hD'; simpa using hD'
 subst hD
 rw [Maps.has_eq, List.any_eq_true] at h
 obtain ⟨p, hp, hs⟩ := h
 obtain ⟨v, hv⟩ := hko p hp
 obtain ⟨y, _, hy, hwf⟩ := Maps.keyOf_i64 Tryz.underlying3 hv
 rw [hy] at hs
 have : y = x := by simpa [Lit.sameKey] using hs
 rw [← this]
 exact hwf
theorem own_bound {w : World} {R : Value → Option (DataW Unit × List MemPlace)} {b n N : Nat} {D : DataW Unit} (hown : w.ownsMap Tryz.prog 3 R b n D) (hk : ∀ x, Maps.has D (.int .i64 x) = true → 0 ≤ x ∧ x < N) : w.ownsMap Tryz.prog 3 R b N D := by
 have hp := keys_perm hown (((List.range N).map fun (x : Nat) => (x : Int)).filter fun x => Maps.has D (.int .i64 x)) (List.Pairwise.filter _ (List.pairwise_map.2 (List.pairwise_lt_range.imp (fun {a b} h => by omega)))) (fun x => by
  rw [List.mem_filter, List.mem_map]
  refine ⟨fun h => h.2, fun h => ⟨⟨x.toNat, ?_, ?_⟩, h⟩⟩
  ·have := hk x h
   simp only [List.mem_range]
   omega
  ·have := hk x h
   omega)
 have hl := hp.length_eq
 rw [keys_size hown] at hl
 have hle : Maps.size D ≤ N := by
  rw [← hl]
  exact Nat.le_trans (List.length_filter_le _ _) (by simp)
 obtain ⟨es, clock, hb, F, hs, rfl⟩ := hown
 refine ⟨es, clock, hb, F, ?_, rfl⟩
 have : Maps.size (DataW.map ((es.toList.map (WideElems.rg Tryz.prog 3 R)).foldr DataW.insert [])) = es.size := by simp [Maps.size, length_sorted]
 omega
theorem MapI.tight {κ : Kol} {i b n N : Nat} {w : World} {f : Int → Option Int} (h : MapI κ i w b n f) (hk : ∀ x, (f x).isSome = true → 0 ≤ x ∧ x < N) : MapI κ i w b N f := by
 obtain ⟨hkol, D, hown, hv⟩ := h
 exact ⟨hkol, D, own_bound hown (fun x hx => hk x (by rw [← (hv x (has_i64 hown x hx)).1]; exact hx)), hv⟩
structure Pol where
 mode : Int
 set : Nat
 nd : Int
def Pol.val (p : Pol) : Value := .agg #[.int .i64 p.mode, .int .u8 p.set, .int .i64 p.nd]
def Pol.dat (p : Pol) : DataW Unit := .agg [.lit (.int .i64 p.mode), .lit (.int .u8 p.set), .lit (.int .i64 p.nd)]
theorem Pol.val_inj {p q : Pol} (h : p.val = q.val) : p = q := by
 obtain ⟨a, b, c⟩ := p
 obtain ⟨a', b', c'⟩ := q
 simp only [Pol.val, Value.agg.injEq, Array.mk.injEq, List.cons.injEq, Value.int.injEq, true_and, and_true] at h
 obtain ⟨rfl, h2, rfl⟩ := h
 obtain rfl : b = b' := by omega
 rfl
theorem Pol.dat_inj {p q : Pol} (h : p.dat = q.dat) : p = q := by
 obtain ⟨a, b, c⟩ := p
 obtain ⟨a', b', c'⟩ := q
 simp only [Pol.dat, DataW.agg.injEq, DataW.lit.injEq, List.cons.injEq, Lit.int.injEq, true_and, and_true] at h
 obtain ⟨rfl, h2, rfl⟩ := h
 obtain rfl : b = b' := by omega
 rfl
open Classical in
noncomputable def polElem (v : Value) : Option (DataW Unit × List MemPlace) := if h : ∃ p : Pol, v = p.val then some (h.choose.dat, []) else none
theorem pol_elem (p : Pol) : polElem p.val = some (p.dat, []) := by
 have h : ∃ q : Pol, p.val = q.val := ⟨p, rfl⟩
 unfold polElem
 rw [dif_pos h, ← Pol.val_inj h.choose_spec]
theorem pol_inv {v : Value} {y : DataW Unit × List MemPlace} (h : polElem v = some y) : ∃ p : Pol, v = p.val ∧ y = (p.dat, []) := by
 unfold polElem at h
 split at h
 ·rename_i hp
  exact ⟨hp.choose, hp.choose_spec, (Option.some.inj h).symm⟩
 ·cases h
def pol0 : Pol := ⟨0, 0, 0⟩
def ViewB (D : DataW Unit) (f : Int → Option Pol) : Prop := ∀ k, I64 k → Maps.has D (.int .i64 k) = (f k).isSome ∧ D.atKey (.int .i64 k) pol0.dat = ((f k).getD pol0).dat
structure MapB (κ : Kol) (i : Nat) (w : World) (b : Nat) (f : Int → Option Pol) : Prop where
 kol : κ b = i
 own : ∃ D : DataW Unit, w.ownsMap Tryz.prog 3 polElem b 4096 D ∧ ViewB D f
 key : ∀ x, (f x).isSome = true → 0 ≤ x ∧ x < 4096
section
variable {I : Nat → Prop} {κ κ1 : Kol} {w w1 : World} {i b : Nat} {f : Int → Option Pol}
theorem MapB.upd (h : MapB κ i w b f) (k : Upd I κ w κ1 w1) (hi : ¬ I i) : MapB κ1 i w1 b f := by
 obtain ⟨hk, ⟨D, h1, h2⟩, h3⟩ := h
 exact ⟨(k.kol b h1.lt).trans hk, ⟨D, owns_chg h1 k.chg (fun e => hi (hk ▸ e)), h2⟩, h3⟩
theorem MapB.below (h : MapB κ i w b f) (k : RowKit.Below w.heap.size w w1) : MapB κ i w1 b f := h.upd (I := fun _ => False) (Upd.of_below κ k) (fun h => h)
theorem MapB.made (hk : κ w.heap.size = i) : MapB κ i (w.alloc (.map #[] 0)) w.heap.size (fun _ => none) :=
 ⟨hk, ⟨.map [], (World.ownsMap_made _ _ _ _).mono (Nat.zero_le _), fun k _ => ⟨rfl, rfl⟩⟩, fun x hx => by cases hx⟩
theorem zero_pol (w : World) : (zeroValue 40).run Tryz.prog w = .ok pol0.val w := Tryz.zeroValue40 w
theorem MapB.look (h : MapB κ i w b f) (x : Int) (hx : I64 x) :
 (Instr.lookup 239 (.map (some b)) (.int .i64 x) true).run Tryz.prog w = .ok (.tuple #[((f x).getD pol0).val, .bool (f x).isSome]) w := by
 obtain ⟨hk, ⟨D, ho, hv⟩, _⟩ := h
 obtain ⟨v, ps, hrun, hr⟩ := ho.look_ok int_law Tryz.underlying239 (zero_pol w) (pol_elem pol0) (keyOf_int_mk Tryz.underlying3 hx)
 rw [hrun, (hv x hx).1]
 obtain ⟨p, rfl, hc⟩ := pol_inv hr
 rw [(hv x hx).2] at hc
 rw [Pol.dat_inj (p := (f x).getD pol0) (q := p) (congrArg Prod.fst hc)]
end
def BookK (κ : Kol) (w : World) (b nodes : Nat) (bm : Int → Option Pol) : Prop := ∃ m, BlkK κ 11 w b #[.int .i64 nodes, .map (some m)] 241 ∧ MapB κ 12 w m bm
theorem BookK.upd {I : Nat → Prop} {κ κ1 : Kol} {b nodes : Nat} {w w1 : World} {bm : Int → Option Pol} (h : BookK κ w b nodes bm) (k : Upd I κ w κ1 w1) (h1 : ¬ I 11) (h2 : ¬ I 12) : BookK κ1 w1 b nodes bm := by
 obtain ⟨m, k1, k2⟩ := h
 exact ⟨m, k1.upd k h1, k2.upd k h2⟩
end Go.Proofs.YtenkdmloolbdaaaGreatDoor.T
end
