import Derived.Test.YtenkdmloolbdaaaGreatDoorE03
import Derived.Test.YtenkdmloolbdaaaGreatDoorE04
import Derived.WideKeyEntry
import Derived.Maps.RangeWalk
import Derived.Sort.OwnSorted
set_option linter.unusedVariables false
set_option linter.unusedSimpArgs false
set_option maxHeartbeats 8000000
set_option maxRecDepth 100000
section
namespace Go.Proofs.YtenkdmloolbdaaaGreatDoor.T
open Go.RowKit Go.Maps Go.WideShapes Go.WideMaps Go.WideElems Go.ChangeMaps Go.Proofs.YtenkdmloolbdaaaGreatDoorW.PrintWords Go.Proofs.YtenkdmloolbdaaaGreatDoorW.PrintLast Go.Proofs.YtenkdmloolbdaaaGreatDoorW.PrintMore
theorem lay_fill {w : World} {b : Nat} {es : Array MapEntry} {clock : Nat} {R : Value → Option (DataW Unit × List MemPlace)} (hb : w.heap[b]? = some (.map es clock)) (F : Fit Tryz.prog 3 R es clock) (x : Int) (hx : I64 x) :
 ∃ (v0 : Value) (st : Nat) (w1 : World), (Instr.mapEntry 127 (.map (some b)) (.int .i64 x)).run Tryz.prog w = .ok (.tuple #[v0, goInt st]) w1 ∧ w.mapTurned w1 b ∧
  ∀ val : Value, ∃ w2, (Instr.entryStore 127 (.map (some b)) (goInt st) val).run Tryz.prog w1 = .ok () w2 ∧ (Instr.mapUpdate 127 (.map (some b)) (.int .i64 x) val).run Tryz.prog w = .ok () w2 := by
 have ht := Tryz.underlying127
 have hkey := keyOf_int_mk (P := Tryz.prog) Tryz.underlying3 hx
 have K := int_law
 obtain ⟨s1, s2, _⟩ := F.stamped
 have hset : ∀ o o2 : Obj, setBlock (setBlock w b o) b o2 = setBlock w b o2 := fun o o2 => by simp [setBlock]
 rcases K.find w hkey es.toList F.keys with ⟨h1, h2⟩ | ⟨j, e0, h1, h2, h3⟩
 ·refine ⟨.int .i64 0, clock, setBlock w b (.map (es.push ⟨.int .i64 x, .int .i64 0, clock⟩) (clock + 1)), ?_, ⟨es, clock, _, _, hb, rfl⟩, fun val => ⟨setBlock w b (.map (es.push ⟨.int .i64 x, val, clock⟩) (clock + 1)), ?_, ?_⟩⟩
  ·simp [Instr.mapEntry, run_underlying ht, MapKept.run_getObj_map hb, K.check w false hkey, h1, zero_int, MapKept.run_setObj_map _ hb, Result.andThen, setBlock]
  ·have hw2 : (setBlock w b (.map (es.push ⟨.int .i64 x, .int .i64 0, clock⟩) (clock + 1))).heap[b]? = some (.map (es.push ⟨.int .i64 x, .int .i64 0, clock⟩) (clock + 1)) := heap_setBlock_same hb _
   have hidx : (es.push ⟨.int .i64 x, .int .i64 0, clock⟩).findIdx? (fun e => ((e.born : Nat) : Int) == ((clock : Nat) : Int)) = some es.size := by
    rw [findIdx_arr]
    have := findIdx_born (l := (es.push ⟨.int .i64 x, .int .i64 0, clock⟩).toList) (j := es.size) (e0 := ⟨.int .i64 x, .int .i64 0, clock⟩) (by
     simp only [Array.toList_push, List.map_append, List.map_cons, List.map_nil]
     refine List.nodup_append.2 ⟨s2, by simp, fun a ha c hc e1 => ?_⟩
     simp only [List.mem_singleton] at hc
     obtain ⟨y, hy, rfl⟩ := List.mem_map.1 ha
     have := s1 y hy
     omega) (by simp)
    exact this
   have hmod : (es.push ⟨.int .i64 x, .int .i64 0, clock⟩).modify es.size (fun e => { e with val := val }) = es.push ⟨.int .i64 x, val, clock⟩ := by
    apply Array.ext'
    rw [Array.toList_modify, Array.toList_push, Array.toList_push, ← Array.length_toList, modify_last]
   simp [Instr.entryStore, MapKept.run_getObj_map hw2, asInt, asIntOf, goInt, hidx, hmod, MapKept.run_setObj_map _ hw2, Result.andThen]
   simp [setBlock]
  ·simp [Instr.mapUpdate, run_underlying ht, MapKept.run_getObj_map hb, K.check w false hkey, h1, MapKept.run_setObj_map _ hb, Result.andThen, setBlock]
 ·have hj : es[j]? = some e0 := by simpa using h2
  have hsame : es.modify j (fun e => { e with key := .int .i64 x }) = es := by
   apply Array.ext'
   rw [Array.toList_modify, modify_eq_set _ _ _ _ h2]
   have : ({ e0 with key := .int .i64 x } : MapEntry) = e0 := by rw [← h3]
   rw [this]
   exact set_self _ _ _ h2
  refine ⟨e0.val, e0.born, setBlock w b (.map es clock), ?_, ⟨es, clock, _, _, hb, rfl⟩, fun val => ⟨setBlock w b (.map (es.modify j (fun e' => { e' with key := .int .i64 x, val := val })) clock), ?_, ?_⟩⟩
  ·simp [Instr.mapEntry, run_underlying ht, MapKept.run_getObj_map hb, K.check w false hkey, h1, hj, h3, K.stays w hkey, hsame, MapKept.run_setObj_map _ hb, Result.andThen, setBlock]
  ·have hw2 : (setBlock w b (.map es clock)).heap[b]? = some (.map es clock) := heap_setBlock_same hb _
   have hidx : es.findIdx? (fun e => ((e.born : Nat) : Int) == ((e0.born : Nat) : Int)) = some j := by
    rw [findIdx_arr]
    exact findIdx_born s2 h2
   have hmod : es.modify j (fun e => { e with val := val }) = es.modify j (fun e' => { e' with key := .int .i64 x, val := val }) := by
    apply Array.ext'
    rw [Array.toList_modify, Array.toList_modify, modify_eq_set _ _ _ _ h2, modify_eq_set _ _ _ _ h2, ← h3]
   simp [Instr.entryStore, MapKept.run_getObj_map hw2, asInt, asIntOf, goInt, hidx, hmod, MapKept.run_setObj_map _ hw2, Result.andThen]
   simp [setBlock]
  ·simp [Instr.mapUpdate, run_underlying ht, MapKept.run_getObj_map hb, K.check w false hkey, h1, hj, h3, K.stays w hkey, MapKept.run_setObj_map _ hb, Result.andThen, setBlock]
theorem MapI.fill {κ : Kol} {i b n : Nat} {w : World} {f : Int → Option Int} (h : MapI κ i w b n f) (x v : Int) (hx : I64 x) (hv : I64 v) (hn : n < 1000000) :
 ∃ (v0 : Value) (st : Nat) (w1 w2 : World), (Instr.mapEntry 127 (.map (some b)) (.int .i64 x)).run Tryz.prog w = .ok (.tuple #[v0, .int .i64 (st : Int)]) w1 ∧ (Instr.entryStore 127 (.map (some b)) (.int .i64 (st : Int)) (.int .i64 v)).run Tryz.prog w1 = .ok () w2 ∧
  MapI κ i w2 b (n + 1) (putF f x v) ∧ Upd (· = i) κ w κ w1 ∧ Upd (· = i) κ w κ w2 := by
 obtain ⟨hk, D, ho, hV⟩ := h
 obtain ⟨w2', hrun', ho', ht'⟩ := ho.store int_law Tryz.underlying127 (by unfold maxLen; omega) (keyOf_int_mk Tryz.underlying3 hx) (plainElem_int Tryz.underlying3 hv)
 have hM := ho.isMap
 obtain ⟨es, clock, hb, F, _, _⟩ := ho
 obtain ⟨v0, st, w1, hr1, ht1, hall⟩ := lay_fill hb F x hx
 obtain ⟨w2, hr2, hr3⟩ := hall (.int .i64 v)
 obtain rfl : w2 = w2' := by rw [hr3] at hrun'; injection hrun'
 exact ⟨v0, st, w1, w2, hr1, hr2, ⟨hk, _, ho', hV.put hM x v⟩, Upd.of_turned ht1 hk, Upd.of_turned ht' hk⟩
theorem two_map (κ : Kol) (i b n : Nat) (f g : Int → Option Int) (x y : Int) (hx : I64 x) (hy : I64 y) (hf : f x = none) (hg : g y = none) (hn : n < 1000000) (w : World) (h : TwoK κ i w b n f g) :
 Calls Tryz.prog 212 #[.pointer (some ⟨b, 0, none⟩), .int .i64 x, .int .i64 y] w fun e w' => e = .returned (.int .i64 0) ∧ TwoK κ i w' b (n + 1) (putF f x y) (putF g y x) ∧ Upd (fun c => c = i + 1 ∨ c = i + 2) κ w κ w' := by
 obtain ⟨m1, m2, hb, h1, h2⟩ := h
 have HB := ak hb
 have HM1 := ak h1
 have HM2 := ak h2
 obtain ⟨hk1, D, ho, hv⟩ := h1
 obtain ⟨hk2, D2, ho2, hv2⟩ := h2
 have s0 := hb.blk.at 0 (.map (some m1)) rfl
 have s1 := hb.blk.at 1 (.map (some m2)) rfl
 have HO := ak ho
 have HO2 := ak ho2
 have HX := ak hx
 have HY := ak hy
 have HV := ak hv
 have HV2 := ak hv2
 have HH := ak (show Maps.has D (.int .i64 x) = false by rw [(hv x hx).1, hf]; rfl)
 have HH2 := ak (show Maps.has D2 (.int .i64 y) = false by rw [(hv2 y hy).1, hg]; rfl)
 clear hb hk1 ho hv hx hy hk2 ho2 hv2 hf hg
 go_enter Tryz.func212, Tryz.ntmps212
 go_upto_region 4 with (at_lookup; refine wpList_lookup_own_ok_int _ rfl _ _ 127 rfl 3 3 .i64 int_law Tryz.underlying127 Tryz.underlying3 (zero_int _) m1 n D rfl HO.1 _ (.int .i64 x) rfl (keyOf_int_mk Tryz.underlying3 HX.1) ?_; intro c hat hwc; rw [HH.1]; clear hat hwc)
 go_upto_region 5 with (at_lookup; refine wpList_lookup_own_ok_int _ rfl _ _ 127 rfl 3 3 .i64 int_law Tryz.underlying127 Tryz.underlying3 (zero_int _) m2 n D2 rfl HO2.1 _ (.int .i64 y) rfl (keyOf_int_mk Tryz.underlying3 HY.1) ?_; intro c2 hat hwc; rw [HH2.1]; clear hat hwc)
 go_upto_region 7 with fail
 refine st_ 18 (fun w' => w'.cell? ⟨b, 0, none⟩ = some (.map (some m1)) ∧ w'.cell? ⟨b, 1, none⟩ = some (.map (some m2))) [12, 14, 15, 17] ⟨s0, s1⟩ (fun hHeld => ?_)
 have hd_ := below_drew (RowKit.Below.refl w.heap.size w)
 have HU0 := ak (Upd.of_below (I := fun c => c = i + 1 ∨ c = i + 2) κ hd_)
 have n0_ := ak (HB.1.below hd_)
 have n1_ := ak (HM1.1.below hd_)
 have n2_ := ak (HM2.1.below hd_)
 clear HB HM1 HM2 HO HO2 HV HV2 s0 s1 hd_
 generalize w.drew = wd at *
 have HB := n0_
 have HM1 := n1_
 have HM2 := n2_
 clear n0_ n1_ n2_
 obtain ⟨v0, st, wA, wB, hr1, hr2, hm1, hu1, hu2⟩ := HM1.1.fill x y HX.1 HY.1 hn
 have HM1B := ak hm1
 have HU1 := ak hu2
 have HM2B := ak (HM2.1.upd hu2 (by omega))
 obtain ⟨v1, st2, wC, wD, hr3, hr4, hm2, hu3, hu4⟩ := HM2B.1.fill y x HY.1 HX.1 hn
 have HM2D := ak hm2
 have HU2 := ak hu4
 clear hm1 hu1 hu2 hm2 hu3 hu4
 refine pu_ 0 35 1 ?_
 refine pu_ 1 36 3 ?_
 refine pu_ 2 37 7 ?_
 refine pu_ 4 39 23 ?_
 refine pu_ 5 40 55 ?_
 refine pu_ 6 41 119 ?_
 refine pu_ 7 42 247 ?_
 refine pu_ 9 44 759 ?_
 refine pu_ 10 45 1783 ?_
 refine pu_ 11 46 3831 ?_
 refine ta_ 3 38 3839 hHeld ?_
 refine ta_ 8 43 4095 hHeld ?_
 refine last_ (i := 12) (N := some 47) (bz 18 8191) rfl rfl (by kernel_rfl) (by decide) (fun K hK => ?_)
 refine va_ ?_
 refine hK.out _ _ ?_
 clear hK K
 refine no_ 47 ?_
 refine pu_ 13 48 16383 ?_
 refine last_ (i := 14) (N := none) (bz 18 32767) rfl rfl (by kernel_rfl) (by decide) (fun K hK => ?_)
 refine skip_ (w1 := ?_) (by rfl) rfl ?_ ?_
 rotate_left
 ·go_simp
  rfl
 refine hK.out _ _ ?_
 clear hK K
 refine last_ (i := 15) (N := some 49) (bz 18 65535) rfl rfl (by kernel_rfl) (by decide) (fun K hK => ?_)
 refine va_ ?_
 refine hK.out _ _ ?_
 clear hK K
 refine no_ 49 ?_
 refine pu_ 16 50 131071 ?_
 refine last_ (i := 17) (N := none) (bz 18 262143) rfl rfl (by kernel_rfl) (by decide) (fun K hK => ?_)
 refine skip_ (w1 := ?_) (by rfl) rfl ?_ ?_
 rotate_left
 ·go_simp
  rfl
 refine hK.out _ _ ?_
 clear hK K
 refine done_ (by kernel_rfl) ?_
 go_wp2_with fail
 go_ret
 exact ⟨rfl, ⟨m1, m2, (HB.1.upd HU1.1 (by omega)).upd HU2.1 (by omega), HM1B.1.upd HU2.1 (by omega), HM2D.1⟩, (HU0.1.then (HU1.1.mono (J := fun c => c = i + 1 ∨ c = i + 2) (fun c e => Or.inl e)) (fun c e => e)).then HU2.1 (fun c e => Or.inr e)⟩
end Go.Proofs.YtenkdmloolbdaaaGreatDoor.T
end
section
namespace Go.Proofs.YtenkdmloolbdaaaGreatDoor.T
open Go.RowKit Go.Maps Go.WideShapes Go.Proofs.YtenkdmloolbdaaaGreatDoorW.PrintWords Go.Proofs.YtenkdmloolbdaaaGreatDoorW.PrintLast Go.Proofs.YtenkdmloolbdaaaGreatDoorW.PrintMore
def inS (s : List Nat) (k : Int) : Bool := s.any (fun x => decide ((x : Int) = k))
theorem inS_nat (s : List Nat) (k : Nat) : inS s (k : Int) = decide (k ∈ s) := by
 unfold inS
 rw [Bool.eq_iff_iff]
 simp only [List.any_eq_true, decide_eq_true_eq]
 constructor
 ·rintro ⟨x, hx, e⟩
  have : x = k := by omega
  exact this ▸ hx
 ·intro h
  exact ⟨k, h, rfl⟩
structure SV (D : DataW Unit) (s : List Nat) : Prop where
 nodup : s.Nodup
 size : Maps.size D = s.length
 view : ∀ k, I64 k → Maps.has D (.int .i64 k) = inS s k ∧ D.atKey (.int .i64 k) (.lit (.bool false)) = .lit (.bool (inS s k))
theorem own_tight {w : World} {k : TypeId} {R : Value → Option (DataW Unit × List MemPlace)} {b n : Nat} {D : DataW Unit} (h : w.ownsMap Tryz.prog k R b n D) : w.ownsMap Tryz.prog k R b (Maps.size D) D := by
 obtain ⟨es, clock, hb, F, hs, rfl⟩ := h
 exact ⟨es, clock, hb, F, by simp [Maps.size, length_sorted], rfl⟩
structure SetK (κ : Kol) (i : Nat) (w : World) (b : Nat) (s : List Nat) : Prop where
 kol : κ b = i
 own : ∃ D : DataW Unit, w.ownsMap Tryz.prog 3 (plainElem Tryz.prog 4) b s.length D ∧ SV D s
theorem SetK.upd {I : Nat → Prop} {κ κ1 : Kol} {w w1 : World} {i b : Nat} {s : List Nat} (h : SetK κ i w b s) (k : Upd I κ w κ1 w1) (hi : ¬ I i) : SetK κ1 i w1 b s := by
 obtain ⟨hk, D, h1, h2⟩ := h
 exact ⟨(k.kol b h1.lt).trans hk, D, owns_chg h1 k.chg (fun e => hi (hk ▸ e)), h2⟩
theorem SetK.below {κ : Kol} {w w1 : World} {i b : Nat} {s : List Nat} (h : SetK κ i w b s) (k : RowKit.Below w.heap.size w w1) : SetK κ i w1 b s := by
 obtain ⟨hk, D, h1, h2⟩ := h
 exact ⟨hk, D, owns_chg (F := fun _ => False) h1 (Chg.of_below k) (fun e => e), h2⟩
theorem SV.del {D : DataW Unit} {s : List Nat} (h : SV D s) (hT : Tidy D) (k : Nat) (hk : k ∈ s) (hI : I64 (k : Int)) : SV (D.del (.int .i64 (k : Int))) (s.erase k) := by
 refine ⟨h.nodup.erase k, ?_, fun x hx => ?_⟩
 ·have h1 := size_del (k := .int .i64 (k : Int)) hT
  rw [(h.view k hI).1, inS_nat, decide_eq_true hk, h.size] at h1
  rw [List.length_erase_of_mem hk]
  simp at h1
  omega
 ·by_cases e : x = k
  ·subst e
   have hn : inS (s.erase k) (k : Int) = false := by
    rw [inS_nat]
    exact decide_eq_false (fun hm => ((h.nodup.mem_erase_iff).1 hm).1 rfl)
   rw [hn]
   exact ⟨has_del_same, atKey_del_same _⟩
  ·rw [has_del_other (key_ne e), atKey_del_other (key_ne e)]
   have hs : inS (s.erase k) x = inS s x := by
    unfold inS
    rw [Bool.eq_iff_iff]
    simp only [List.any_eq_true, decide_eq_true_eq]
    constructor
    ·rintro ⟨y, hy, rfl⟩
     exact ⟨y, List.mem_of_mem_erase hy, rfl⟩
    ·rintro ⟨y, hy, rfl⟩
     exact ⟨y, (h.nodup.mem_erase_iff).2 ⟨fun e2 => e (by rw [e2]), hy⟩, rfl⟩
   rw [hs]
   exact h.view x hx
theorem SV.put {D : DataW Unit} {s s1 : List Nat} (h : SV D s) (hT : Tidy D) (k : Nat) (hk : k ∉ s) (hI : I64 (k : Int)) (hp : s1.Perm (k :: s)) : SV (D.put (.int .i64 (k : Int)) (.lit (.bool true))) s1 := by
 refine ⟨(hp.nodup_iff).2 (List.nodup_cons.2 ⟨hk, h.nodup⟩), ?_, fun x hx => ?_⟩
 ·rw [size_put hT, (h.view k hI).1, inS_nat, decide_eq_false hk, h.size, hp.length_eq]
  simp
 ·have hs : inS s1 x = (decide ((k : Int) = x) || inS s x) := by
   unfold inS
   rw [Bool.eq_iff_iff]
   simp only [List.any_eq_true, decide_eq_true_eq, Bool.or_eq_true]
   constructor
   ·rintro ⟨y, hy, rfl⟩
    rcases List.mem_cons.1 (hp.mem_iff.1 hy) with rfl | h2
    ·exact .inl rfl
    ·exact .inr ⟨y, h2, rfl⟩
   ·rintro (e | ⟨y, hy, rfl⟩)
    ·exact ⟨k, hp.mem_iff.2 List.mem_cons_self, e⟩
    ·exact ⟨y, hp.mem_iff.2 (List.mem_cons_of_mem _ hy), rfl⟩
  rw [hs]
  by_cases e : x = k
  ·subst e
   rw [has_put_same hT.isMap (key_lit _), atKey_put_same hT.isMap (key_lit _)]
   simp
  ·rw [has_put_other (key_ne e), atKey_put_other (key_ne e), decide_eq_false (fun e2 => e e2.symm)]
   simpa using h.view x hx
def budCells (n : Nat) (m : Nat → Nat) (t : Nat) : Array Value := #[.int .i64 n, .map (some (m 0)), .map (some (m 1)), .map (some (m 2)), .map (some (m 3)), .map (some (m 4)), .map (some (m 5)), .map (some (m 6)), .map (some (m 7)), .map (some (m 8)), .map (some (m 9)), .map (some (m 10)), .map (some t)]
structure BuddyK (κ : Kol) (i : Nat) (w : World) (b n c : Nat) (fr : Nat → List Nat) (tk : Int → Option Int) : Prop where
 row : ∃ m t, BlkK κ i w b (budCells n m t) 199 ∧ (∀ k, k < 11 → SetK κ (i + 1 + k) w (m k) (fr k)) ∧ MapI κ (i + 12) w t c tk
theorem BuddyK.upd {I : Nat → Prop} {κ κ1 : Kol} {i b n c : Nat} {w w1 : World} {fr : Nat → List Nat} {tk : Int → Option Int} (h : BuddyK κ i w b n c fr tk) (k : Upd I κ w κ1 w1) (hi : ∀ c, c < 13 → ¬ I (i + c)) : BuddyK κ1 i w1 b n c fr tk := by
 obtain ⟨m, t, h1, h2, h3⟩ := h
 exact ⟨m, t, h1.upd k (hi 0 (by omega)), fun j hj => (h2 j hj).upd k (by have := hi (1 + j) (by omega); rwa [← Nat.add_assoc] at this), h3.upd k (hi 12 (by omega))⟩
theorem bud_at (n : Nat) (m : Nat → Nat) (t k : Nat) (hk : k < 11) : (budCells n m t)[k + 1]? = some (.map (some (m k))) := by
 match k, hk with
 | 0, _ => rfl
 | 1, _ => rfl
 | 2, _ => rfl
 | 3, _ => rfl
 | 4, _ => rfl
 | 5, _ => rfl
 | 6, _ => rfl
 | 7, _ => rfl
 | 8, _ => rfl
 | 9, _ => rfl
 | 10, _ => rfl
theorem right_own (b o : Nat) (ho : o < 11) (w : World) :
 Calls Tryz.prog 129 #[.pointer (some ⟨b, 0, none⟩), .int .i64 o] w fun e w' => e = .returned (.bool true) ∧ w' = w := by
 have o0 : (0 : Int) ≤ (o : Int) := by omega
 have o1 : (o : Int) < 11 := by omega
 go_enter Tryz.func129, Tryz.ntmps129
 go_wp2_with fail
 go_ret
 refine ⟨?_, rfl⟩
 simp [ho]
theorem SetK.len {κ : Kol} {i : Nat} {w : World} {b : Nat} {s : List Nat} (h : SetK κ i w b s) (ty : TypeId) : (Builtin.len_ #[196] ty #[.map (some b)]).run Tryz.prog w = .ok (.int .i64 (s.length : Int)) w := by
 obtain ⟨_, D, ho, hv⟩ := h
 have := ho.len Tryz.underlying196 ty
 rwa [hv.size] at this
def aboveOf (fr : Nat → List Nat) (o : Nat) (r : Option Nat) : Prop := match r with
 | some k => o ≤ k ∧ k < 11 ∧ fr k ≠ [] ∧ ∀ j, o ≤ j → j < k → fr j = []
 | none => ∀ j, o ≤ j → j < 11 → fr j = []
def RelAb (w : World) (o : Nat) (fr : Nat → List Nat) (v : Value) (wr : World) : Prop := wr = w ∧ ∃ j : Nat, v = .int .i64 j ∧ o ≤ j ∧ j ≤ 11 ∧ ∀ q, o ≤ q → q < j → fr q = []
theorem above_own (κ : Kol) (i b n c o : Nat) (fr : Nat → List Nat) (tk : Int → Option Int) (ho : o < 11) (w : World) (h : BuddyK κ i w b n c fr tk) :
 Calls Tryz.prog 130 #[.pointer (some ⟨b, 0, none⟩), .int .i64 o] w fun e w' => ∃ r, e = .returned (.tuple #[.int .i64 ((r.getD 0 : Nat) : Int), .bool r.isSome]) ∧ aboveOf fr o r ∧ w' = w := by
 obtain ⟨m, t, h1, h2, h3⟩ := h
 have HB := ak h1.blk
 have HS := ak h2
 clear h1 h2 h3
 go_enter Tryz.func130, Tryz.ntmps130
 go_wp2_with fail
 have H0 := ak (show RelAb w o fr (.int .i64 o) w from ⟨rfl, o, rfl, Nat.le_refl _, by omega, fun q h1 h2 => absurd h2 (by omega)⟩)
 go_loopw [6, 4, 5] (fun v6 _ _ wr => RelAb w o fr v6 wr) (fun v6 _ _ _ => 11 - (intOf v6).toNat)
 case atStart => exact H0.1
 case round =>
  clear H0
  obtain ⟨rfl, j, rfl, hj1, hj2, hj3⟩ := hrel
  have HE := ak hj3
  clear hj3
  by_cases hlt : j < 11
  ·have hltI : (j : Int) < 11 := by omega
   have j0 : (0 : Int) ≤ (j : Int) := by omega
   have s1 := HB.1.at (j + 1) _ (bud_at n m t j hlt)
   have s2 : wr.cell? ⟨b, 1 + j, none⟩ = some (.map (some (m j))) := by rw [Nat.add_comm]; exact s1
   have hlen := (HS.1 j hlt).len
   go_wp2_with fail
   ·rename_i hpos
    go_ret2
    exact ⟨some j, rfl, ⟨hj1, hlt, fun e => by rw [e] at hpos; exact absurd hpos (by simp), HE.1⟩, rfl⟩
   ·rename_i hpos
    have he : fr j = [] := List.length_eq_zero_iff.1 (by omega)
    refine ⟨⟨rfl, j + 1, by simp, by omega, by omega, fun q h1 h2 => ?_⟩, ?_⟩
    ·rcases Nat.lt_or_ge q j with h3 | h3
     ·exact HE.1 q h1 h3
     ·rw [show q = j by omega]; exact he
    ·simp only [intOf]; omega
  ·obtain rfl : j = 11 := by omega
   go_wp2_with fail
   go_ret2
   exact ⟨none, rfl, HE.1, rfl⟩
theorem has_own (κ : Kol) (i b n c o : Nat) (fr : Nat → List Nat) (tk : Int → Option Int) (ho : o < 11) (w : World) (h : BuddyK κ i w b n c fr tk) :
 Calls Tryz.prog 76 #[.pointer (some ⟨b, 0, none⟩), .int .i64 o] w fun e w' => ∃ r : Option Nat, e = .returned (.bool r.isSome) ∧ aboveOf fr o r ∧ w' = w := by
 have HR := ak (right_own b o ho w)
 have HA := ak (above_own κ i b n c o fr tk ho w h)
 clear h
 go_enter Tryz.func76, Tryz.ntmps76
 go_wp2_with (first | (go_at_call 129; (with_reducible refine HR.1.mono ?_); rintro e_ w1 ⟨rfl, rfl⟩) | (go_at_call 130; (with_reducible refine HA.1.mono ?_); rintro e_ w1 ⟨r, rfl, hr, rfl⟩; have HQ := ak hr; clear hr))
 go_ret
 exact ⟨r, rfl, HQ.1, rfl⟩
class SortI : Prop where
 run : ∀ (base g cap : Nat) (l : List Int) (w : World), w.ownsRow base 3 1 (.slice (some ⟨g, 0, none⟩) l.length cap) l.length (nums .i64 l) → l.length < 1000000 →
  Calls Tryz.prog 92 #[.slice (some ⟨g, 0, none⟩) l.length cap] w fun e w' => e = .returned (.tuple #[]) ∧ w'.ownsRow base 3 1 (.slice (some ⟨g, 0, none⟩) l.length cap) l.length (nums .i64 (l.mergeSort fun x y => decide (x ≤ y))) ∧ w.grownBy w' (some g)
structure Came (s : List Nat) (left : Lit → Bool) (cnt : Nat) (ss : List Int) : Prop where
 nodup : ss.Nodup
 mem : ∀ x : Int, I64 x → (inS s x = true ↔ (left (.int .i64 x) = true ∨ x ∈ ss))
 out : ∀ x ∈ ss, I64 x ∧ left (.int .i64 x) = false
 len : ss.length + cnt ≤ s.length
theorem Came.start {D : DataW Unit} {s : List Nat} (h : SV D s) : Came s (Maps.has D) (Maps.size D) [] :=
 ⟨List.nodup_nil, fun x hx => by rw [(h.view x hx).1]; simp, fun x hx => by simp at hx, by rw [h.size]; simp⟩
theorem Came.step {s : List Nat} {left : Lit → Bool} {cnt cnt1 : Nat} {ss : List Int} (h : Came s left cnt ss) (x : Int) (hx : I64 x) (hl : left (.int .i64 x) = true) (hc : cnt1 < cnt) :
 Came s (fun z => left z && !z.sameKey (.int .i64 x)) cnt1 (ss ++ [x]) := by
 have hn : x ∉ ss := fun hm => by rw [(h.out x hm).2] at hl; cases hl
 have hk : ∀ y : Int, (Lit.int .i64 y).sameKey (.int .i64 x) = decide (y = x) := fun y => by
  by_cases e : y = x
  ·subst e; simp [WideAt.sameKey_self (key_lit y)]
  ·rw [sameKey_ne (key_ne e), decide_eq_false e]
 refine ⟨?_, fun y hy => ?_, fun y hy => ?_, ?_⟩
 ·rw [List.nodup_append]
  exact ⟨h.nodup, by simp, fun a ha b hb e => by simp at hb; subst hb; exact hn (e ▸ ha)⟩
 ·rw [h.mem y hy, hk]
  by_cases e : y = x
  ·subst e; simp [hl]
  ·simp [e]
 ·rcases List.mem_append.1 hy with h1 | h1
  ·exact ⟨(h.out y h1).1, by simp [(h.out y h1).2]⟩
  ·simp at h1; subst h1
   exact ⟨hx, by simp [hk]⟩
 ·have := h.len; simp; omega
theorem Came.done {s : List Nat} {left : Lit → Bool} {cnt : Nat} {ss : List Int} (h : Came s left cnt ss) (hl : ∀ kl, left kl = false) (hs : s.Pairwise (· < ·)) (hI : ∀ x ∈ s, I64 (x : Int)) :
 (ss.mergeSort fun x y => decide (x ≤ y)) = s.map fun (x : Nat) => (x : Int) := by
 have hp : ss.Perm (s.map fun (x : Nat) => (x : Int)) := by
  rw [List.perm_ext_iff_of_nodup h.nodup ?_]
  ·intro a
   constructor
   ·intro ha
    have := (h.mem a (h.out a ha).1).2 (.inr ha)
    unfold inS at this
    obtain ⟨x, hx, e⟩ := List.any_eq_true.1 this
    exact List.mem_map.2 ⟨x, hx, by simpa using e⟩
   ·intro ha
    obtain ⟨x, hx, rfl⟩ := List.mem_map.1 ha
    have h1 : inS s (x : Int) = true := by rw [inS_nat]; exact decide_eq_true hx
    rcases (h.mem _ (hI x hx)).1 h1 with h2 | h2
    ·rw [hl] at h2; cases h2
    ·exact h2
  ·rw [List.nodup_iff_pairwise_ne, List.pairwise_map]
   exact hs.imp (fun {a b} hab e => by omega)
 refine List.Perm.eq_of_pairwise (le := fun (a b : Int) => a ≤ b) (fun a b _ _ h1 h2 => by omega) ?_ ?_ ((List.mergeSort_perm _ _).trans hp)
 ·have := List.pairwise_mergeSort (le := fun (x y : Int) => decide (x ≤ y)) (fun a b c h1 h2 => by simp at h1 h2 ⊢; omega) (fun a b => by simp; omega) ss
  exact this.imp (fun {a b} hab => by simpa using hab)
 ·rw [List.pairwise_map]
  exact hs.imp (fun {a b} hab => by omega)
theorem Came.full {s : List Nat} {left : Lit → Bool} {cnt : Nat} {ss : List Int} (h : Came s left cnt ss) (hl : ∀ kl, left kl = false) (hI : ∀ x ∈ s, I64 (x : Int)) (hs : s ≠ []) : ss ≠ [] := by
 intro e
 subst e
 cases s with
 | nil => exact hs rfl
 | cons x r =>
  have := (h.mem (x : Int) (hI x List.mem_cons_self)).1 (by rw [inS_nat]; simp)
  rcases this with h1 | h1
  ·rw [hl] at h1; cases h1
  ·simp at h1
theorem row_some {w : World} {base : Nat} {v : Value} {ss : List Int} (h : w.ownsRow base 3 1 v ss.length (nums .i64 ss)) (hn : ss ≠ []) : ∃ g cp, v = .slice (some ⟨g, 0, none⟩) ss.length cp := by
 rcases h.2 with ⟨_, h2⟩ | ⟨g, cap, cur, rfl, _⟩
 ·cases ss with
  | nil => exact absurd rfl hn
  | cons a b => simp [nums] at h2
 ·exact ⟨g, cap, rfl⟩
theorem bool_inv_of {P : Program} {e : TypeId} (he : P.underlying e = some .bool) {v : Value} {y : DataW Unit × List MemPlace} (h : plainElem P e v = some y) : ∃ c, v = Value.bool c := by
 unfold plainElem at h
 rw [he] at h
 cases v <;> simp at h
 exact ⟨_, rfl⟩
theorem bool_inv {v : Value} {y : DataW Unit × List MemPlace} (h : plainElem Tryz.prog 4 v = some y) : ∃ c, v = Value.bool c := bool_inv_of Tryz.underlying4 h
def RelRun (D : DataW Unit) (w : World) (m : Nat) (s : List Nat) (v5 : Value) (wr : World) : Prop :=
 ∃ left cnt ss, wr.ranges Tryz.prog 3 (plainElem Tryz.prog 4) m w.heap.size s.length D left cnt ∧ wr.ownsRow w.heap.size 3 1 v5 ss.length (nums .i64 ss) ∧ RowKit.Below w.heap.size w wr ∧ Came s left cnt ss
theorem runs_own [SortI] (κ : Kol) (i b n c o : Nat) (fr : Nat → List Nat) (tk : Int → Option Int) (ho : o < 11) (hne : fr o ≠ []) (hsort : (fr o).Pairwise (· < ·)) (hlen : (fr o).length < 100000) (hI : ∀ x ∈ fr o, I64 (x : Int)) (w : World) (h : BuddyK κ i w b n c fr tk) :
 Calls Tryz.prog 222 #[.pointer (some ⟨b, 0, none⟩), .int .i64 o] w fun e w' => ∃ A cp, e = .returned (.slice A (fr o).length cp) ∧ (Kd.int .i64).C w' A (fr o).length ((fr o).map fun (x : Nat) => (x : Int)) ∧ RowKit.Below w.heap.size w w' := by
 obtain ⟨m, t, h1, h2, h3⟩ := h
 obtain ⟨hk, D, hown, hsv⟩ := h2 o ho
 have HR := ak (right_own b o ho w)
 have s1 := h1.blk.at (o + 1) _ (bud_at n m t o ho)
 have s2 : w.cell? ⟨b, 1 + o, none⟩ = some (.map (some (m o))) := by rw [Nat.add_comm]; exact s1
 obtain ⟨mb, hmb⟩ : ∃ mb, m o = mb := ⟨_, rfl⟩
 obtain ⟨s, hs⟩ : ∃ s, fr o = s := ⟨_, rfl⟩
 rw [hmb] at hown s1 s2
 rw [hs] at hown hsv hne hsort hlen hI ⊢
 have HO := ak hown
 have HSV := ak hsv
 have o0 : (0 : Int) ≤ (o : Int) := by omega
 have o1 : (o : Int) < 11 := by omega
 have info3 : (Tryz.prog.info? 3).map (fun i => (i.zero, i.size, i.bytes)) = some (some (.int .i64 0), 1, 8) := by kernel_rfl
 clear h1 h2 h3 hk hown hsv hmb hs
 go_enter Tryz.func222, Tryz.ntmps222
 go_wp2_with (first | (go_at_call 129; (with_reducible refine HR.1.mono ?_); rintro e_ w1 ⟨rfl, rfl⟩) | (at_range; refine wpList_range_own _ rfl _ 196 rfl 3 4 int_law Tryz.underlying196 _ mb s.length D rfl HO.1 ?_; intro w0 hrg0 hg0 hs0; have HRG := ak hrg0; have HG0 := ak hg0; clear hrg0 hg0 hs0))
 have HB0 := ak (show RowKit.Below w1.heap.size w1 w0 from ⟨HG0.1.os, HG0.1.tape, HG0.1.output, HG0.1.size, fun k hk => HG0.1.block k hk (by simp)⟩)
 have H0 := ak (show RelRun D w1 mb s (.slice none 0 0) w0 from ⟨_, _, [], HRG.1, ⟨rfl, .inl ⟨rfl, rfl⟩⟩, HB0.1, Came.start HSV.1⟩)
 clear HRG HG0 HB0
 go_frame
 go_loopw [5, 6] (fun v5 _ wr => RelRun D w1 mb s v5 wr) (fun _ _ wr => wr.rangeLeft mb w1.heap.size)
 case atStart => exact H0.1
 case round =>
  clear H0
  obtain ⟨left, cnt, ss, hrg, hrow, hbel, hcm⟩ := hrel
  have HRG := ak hrg
  have HRW := ak hrow
  have HBL := ak hbel
  have HCM := ak hcm
  have HLE := ak hrg.left_eq
  have HNE := ak (row_ne_iter hrow hrg)
  have HNM := ak (show some mb ≠ u5.ownBlock from fun e => by have h1 := own_base hrow mb e.symm; have h2 := HO.1.lt; omega)
  have hsl : ss.length < 1000000 := by have := hcm.len; omega
  have HSL := ak hsl
  clear hrg hrow hbel hcm hsl
  go_wp2_with (first | (at_next; refine wpList_next_ranges _ rfl _ rfl 3 int_law (plainElem Tryz.prog 4) (Value.int .i64) Value.bool (fun key kl hk => by obtain ⟨x, rfl, _⟩ := Maps.keyOf_int_inv Tryz.underlying3 hk; exact ⟨x, rfl⟩) (fun v y hv => bool_inv hv) mb w1.heap.size s.length D left cnt rfl HRG.1 ?_ ?_; all_goals (first | (intro (hc0 : cnt = 0) hl0; have HL0 := ak hl0; clear hc0 hl0) | (intro x c kl y w2 cnt2 hk hl hv hat hrg2 hlt hg2 hs2 hen; obtain ⟨x', ex, rfl, hwx⟩ := Maps.keyOf_int_inv Tryz.underlying3 hk; cases ex; have HRG2 := ak hrg2; have HRW2 := ak (HRW.1.kept hg2 (.inr HNE.1.symm)); have HBL2 := ak (HBL.1.grown hg2 (by have := HBL.1.size; omega) (fun b e => by injection e with e; omega)); have HC2 := ak (HCM.1.step x hwx hl hlt); have HLT := ak hlt; clear hk hl hv hat hrg2 hlt hg2 hs2 hwx))) | (go_at_call 92; obtain ⟨g, cp, rfl⟩ := row_some HRW.1 (HCM.1.full HL0.1 hI hne); (with_reducible refine (SortI.run _ g cp ss _ HRW.1 (by have := HSL.1; omega)).mono ?_); rintro e_ w3 ⟨rfl, q1, q2⟩; have HQ := ak (And.intro q1 q2); clear q1 q2) | ((with_reducible refine gate_builtin (b := .append) (xs := #[.tmp 22, .tmp 24]) rfl ?_); at_builtin; refine print_append_num (w0 := w1) w1.heap.size rfl (.tmp 22) (.tmp 24) 34 3 .i64 8 rfl Tryz.underlying34 info3 (by decide) u5 ss x rfl rfl HRW2.1 HBL2.1 HBL2.1.size (by have := HSL.1; omega) ?_; intro v7 w7 ho hb hg hat; have HW7 := ak (And.intro ho (And.intro hb hg)); clear ho hb hg hat))
  ·have hd := HCM.1.done HL0.1 hsort hI
   have hl : ss.length = s.length := by
    have := congrArg List.length hd
    simpa using this
   have hown := HQ.1.1
   rw [hd] at hown
   go_ret
   refine ⟨some ⟨g, 0, none⟩, cp, by rw [hl]; rfl, ?_, HBL.1.grown HQ.1.2 HBL.1.size (fun b e => own_base hown b e)⟩
   obtain ⟨A, c, e, _, hC⟩ := Kd.R_reads (Kd.R_of_own (enc := Value.int .i64) (h1 := fun _ => rfl) (ok := fun _ => True) (xs := s.map fun (x : Nat) => (x : Int)) (by rw [List.length_map, ← hl]; exact hown) (fun _ _ => trivial))
   injection e with e1 e2
   subst e1
   rw [List.length_map] at hC
   exact hC
  ·refine ⟨⟨_, cnt2, ss ++ [x], ?_, HW7.1.1, HW7.1.2.1, HC2.1⟩, ?_⟩
   ·exact HRG2.1.kept HW7.1.2.2 HNM.1 HNE.1
   ·rw [(HRG2.1.kept HW7.1.2.2 HNM.1 HNE.1).left_eq, HLE.1]
    exact HLT.1
theorem first_own [SortI] (κ : Kol) (i b n c o : Nat) (fr : Nat → List Nat) (tk : Int → Option Int) (ho : o < 11) (x : Nat) (r : List Nat) (hx : fr o = x :: r) (hsort : (fr o).Pairwise (· < ·)) (hlen : (fr o).length < 100000) (hI : ∀ x ∈ fr o, I64 (x : Int)) (w : World) (h : BuddyK κ i w b n c fr tk) :
 Calls Tryz.prog 197 #[.pointer (some ⟨b, 0, none⟩), .int .i64 o] w fun e w' => e = .returned (.int .i64 x) ∧ RowKit.Below w.heap.size w w' := by
 have HR := ak (runs_own κ i b n c o fr tk ho (by rw [hx]; simp) hsort hlen hI w h)
 rw [hx] at HR
 simp only [List.length_cons, List.map_cons] at HR
 have hp : (0 : Int) < (((r.length + 1 : Nat)) : Int) := by omega
 clear h hsort hlen hI
 go_enter Tryz.func197, Tryz.ntmps197
 go_wp2_with (go_at_call 222; (with_reducible refine HR.1.mono ?_); rintro e_ w1 ⟨A, cp, rfl, q1, q2⟩; have HB := ak q2; obtain ⟨ad, rfl, hc⟩ := Kd.at_int q1 0 (by omega) hp; have hc1 : w1.cell? ad = some (.int .i64 x) := hc; clear q1 q2 hc)
 go_ret
 exact ⟨rfl, HB.1⟩
end Go.Proofs.YtenkdmloolbdaaaGreatDoor.T
end
