/- The walk of messuageref27.Read, over a plain function. Condition: the numbers are bytes, not too many. -/
import Derived.Test.YtahagjdnjggdaaaR
import Derived.Outline
import Derived.Deep.DeepCutAuto
import Derived.Deep.DeepMust
namespace Go.Proofs.Ytahagjdnjggdaaa.T
open Go.RowKit Go.Proofs.YtahagjdnjggdaaaW.PrintWords Go.Proofs.YtahagjdnjggdaaaW.PrintLast Go.Proofs.YtahagjdnjggdaaaW.PrintMore
set_option linter.unusedVariables false
set_option linter.unusedSimpArgs false
def from51 (x : S51) : S45 := ⟨x.f0, x.f1, x.f2, x.f3, x.f4, x.f5, ⟨x.f6.f0, x.f6.f1, x.f6.f2⟩, x.f7⟩
def messuageref27_Read.f (_k : Nat) (l0 : List Int) : Option (List (S45) × Bool) := if byteOk l0 ∧ l0.length < 1000000000000 then (match decodeF l0.length l0 with | some m => some (m.map from51, true) | none => some ([], false)) else none
theorem messuageref27_Read.mono : ∀ a0 k, LeO (messuageref27_Read.f k a0) (messuageref27_Read.f (k + 1) a0) := fun _ _ _ h => h
def RefRel (w : World) (l0 : List Int) (s0 s4 : Value) (wr : World) : Prop :=
  ∃ (rest : List Int) (A : Option Addr) (c : Nat) (out : List S51) (n : Nat), s0 = .slice A rest.length c ∧ Kd.C (Kd.int .u8) w A rest.length rest ∧ rest.length ≤ c ∧ byteOk rest ∧ rest.length ≤ n ∧ out.length + rest.length ≤ l0.length ∧
    Kd.S k45 45 wr w.heap.size (fun k => w.heap.size ≤ k) s4 (out.map from51) ∧ Below w.heap.size w wr ∧ decodeF l0.length l0 = (decodeF n rest).map (out ++ ·)
def RefPost (w : World) (l0 : List Int) (e : Ending) (w' : World) : Prop :=
  ∃ (v0 : Value) (r1 : List S45) (r2 : Bool), e = .returned (.tuple #[v0, .bool r2]) ∧ (match decodeF l0.length l0 with | some m => (m.map from51, true) | none => ([], false)) = (r1, r2) ∧ Kd.S k45 45 w' w.heap.size (fun k => w.heap.size ≤ k) v0 r1 ∧ Below w.heap.size w w'
theorem told_bit : ∀ x : Int, 0 ≤ x → x < 32 → (bits BinOp.and IntKind.u8 x 16 != 0) = decide (16 ≤ x) := by
  intro x h0 h1
  obtain ⟨n, rfl⟩ := Int.eq_ofNat_of_zero_le h0
  have h2 : n < 32 := by omega
  revert h2; revert n
  have : ∀ n : Fin 32, (bits BinOp.and IntKind.u8 ((n.val : Nat) : Int) 16 != 0) = decide (16 ≤ ((n.val : Nat) : Int)) := by decide
  exact fun n _ _ h => this ⟨n, h⟩
theorem tmod16 (x : Int) (h : 0 ≤ x) : Int.tmod x 16 = x % 16 := Int.tmod_eq_emod_of_nonneg h

def messuageref27_Read.T6 : Bool × List (List Nat × List Nat) := (true, [([], []), ([], []), ([1], [1]), ([2], [2]), ([3], [3]), ([], []), ([5], [5]), ([6], [6]), ([7], [7]), ([], []), ([9], [9]), ([10], [10]), ([11], [11]), ([12], [12]), ([], []), ([14], [14]), ([15], [15]), ([16], [16]), ([13, 17], [13, 17]), ([], []), ([19], [19]), ([20], [20]), ([21], [21]), ([22], [22]), ([], []), ([24], [24]), ([25], [25]), ([26], [26]), ([23, 27], [23, 27]), ([], []), ([29], [29]), ([30], [30]), ([31], [31]), ([32], [32]), ([], []), ([34], [34]), ([35], [35]), ([36], [36]), ([33, 37], [33, 37]), ([], []), ([], []), ([], []), ([40, 41], [40, 41]), ([39, 42], [39, 42]), ([], []), ([44], [44]), ([45], [45]), ([46], [46]), ([47], [47]), ([], []), ([49], [49]), ([50], [50]), ([], []), ([52], [52]), ([53], [53]), ([54], [54]), ([48, 51, 55], [48, 51, 55]), ([], []), ([57], [57]), ([58], [58]), ([59], [59]), ([4, 8, 18, 28, 38, 43, 56, 60], [4, 8, 18, 28, 38, 43, 56, 60]), ([61], [61]), ([0, 62, 43], [0, 62]), ([63, 63, 0, 1, 2, 3, 4, 5, 6, 7, 8, 9, 10, 11, 12, 13, 14, 15, 16, 17, 18, 19, 20, 21, 22, 23, 24, 25, 26, 27, 28, 29, 30, 31, 32, 33, 34, 35, 36, 37, 38, 39, 40, 41, 42, 43, 44, 45, 46, 47, 48, 49, 50, 51, 52, 53, 54, 55, 56, 57, 58, 59, 60, 61, 62, 63], [0, 63])])
def messuageref27_Read.B6 : List Nat := [0, 0, 2, 6, 14, 0, 32, 96, 224, 0, 512, 1536, 3584, 7680, 0, 16384, 49152, 114688, 261632, 0, 524288, 1572864, 3670016, 7864320, 0, 16777216, 50331648, 117440512, 267911168, 0, 536870912, 1610612736, 3758096384, 8053063680, 0, 17179869184, 51539607552, 120259084288, 274341036032, 0, 0, 0, 3298534883328, 8246337208320, 0, 17592186044416, 52776558133248, 123145302310912, 263882790666240, 0, 562949953421312, 1688849860263936, 0, 4503599627370496, 13510798882111488, 31525197391593472, 72040001851883520, 0, 144115188075855872, 432345564227567616, 1008806316530991104, 2305843009213693950, 4611686018427387902, 9223372036854775807, 18446744073709551615]
theorem messuageref27_Read.tab6 : rtab .any (opsOf Try.f14 6) = messuageref27_Read.T6 := by kernel_rfl
theorem messuageref27_Read.bits6 : waitsOk messuageref27_Read.T6.2 messuageref27_Read.B6 = true := by kernel_rfl
set_option maxHeartbeats 8000000 in
set_option maxRecDepth 100000 in
theorem refread_any (A0 : Option Addr) (c0 : Nat) (l0 : List Int) (w : World) (hr0 : Kd.C (Kd.int .u8) w A0 l0.length l0) (hc0 : l0.length ≤ c0) (hb : byteOk l0) (hlen : l0.length < 1000000000000) :
    Calls Try.prog 14 #[.slice A0 l0.length c0] w fun e w' => RefPost w l0 e w' := by
  have H0 := Aside0.mk (show RefRel w l0 (.slice A0 l0.length c0) (.slice none 0 0) w from ⟨l0, A0, c0, [], l0.length, rfl, hr0, hc0, hb, Nat.le_refl _, by simp, Kd.S_nil _ _ _ _ _, Below.refl _ _, by simp⟩)
  have HLEN := Aside0.mk hlen
  clear hr0 hc0 hb hlen
  go_enter Try.func14, Try.ntmps14
  go_wp2_with fail
  go_loopw [0, 4] (fun s0 s4 wr => RefRel w l0 s0 s4 wr) (fun s0 _ _ => lenOf s0)
  case atStart => exact H0.out
  case round =>
    obtain ⟨rest, A, cp, out, n, rfl, hC, hcp, hby, hn, hol, hS, hB, hdec⟩ := hrel
    have HB := Aside0.mk hB
    have HS := Aside0.mk hS
    have HD := Aside0.mk hdec
    have HC := Aside0.mk hC
    have HBY := Aside0.mk hby
    have HOL := Aside0.mk hol
    clear hB hS hdec hC hby hol
    have hlen2 : rest.length < 140737488355328 := by have := HLEN.out; have := HOL.out; omega
    by_cases hne : rest.length = 0
    · have hnil : rest = [] := List.eq_nil_of_length_eq_zero hne
      subst hnil
      have q : ¬ (0 : Int) < (([] : List Int).length : Int) := by simp
      go_wp2_with fail
      go_ret2
      refine ⟨_, out.map from51, true, rfl, ?_, HS.out, HB.out⟩
      rw [HD.out, decodeF_nil]
      simp
    · have q : (0 : Int) < (rest.length : Int) := by omega
      have q0 : 0 < rest.length := by omega
      have hn0 : n ≠ 0 := by omega
      obtain ⟨m, rfl⟩ : ∃ m, n = m + 1 := ⟨n - 1, by omega⟩
      have hrn : rest ≠ [] := fun e => hne (by rw [e]; rfl)
      have hD1 : decodeF (m + 1) rest = if fits1 rest ∧ good1 rest = true then (decodeF m (rest.drop (sizeOf1 rest))).map (step1 rest :: ·) else none := by simp only [decodeF, if_neg hrn]
      have HD1 := Aside0.mk hD1
      have HNE := Aside0.mk hne
      clear hD1 hrn hne hn0
      by_cases hl : rest.length < 12
      · have hli : (rest.length : Int) < 12 := by omega
        go_wp2_with fail
        go_ret2
        refine ⟨_, [], false, rfl, ?_, Kd.S_nil _ _ _ _ _, HB.out⟩
        rw [HD.out, HD1.out, if_neg (fun h => by have := h.1.1; omega)]
        rfl
      · have hli : ¬ (rest.length : Int) < 12 := by omega
        have q11 : (11 : Int) < (rest.length : Int) := by omega
        have hCr := Kd.C_below HC.out HB.out
        have HCR := Aside0.mk hCr
        obtain ⟨b, o, rfl, hc⟩ := byteCells hCr q0
        have c0 := hc 0 (by omega)
        have c1 := hc 1 (by omega)
        have c2 := hc 2 (by omega)
        have c3 := hc 3 (by omega)
        have c4 := hc 4 (by omega)
        have c5 := hc 5 (by omega)
        have c6 := hc 6 (by omega)
        have c7 := hc 7 (by omega)
        have c8 := hc 8 (by omega)
        have c9 := hc 9 (by omega)
        have c10 := hc 10 (by omega)
        have c11 := hc 11 (by omega)
        rw [Nat.add_zero] at c0
        have d := fun i => byteOk_at HBY.out i
        have b0 := d 0
        have b1 := d 1
        have b2 := d 2
        have b3 := d 3
        have b4 := d 4
        have b5 := d 5
        have b6 := d 6
        have b7 := d 7
        have b8 := d 8
        have b9 := d 9
        have b10 := d 10
        have b11 := d 11
        have HX := Aside0.mk (show fits1 rest = (12 ≤ rest.length ∧ 12 + rest.getD 11 0 ≤ rest.length) from rfl)
        have HG : Aside0 (good1 rest = (decide (1 ≤ rest.getD 0 0 ∧ rest.getD 0 0 ≤ 12 ∧ rest.getD 8 0 % 16 ≤ 3) && decide (rest.getD 8 0 < 32))) := ⟨rfl⟩
        have HST : Aside0 (step1 rest = ⟨rest.getD 0 0, rest.getD 1 0, rest.getD 2 0 * 256 + rest.getD 3 0, rest.getD 4 0 * 256 + rest.getD 5 0, rest.getD 6 0 * 256 + rest.getD 7 0, (rest.take (12 + rest.getD 11 0).toNat).drop 12, ⟨rest.getD 8 0 % 16, rest.getD 9 0, rest.getD 10 0⟩, (bits BinOp.and IntKind.u8 (rest.getD 8 0) 16 != 0)⟩) := ⟨rfl⟩
        have HSZ : Aside0 (sizeOf1 rest = (12 + rest.getD 11 0).toNat) := ⟨rfl⟩
        clear hc d hCr
        generalize rest.getD 0 0 = x0 at *
        generalize rest.getD 1 0 = x1 at *
        generalize rest.getD 2 0 = x2 at *
        generalize rest.getD 3 0 = x3 at *
        generalize rest.getD 4 0 = x4 at *
        generalize rest.getD 5 0 = x5 at *
        generalize rest.getD 6 0 = x6 at *
        generalize rest.getD 7 0 = x7 at *
        generalize rest.getD 8 0 = x8 at *
        generalize rest.getD 9 0 = x9 at *
        generalize rest.getD 10 0 = x10 at *
        generalize rest.getD 11 0 = x11 at *
        have hbs : b < wr.heap.size := World.block_lt_of_cell? wr _ c11
        have w11 : IntKind.i64.wrap x11 = x11 := wraps_i64 _ (by omega) (by omega)
        have w12 : IntKind.i64.wrap (12 + x11) = 12 + x11 := wraps_i64 _ (by omega) (by omega)
        have tm := tmod16 x8 b8.1
        have q8 : (8 : Int) < (rest.length : Int) := by omega
        by_cases hf : (rest.length : Int) < 12 + x11
        · go_wp2_with fail
          go_ret2
          refine ⟨_, [], false, rfl, ?_, Kd.S_nil _ _ _ _ _, HB.out⟩
          rw [HD.out, HD1.out, if_neg (fun h => by have h2 := h.1; rw [HX.out] at h2; omega)]
          rfl
        · by_cases k1 : x0 < 1
          · go_wp2_with fail
            go_ret2
            refine ⟨_, [], false, rfl, ?_, Kd.S_nil _ _ _ _ _, HB.out⟩
            rw [HD.out, HD1.out, if_neg (fun h => by have h2 := h.2; rw [HG.out] at h2; simp at h2; omega)]
            rfl
          by_cases k2 : x0 > 12
          · have k2' : 12 < x0 := k2
            go_wp2_with fail
            go_ret2
            refine ⟨_, [], false, rfl, ?_, Kd.S_nil _ _ _ _ _, HB.out⟩
            rw [HD.out, HD1.out, if_neg (fun h => by have h2 := h.2; rw [HG.out] at h2; simp at h2; omega)]
            rfl
          have k2' : ¬ 12 < x0 := k2
          by_cases k3 : 3 < x8 % 16
          · have k3' : 3 < Int.tmod x8 16 := by rw [tm]; exact k3
            go_wp2_with fail
            go_ret2
            refine ⟨_, [], false, rfl, ?_, Kd.S_nil _ _ _ _ _, HB.out⟩
            rw [HD.out, HD1.out, if_neg (fun h => by have h2 := h.2; rw [HG.out] at h2; simp at h2; omega)]
            rfl
          have k3' : ¬ 3 < Int.tmod x8 16 := by rw [tm]; exact k3
          by_cases k4 : 19 < x8
          · go_wp2_with fail
            go_ret2
            refine ⟨_, [], false, rfl, ?_, Kd.S_nil _ _ _ _ _, HB.out⟩
            rw [HD.out, HD1.out, if_neg (fun h => by have h2 := h.2; rw [HG.out] at h2; simp at h2; omega)]
            rfl
          obtain ⟨i0, hi0, _, hsz0, _⟩ := info_parts info5
          obtain ⟨Am, sm, rm, lm⟩ := print_mid_of (P := Try.prog) (Value.int .u8) 0 26 5 .i64 .i64 Try.underlying26 hi0 hsz0 (some ⟨b, o, none⟩) cp rest 12 (12 + x11) (by omega) (by omega) (by omega) (by omega)
          obtain ⟨Ad, sd, rd1, ld⟩ := print_drop_of (P := Try.prog) (Value.int .u8) 0 26 5 .i64 Try.underlying26 hi0 hsz0 (some ⟨b, o, none⟩) cp rest (12 + x11) (by omega) (by omega) (by omega)
          have HRM := Aside0.mk rm
          have HRD := Aside0.mk rd1
          have hmid2 : (12 : Int).toNat = 12 := rfl
          simp only [hmid2] at sm HRM lm
          obtain ⟨told, htold⟩ : ∃ t, decide (16 ≤ x8) = t := ⟨_, rfl⟩
          obtain ⟨mid, hmid⟩ : ∃ t, (rest.take (12 + x11).toNat).drop 12 = t := ⟨_, rfl⟩
          obtain ⟨rs, hrs⟩ : ∃ t, rest.drop (12 + x11).toNat = t := ⟨_, rfl⟩
          have hml : mid.length ≤ 255 := by rw [← hmid, List.length_drop, List.length_take]; omega
          have hrl : rs.length + 12 ≤ rest.length := by rw [← hrs, List.length_drop]; omega
          have hrby : byteOk rs := by rw [← hrs]; exact byteOk_drop HBY.out _
          have hstep : from51 (step1 rest) = ⟨x0, x1, x2 * 256 + x3, x4 * 256 + x5, x6 * 256 + x7, mid, ⟨x8 % 16, x9, x10⟩, told⟩ := by
            rw [HST.out, hmid, told_bit x8 b8.1 (by omega), htold]; rfl
          have hgood : good1 rest = true := by rw [HG.out]; simp; omega
          have hfit : fits1 rest := by rw [HX.out]; omega
          have hszr : rest.drop (sizeOf1 rest) = rs := by rw [HSZ.out, hrs]
          rw [hmid] at sm HRM lm
          rw [hrs] at sd HRD ld
          have HSTEP := Aside0.mk hstep
          have HGOOD := Aside0.mk (And.intro hfit hgood)
          have HSZR := Aside0.mk hszr
          have HML := Aside0.mk hml
          have HRL := Aside0.mk hrl
          have HRBY := Aside0.mk hrby
          have vm0 : IntKind.i64.wrap x0 = x0 := wraps_i64 _ (by omega) (by omega)
          have vm1 : IntKind.i64.wrap x1 = x1 := wraps_i64 _ (by omega) (by omega)
          have vm2 : IntKind.i64.wrap x2 = x2 := wraps_i64 _ (by omega) (by omega)
          have vm3 : IntKind.i64.wrap x3 = x3 := wraps_i64 _ (by omega) (by omega)
          have vm4 : IntKind.i64.wrap x4 = x4 := wraps_i64 _ (by omega) (by omega)
          have vm5 : IntKind.i64.wrap x5 = x5 := wraps_i64 _ (by omega) (by omega)
          have vm6 : IntKind.i64.wrap x6 = x6 := wraps_i64 _ (by omega) (by omega)
          have vm7 : IntKind.i64.wrap x7 = x7 := wraps_i64 _ (by omega) (by omega)
          have vm10 : IntKind.i64.wrap x10 = x10 := wraps_i64 _ (by omega) (by omega)
          have vp2 : IntKind.i64.wrap (x2 * 256) = x2 * 256 := wraps_i64 _ (by omega) (by omega)
          have vp4 : IntKind.i64.wrap (x4 * 256) = x4 * 256 := wraps_i64 _ (by omega) (by omega)
          have vp6 : IntKind.i64.wrap (x6 * 256) = x6 * 256 := wraps_i64 _ (by omega) (by omega)
          have vq2 : IntKind.i64.wrap (x2 * 256 + x3) = x2 * 256 + x3 := wraps_i64 _ (by omega) (by omega)
          have vq4 : IntKind.i64.wrap (x4 * 256 + x5) = x4 * 256 + x5 := wraps_i64 _ (by omega) (by omega)
          have vq6 : IntKind.i64.wrap (x6 * 256 + x7) = x6 * 256 + x7 := wraps_i64 _ (by omega) (by omega)
          have vm8 : IntKind.i64.wrap (x8 % 16) = x8 % 16 := wraps_i64 _ (by omega) (by omega)
          have q1' : (1 : Int) < (rest.length : Int) := by omega
          have q2' : (2 : Int) < (rest.length : Int) := by omega
          have q3' : (3 : Int) < (rest.length : Int) := by omega
          have q4' : (4 : Int) < (rest.length : Int) := by omega
          have q5' : (5 : Int) < (rest.length : Int) := by omega
          have q6' : (6 : Int) < (rest.length : Int) := by omega
          have q7' : (7 : Int) < (rest.length : Int) := by omega
          have q8' : (8 : Int) < (rest.length : Int) := by omega
          have q9' : (9 : Int) < (rest.length : Int) := by omega
          have q10' : (10 : Int) < (rest.length : Int) := by omega
          clear hmid hrs hml hrl hrby hstep hgood hfit hszr hmid2 rm rd1
          go_upto_region 6 with (fail)

          refine start_ (n := 65) (S := fun w' => w'.cell? ⟨b, o, none⟩ = some (.int .u8 x0) ∧ w'.cell? ⟨b, o + 1, none⟩ = some (.int .u8 x1) ∧ w'.cell? ⟨b, o + 2, none⟩ = some (.int .u8 x2) ∧ w'.cell? ⟨b, o + 3, none⟩ = some (.int .u8 x3) ∧ w'.cell? ⟨b, o + 4, none⟩ = some (.int .u8 x4) ∧ w'.cell? ⟨b, o + 5, none⟩ = some (.int .u8 x5) ∧ w'.cell? ⟨b, o + 6, none⟩ = some (.int .u8 x6) ∧ w'.cell? ⟨b, o + 7, none⟩ = some (.int .u8 x7) ∧ w'.cell? ⟨b, o + 8, none⟩ = some (.int .u8 x8) ∧ w'.cell? ⟨b, o + 9, none⟩ = some (.int .u8 x9) ∧ w'.cell? ⟨b, o + 10, none⟩ = some (.int .u8 x10)) (ds := [63]) #[false, false, false, false, false, false, false, false, false, false, false, false, false, false, false, false, false, false, false, false, false, false, false, false, false, false, false, false, false, false, false, false, false, false, false, false, false, false, false, false, false, false, false, false, false, false, false, false, false, false, false, false, false, false, false, false, false, false, false, false, false, false, false, false, false] (by kernel_rfl) rfl rfl ⟨c0, c1, c2, c3, c4, c5, c6, c7, c8, c9, c10⟩ (fun hHeld => ?_)
          refine with_tabW messuageref27_Read.tab6 messuageref27_Read.bits6 (fun HT_ HW_ => ?_)
          have n1 := Aside0.mk (below_then HB.out HB.out.size (below_drew (Below.refl wr.heap.size wr)))
          have n2 := Aside0.mk (Kd.S_below HS.out (below_drew (Below.refl wr.heap.size wr)))
          have n3 := Aside0.mk (Kd.C_below HCR.out (below_drew (Below.refl wr.heap.size wr)))
          have d0 : wr.drew.cell? ⟨b, o, none⟩ = some (.int .u8 x0) := c0
          have d1 : wr.drew.cell? ⟨b, o + 1, none⟩ = some (.int .u8 x1) := c1
          have d2 : wr.drew.cell? ⟨b, o + 2, none⟩ = some (.int .u8 x2) := c2
          have d3 : wr.drew.cell? ⟨b, o + 3, none⟩ = some (.int .u8 x3) := c3
          have d4 : wr.drew.cell? ⟨b, o + 4, none⟩ = some (.int .u8 x4) := c4
          have d5 : wr.drew.cell? ⟨b, o + 5, none⟩ = some (.int .u8 x5) := c5
          have d6 : wr.drew.cell? ⟨b, o + 6, none⟩ = some (.int .u8 x6) := c6
          have d7 : wr.drew.cell? ⟨b, o + 7, none⟩ = some (.int .u8 x7) := c7
          have d8 : wr.drew.cell? ⟨b, o + 8, none⟩ = some (.int .u8 x8) := c8
          have d9 : wr.drew.cell? ⟨b, o + 9, none⟩ = some (.int .u8 x9) := c9
          have d10 : wr.drew.cell? ⟨b, o + 10, none⟩ = some (.int .u8 x10) := c10
          clear HB HS HCR c0 c1 c2 c3 c4 c5 c6 c7 c8 c9 c10
          generalize wr.drew = wd at *
          have HB := n1
          have HS := n2
          have HCD := n3
          clear n1 n2 n3
          have c0 := d0
          have c1 := d1
          have c2 := d2
          have c3 := d3
          have c4 := d4
          have c5 := d5
          have c6 := d6
          have c7 := d7
          have c8 := d8
          have c9 := d9
          have c10 := d10
          clear d0 d1 d2 d3 d4 d5 d6 d7 d8 d9 d10
          refine pure_ (i := 0) (N := some 52) (v := ?_) (a' := ?_) #[true, false, false, false, false, false, false, false, false, false, false, false, false, false, false, false, false, false, false, false, false, false, false, false, false, false, false, false, false, false, false, false, false, false, false, false, false, false, false, false, false, false, false, false, false, false, false, false, false, false, false, false, false, false, false, false, false, false, false, false, false, false, false, false, false] rfl rfl (any_of HT_.out (by kernel_rfl)) (fun _ _ _ h => h) (Or.inl ⟨by rfl, ?_⟩) ?_ ?_
          rotate_left
          · intro w'
            go_simp
            with_reducible rfl
          rotate_left
          · simp only [Act.put, List.setIfInBounds_toArray, List.set_cons_zero, List.set_cons_succ, i64_w, i32_w]
            rfl
          refine pure_ (i := 1) (N := some 53) (v := ?_) (a' := ?_) #[true, true, false, false, false, false, false, false, false, false, false, false, false, false, false, false, false, false, false, false, false, false, false, false, false, false, false, false, false, false, false, false, false, false, false, false, false, false, false, false, false, false, false, false, false, false, false, false, false, false, false, false, false, false, false, false, false, false, false, false, false, false, false, false, false] rfl rfl (any_of HT_.out (by kernel_rfl)) (fun _ _ _ h => h) (Or.inl ⟨by rfl, ?_⟩) ?_ ?_
          rotate_left
          · intro w'
            go_simp
            with_reducible rfl
          rotate_left
          · simp only [Act.put, List.setIfInBounds_toArray, List.set_cons_zero, List.set_cons_succ, i64_w, i32_w]
            rfl
          refine pure_ (i := 2) (N := some 54) (v := ?_) (a' := ?_) #[true, true, true, false, false, false, false, false, false, false, false, false, false, false, false, false, false, false, false, false, false, false, false, false, false, false, false, false, false, false, false, false, false, false, false, false, false, false, false, false, false, false, false, false, false, false, false, false, false, false, false, false, false, false, false, false, false, false, false, false, false, false, false, false, false] rfl rfl (any_of HT_.out (by kernel_rfl)) (fun _ _ _ h => h) (Or.inl ⟨by rfl, ?_⟩) ?_ ?_
          rotate_left
          · intro w'
            go_simp
            with_reducible rfl
          rotate_left
          · simp only [Act.put, List.setIfInBounds_toArray, List.set_cons_zero, List.set_cons_succ, i64_w, i32_w]
            rfl
          refine pure_ (i := 5) (N := some 57) (v := ?_) (a' := ?_) #[true, true, true, false, false, true, false, false, false, false, false, false, false, false, false, false, false, false, false, false, false, false, false, false, false, false, false, false, false, false, false, false, false, false, false, false, false, false, false, false, false, false, false, false, false, false, false, false, false, false, false, false, false, false, false, false, false, false, false, false, false, false, false, false, false] rfl rfl (any_of HT_.out (by kernel_rfl)) (fun _ _ _ h => h) (Or.inl ⟨by rfl, ?_⟩) ?_ ?_
          rotate_left
          · intro w'
            go_simp
            with_reducible rfl
          rotate_left
          · simp only [Act.put, List.setIfInBounds_toArray, List.set_cons_zero, List.set_cons_succ, i64_w, i32_w]
            rfl
          refine pure_ (i := 6) (N := some 58) (v := ?_) (a' := ?_) #[true, true, true, false, false, true, true, false, false, false, false, false, false, false, false, false, false, false, false, false, false, false, false, false, false, false, false, false, false, false, false, false, false, false, false, false, false, false, false, false, false, false, false, false, false, false, false, false, false, false, false, false, false, false, false, false, false, false, false, false, false, false, false, false, false] rfl rfl (any_of HT_.out (by kernel_rfl)) (fun _ _ _ h => h) (Or.inl ⟨by rfl, ?_⟩) ?_ ?_
          rotate_left
          · intro w'
            go_simp
            with_reducible rfl
          rotate_left
          · simp only [Act.put, List.setIfInBounds_toArray, List.set_cons_zero, List.set_cons_succ, i64_w, i32_w]
            rfl
          refine pure_ (i := 9) (N := some 61) (v := ?_) (a' := ?_) #[true, true, true, false, false, true, true, false, false, true, false, false, false, false, false, false, false, false, false, false, false, false, false, false, false, false, false, false, false, false, false, false, false, false, false, false, false, false, false, false, false, false, false, false, false, false, false, false, false, false, false, false, false, false, false, false, false, false, false, false, false, false, false, false, false] rfl rfl (any_of HT_.out (by kernel_rfl)) (fun _ _ _ h => h) (Or.inl ⟨by rfl, ?_⟩) ?_ ?_
          rotate_left
          · intro w'
            go_simp
            with_reducible rfl
          rotate_left
          · simp only [Act.put, List.setIfInBounds_toArray, List.set_cons_zero, List.set_cons_succ, i64_w, i32_w]
            rfl
          refine pure_ (i := 10) (N := some 62) (v := ?_) (a' := ?_) #[true, true, true, false, false, true, true, false, false, true, true, false, false, false, false, false, false, false, false, false, false, false, false, false, false, false, false, false, false, false, false, false, false, false, false, false, false, false, false, false, false, false, false, false, false, false, false, false, false, false, false, false, false, false, false, false, false, false, false, false, false, false, false, false, false] rfl rfl (any_of HT_.out (by kernel_rfl)) (fun _ _ _ h => h) (Or.inl ⟨by rfl, ?_⟩) ?_ ?_
          rotate_left
          · intro w'
            go_simp
            with_reducible rfl
          rotate_left
          · simp only [Act.put, List.setIfInBounds_toArray, List.set_cons_zero, List.set_cons_succ, i64_w, i32_w]
            rfl
          refine pure_ (i := 14) (N := some 66) (v := ?_) (a' := ?_) #[true, true, true, false, false, true, true, false, false, true, true, false, false, false, true, false, false, false, false, false, false, false, false, false, false, false, false, false, false, false, false, false, false, false, false, false, false, false, false, false, false, false, false, false, false, false, false, false, false, false, false, false, false, false, false, false, false, false, false, false, false, false, false, false, false] rfl rfl (any_of HT_.out (by kernel_rfl)) (fun _ _ _ h => h) (Or.inl ⟨by rfl, ?_⟩) ?_ ?_
          rotate_left
          · intro w'
            go_simp
            with_reducible rfl
          rotate_left
          · simp only [Act.put, List.setIfInBounds_toArray, List.set_cons_zero, List.set_cons_succ, i64_w, i32_w]
            rfl
          refine pure_ (i := 15) (N := some 67) (v := ?_) (a' := ?_) #[true, true, true, false, false, true, true, false, false, true, true, false, false, false, true, true, false, false, false, false, false, false, false, false, false, false, false, false, false, false, false, false, false, false, false, false, false, false, false, false, false, false, false, false, false, false, false, false, false, false, false, false, false, false, false, false, false, false, false, false, false, false, false, false, false] rfl rfl (any_of HT_.out (by kernel_rfl)) (fun _ _ _ h => h) (Or.inl ⟨by rfl, ?_⟩) ?_ ?_
          rotate_left
          · intro w'
            go_simp
            with_reducible rfl
          rotate_left
          · simp only [Act.put, List.setIfInBounds_toArray, List.set_cons_zero, List.set_cons_succ, i64_w, i32_w]
            rfl
          refine pure_ (i := 19) (N := some 71) (v := ?_) (a' := ?_) #[true, true, true, false, false, true, true, false, false, true, true, false, false, false, true, true, false, false, false, true, false, false, false, false, false, false, false, false, false, false, false, false, false, false, false, false, false, false, false, false, false, false, false, false, false, false, false, false, false, false, false, false, false, false, false, false, false, false, false, false, false, false, false, false, false] rfl rfl (any_of HT_.out (by kernel_rfl)) (fun _ _ _ h => h) (Or.inl ⟨by rfl, ?_⟩) ?_ ?_
          rotate_left
          · intro w'
            go_simp
            with_reducible rfl
          rotate_left
          · simp only [Act.put, List.setIfInBounds_toArray, List.set_cons_zero, List.set_cons_succ, i64_w, i32_w]
            rfl
          refine pure_ (i := 20) (N := some 72) (v := ?_) (a' := ?_) #[true, true, true, false, false, true, true, false, false, true, true, false, false, false, true, true, false, false, false, true, true, false, false, false, false, false, false, false, false, false, false, false, false, false, false, false, false, false, false, false, false, false, false, false, false, false, false, false, false, false, false, false, false, false, false, false, false, false, false, false, false, false, false, false, false] rfl rfl (any_of HT_.out (by kernel_rfl)) (fun _ _ _ h => h) (Or.inl ⟨by rfl, ?_⟩) ?_ ?_
          rotate_left
          · intro w'
            go_simp
            with_reducible rfl
          rotate_left
          · simp only [Act.put, List.setIfInBounds_toArray, List.set_cons_zero, List.set_cons_succ, i64_w, i32_w]
            rfl
          refine pure_ (i := 24) (N := some 76) (v := ?_) (a' := ?_) #[true, true, true, false, false, true, true, false, false, true, true, false, false, false, true, true, false, false, false, true, true, false, false, false, true, false, false, false, false, false, false, false, false, false, false, false, false, false, false, false, false, false, false, false, false, false, false, false, false, false, false, false, false, false, false, false, false, false, false, false, false, false, false, false, false] rfl rfl (any_of HT_.out (by kernel_rfl)) (fun _ _ _ h => h) (Or.inl ⟨by rfl, ?_⟩) ?_ ?_
          rotate_left
          · intro w'
            go_simp
            with_reducible rfl
          rotate_left
          · simp only [Act.put, List.setIfInBounds_toArray, List.set_cons_zero, List.set_cons_succ, i64_w, i32_w]
            rfl
          refine pure_ (i := 25) (N := some 77) (v := ?_) (a' := ?_) #[true, true, true, false, false, true, true, false, false, true, true, false, false, false, true, true, false, false, false, true, true, false, false, false, true, true, false, false, false, false, false, false, false, false, false, false, false, false, false, false, false, false, false, false, false, false, false, false, false, false, false, false, false, false, false, false, false, false, false, false, false, false, false, false, false] rfl rfl (any_of HT_.out (by kernel_rfl)) (fun _ _ _ h => h) (Or.inl ⟨by rfl, ?_⟩) ?_ ?_
          rotate_left
          · intro w'
            go_simp
            with_reducible rfl
          rotate_left
          · simp only [Act.put, List.setIfInBounds_toArray, List.set_cons_zero, List.set_cons_succ, i64_w, i32_w]
            rfl
          refine pure_ (i := 29) (N := some 81) (v := ?_) (a' := ?_) #[true, true, true, false, false, true, true, false, false, true, true, false, false, false, true, true, false, false, false, true, true, false, false, false, true, true, false, false, false, true, false, false, false, false, false, false, false, false, false, false, false, false, false, false, false, false, false, false, false, false, false, false, false, false, false, false, false, false, false, false, false, false, false, false, false] rfl rfl (any_of HT_.out (by kernel_rfl)) (fun _ _ _ h => h) (Or.inl ⟨by rfl, ?_⟩) ?_ ?_
          rotate_left
          · intro w'
            go_simp
            with_reducible rfl
          rotate_left
          · simp only [Act.put, List.setIfInBounds_toArray, List.set_cons_zero, List.set_cons_succ, i64_w, i32_w]
            rfl
          refine pure_ (i := 30) (N := some 82) (v := ?_) (a' := ?_) #[true, true, true, false, false, true, true, false, false, true, true, false, false, false, true, true, false, false, false, true, true, false, false, false, true, true, false, false, false, true, true, false, false, false, false, false, false, false, false, false, false, false, false, false, false, false, false, false, false, false, false, false, false, false, false, false, false, false, false, false, false, false, false, false, false] rfl rfl (any_of HT_.out (by kernel_rfl)) (fun _ _ _ h => h) (Or.inl ⟨by rfl, ?_⟩) ?_ ?_
          rotate_left
          · intro w'
            go_simp
            with_reducible rfl
          rotate_left
          · simp only [Act.put, List.setIfInBounds_toArray, List.set_cons_zero, List.set_cons_succ, i64_w, i32_w]
            rfl
          refine pure_ (i := 34) (N := some 86) (v := ?_) (a' := ?_) #[true, true, true, false, false, true, true, false, false, true, true, false, false, false, true, true, false, false, false, true, true, false, false, false, true, true, false, false, false, true, true, false, false, false, true, false, false, false, false, false, false, false, false, false, false, false, false, false, false, false, false, false, false, false, false, false, false, false, false, false, false, false, false, false, false] rfl rfl (any_of HT_.out (by kernel_rfl)) (fun _ _ _ h => h) (Or.inl ⟨by rfl, ?_⟩) ?_ ?_
          rotate_left
          · intro w'
            go_simp
            with_reducible rfl
          rotate_left
          · simp only [Act.put, List.setIfInBounds_toArray, List.set_cons_zero, List.set_cons_succ, i64_w, i32_w]
            rfl
          refine pure_ (i := 35) (N := some 87) (v := ?_) (a' := ?_) #[true, true, true, false, false, true, true, false, false, true, true, false, false, false, true, true, false, false, false, true, true, false, false, false, true, true, false, false, false, true, true, false, false, false, true, true, false, false, false, false, false, false, false, false, false, false, false, false, false, false, false, false, false, false, false, false, false, false, false, false, false, false, false, false, false] rfl rfl (any_of HT_.out (by kernel_rfl)) (fun _ _ _ h => h) (Or.inl ⟨by rfl, ?_⟩) ?_ ?_
          rotate_left
          · intro w'
            go_simp
            with_reducible rfl
          rotate_left
          · simp only [Act.put, List.setIfInBounds_toArray, List.set_cons_zero, List.set_cons_succ, i64_w, i32_w]
            rfl
          refine pure_ (i := 40) (N := some 92) (v := ?_) (a' := ?_) #[true, true, true, false, false, true, true, false, false, true, true, false, false, false, true, true, false, false, false, true, true, false, false, false, true, true, false, false, false, true, true, false, false, false, true, true, false, false, false, false, true, false, false, false, false, false, false, false, false, false, false, false, false, false, false, false, false, false, false, false, false, false, false, false, false] rfl rfl (any_of HT_.out (by kernel_rfl)) (fun _ _ _ h => h) (Or.inl ⟨by rfl, ?_⟩) ?_ ?_
          rotate_left
          · intro w'
            go_simp
            with_reducible rfl
          rotate_left
          · simp only [Act.put, List.setIfInBounds_toArray, List.set_cons_zero, List.set_cons_succ, i64_w, i32_w]
            rfl
          refine pure_ (i := 41) (N := some 93) (v := ?_) (a' := ?_) #[true, true, true, false, false, true, true, false, false, true, true, false, false, false, true, true, false, false, false, true, true, false, false, false, true, true, false, false, false, true, true, false, false, false, true, true, false, false, false, false, true, true, false, false, false, false, false, false, false, false, false, false, false, false, false, false, false, false, false, false, false, false, false, false, false] rfl rfl (any_of HT_.out (by kernel_rfl)) (fun _ _ _ h => h) (Or.inl ⟨by rfl, ?_⟩) ?_ ?_
          rotate_left
          · intro w'
            go_simp
            with_reducible rfl
          rotate_left
          · simp only [Act.put, List.setIfInBounds_toArray, List.set_cons_zero, List.set_cons_succ, i64_w, i32_w]
            rfl
          refine pure_ (i := 42) (N := some 94) (v := ?_) (a' := ?_) #[true, true, true, false, false, true, true, false, false, true, true, false, false, false, true, true, false, false, false, true, true, false, false, false, true, true, false, false, false, true, true, false, false, false, true, true, false, false, false, false, true, true, true, false, false, false, false, false, false, false, false, false, false, false, false, false, false, false, false, false, false, false, false, false, false] rfl rfl (any_of HT_.out (by kernel_rfl)) (fun _ _ _ h => h) (Or.inl ⟨by rfl, ?_⟩) ?_ ?_
          rotate_left
          · intro w'
            go_simp
            with_reducible rfl
          rotate_left
          · simp only [Act.put, List.setIfInBounds_toArray, List.set_cons_zero, List.set_cons_succ, i64_w, i32_w]
            rfl
          refine pure_ (i := 44) (N := some 96) (v := ?_) (a' := ?_) #[true, true, true, false, false, true, true, false, false, true, true, false, false, false, true, true, false, false, false, true, true, false, false, false, true, true, false, false, false, true, true, false, false, false, true, true, false, false, false, false, true, true, true, false, true, false, false, false, false, false, false, false, false, false, false, false, false, false, false, false, false, false, false, false, false] rfl rfl (any_of HT_.out (by kernel_rfl)) (fun _ _ _ h => h) (Or.inl ⟨by rfl, ?_⟩) ?_ ?_
          rotate_left
          · intro w'
            go_simp
            with_reducible rfl
          rotate_left
          · simp only [Act.put, List.setIfInBounds_toArray, List.set_cons_zero, List.set_cons_succ, i64_w, i32_w]
            rfl
          refine pure_ (i := 45) (N := some 97) (v := ?_) (a' := ?_) #[true, true, true, false, false, true, true, false, false, true, true, false, false, false, true, true, false, false, false, true, true, false, false, false, true, true, false, false, false, true, true, false, false, false, true, true, false, false, false, false, true, true, true, false, true, true, false, false, false, false, false, false, false, false, false, false, false, false, false, false, false, false, false, false, false] rfl rfl (any_of HT_.out (by kernel_rfl)) (fun _ _ _ h => h) (Or.inl ⟨by rfl, ?_⟩) ?_ ?_
          rotate_left
          · intro w'
            go_simp
            with_reducible rfl
          rotate_left
          · simp only [Act.put, List.setIfInBounds_toArray, List.set_cons_zero, List.set_cons_succ, i64_w, i32_w]
            rfl
          refine pure_ (i := 49) (N := some 101) (v := ?_) (a' := ?_) #[true, true, true, false, false, true, true, false, false, true, true, false, false, false, true, true, false, false, false, true, true, false, false, false, true, true, false, false, false, true, true, false, false, false, true, true, false, false, false, false, true, true, true, false, true, true, false, false, false, true, false, false, false, false, false, false, false, false, false, false, false, false, false, false, false] rfl rfl (any_of HT_.out (by kernel_rfl)) (fun _ _ _ h => h) (Or.inl ⟨by rfl, ?_⟩) ?_ ?_
          rotate_left
          · intro w'
            go_simp
            with_reducible rfl
          rotate_left
          · simp only [Act.put, List.setIfInBounds_toArray, List.set_cons_zero, List.set_cons_succ, i64_w, i32_w]
            rfl
          refine pure_ (i := 50) (N := some 102) (v := ?_) (a' := ?_) #[true, true, true, false, false, true, true, false, false, true, true, false, false, false, true, true, false, false, false, true, true, false, false, false, true, true, false, false, false, true, true, false, false, false, true, true, false, false, false, false, true, true, true, false, true, true, false, false, false, true, true, false, false, false, false, false, false, false, false, false, false, false, false, false, false] rfl rfl (any_of HT_.out (by kernel_rfl)) (fun _ _ _ h => h) (Or.inl ⟨by rfl, ?_⟩) ?_ ?_
          rotate_left
          · intro w'
            go_simp
            with_reducible rfl
          rotate_left
          · simp only [Act.put, List.setIfInBounds_toArray, List.set_cons_zero, List.set_cons_succ, i64_w, i32_w]
            rfl
          refine pure_ (i := 52) (N := some 104) (v := ?_) (a' := ?_) #[true, true, true, false, false, true, true, false, false, true, true, false, false, false, true, true, false, false, false, true, true, false, false, false, true, true, false, false, false, true, true, false, false, false, true, true, false, false, false, false, true, true, true, false, true, true, false, false, false, true, true, false, true, false, false, false, false, false, false, false, false, false, false, false, false] rfl rfl (any_of HT_.out (by kernel_rfl)) (fun _ _ _ h => h) (Or.inl ⟨by rfl, ?_⟩) ?_ ?_
          rotate_left
          · intro w'
            go_simp
            with_reducible rfl
          rotate_left
          · simp only [Act.put, List.setIfInBounds_toArray, List.set_cons_zero, List.set_cons_succ, i64_w, i32_w]
            rfl
          refine pure_ (i := 53) (N := some 105) (v := ?_) (a' := ?_) #[true, true, true, false, false, true, true, false, false, true, true, false, false, false, true, true, false, false, false, true, true, false, false, false, true, true, false, false, false, true, true, false, false, false, true, true, false, false, false, false, true, true, true, false, true, true, false, false, false, true, true, false, true, true, false, false, false, false, false, false, false, false, false, false, false] rfl rfl (any_of HT_.out (by kernel_rfl)) (fun _ _ _ h => h) (Or.inl ⟨by rfl, ?_⟩) ?_ ?_
          rotate_left
          · intro w'
            go_simp
            with_reducible rfl
          rotate_left
          · simp only [Act.put, List.setIfInBounds_toArray, List.set_cons_zero, List.set_cons_succ, i64_w, i32_w]
            rfl
          refine pure_ (i := 57) (N := some 109) (v := ?_) (a' := ?_) #[true, true, true, false, false, true, true, false, false, true, true, false, false, false, true, true, false, false, false, true, true, false, false, false, true, true, false, false, false, true, true, false, false, false, true, true, false, false, false, false, true, true, true, false, true, true, false, false, false, true, true, false, true, true, false, false, false, true, false, false, false, false, false, false, false] rfl rfl (any_of HT_.out (by kernel_rfl)) (fun _ _ _ h => h) (Or.inl ⟨by rfl, ?_⟩) ?_ ?_
          rotate_left
          · intro w'
            go_simp
            with_reducible rfl
          rotate_left
          · simp only [Act.put, List.setIfInBounds_toArray, List.set_cons_zero, List.set_cons_succ, i64_w, i32_w]
            rfl
          refine pure_ (i := 58) (N := some 110) (v := ?_) (a' := ?_) #[true, true, true, false, false, true, true, false, false, true, true, false, false, false, true, true, false, false, false, true, true, false, false, false, true, true, false, false, false, true, true, false, false, false, true, true, false, false, false, false, true, true, true, false, true, true, false, false, false, true, true, false, true, true, false, false, false, true, true, false, false, false, false, false, false] rfl rfl (any_of HT_.out (by kernel_rfl)) (fun _ _ _ h => h) (Or.inl ⟨by rfl, ?_⟩) ?_ ?_
          rotate_left
          · intro w'
            go_simp
            with_reducible rfl
          rotate_left
          · simp only [Act.put, List.setIfInBounds_toArray, List.set_cons_zero, List.set_cons_succ, i64_w, i32_w]
            rfl
          refine take_ (i := 3) (N := some 55) (v := ?_) (a' := ?_) #[true, true, true, true, false, true, true, false, false, true, true, false, false, false, true, true, false, false, false, true, true, false, false, false, true, true, false, false, false, true, true, false, false, false, true, true, false, false, false, false, true, true, true, false, true, true, false, false, false, true, true, false, true, true, false, false, false, true, true, false, false, false, false, false, false] rfl rfl (take_ofW HT_.out HW_.out (by kernel_rfl)) (fun _ _ _ h => h) (Or.inl ⟨by rfl, ?_⟩) hHeld ?_ ?_
          rotate_left
          · rintro w' ⟨s0, s1, s2, s3, s4, s5, s6, s7, s8, s9, s10⟩
            go_simp
            with_reducible rfl
          rotate_left
          · simp only [Act.put, List.setIfInBounds_toArray, List.set_cons_zero, List.set_cons_succ, i64_w, i32_w]
            rfl
          refine pure_ (i := 4) (N := some 56) (v := ?_) (a' := ?_) #[true, true, true, true, true, true, true, false, false, true, true, false, false, false, true, true, false, false, false, true, true, false, false, false, true, true, false, false, false, true, true, false, false, false, true, true, false, false, false, false, true, true, true, false, true, true, false, false, false, true, true, false, true, true, false, false, false, true, true, false, false, false, false, false, false] rfl rfl (any_of HT_.out (by kernel_rfl)) (fun _ _ _ h => h) (Or.inl ⟨by rfl, ?_⟩) ?_ ?_
          rotate_left
          · intro w'
            go_simp
            with_reducible rfl
          rotate_left
          · simp only [Act.put, List.setIfInBounds_toArray, List.set_cons_zero, List.set_cons_succ, i64_w, i32_w]
            rfl
          refine take_ (i := 7) (N := some 59) (v := ?_) (a' := ?_) #[true, true, true, true, true, true, true, true, false, true, true, false, false, false, true, true, false, false, false, true, true, false, false, false, true, true, false, false, false, true, true, false, false, false, true, true, false, false, false, false, true, true, true, false, true, true, false, false, false, true, true, false, true, true, false, false, false, true, true, false, false, false, false, false, false] rfl rfl (take_ofW HT_.out HW_.out (by kernel_rfl)) (fun _ _ _ h => h) (Or.inl ⟨by rfl, ?_⟩) hHeld ?_ ?_
          rotate_left
          · rintro w' ⟨s0, s1, s2, s3, s4, s5, s6, s7, s8, s9, s10⟩
            go_simp
            with_reducible rfl
          rotate_left
          · simp only [Act.put, List.setIfInBounds_toArray, List.set_cons_zero, List.set_cons_succ, i64_w, i32_w]
            rfl
          refine pure_ (i := 8) (N := some 60) (v := ?_) (a' := ?_) #[true, true, true, true, true, true, true, true, true, true, true, false, false, false, true, true, false, false, false, true, true, false, false, false, true, true, false, false, false, true, true, false, false, false, true, true, false, false, false, false, true, true, true, false, true, true, false, false, false, true, true, false, true, true, false, false, false, true, true, false, false, false, false, false, false] rfl rfl (any_of HT_.out (by kernel_rfl)) (fun _ _ _ h => h) (Or.inl ⟨by rfl, ?_⟩) ?_ ?_
          rotate_left
          · intro w'
            go_simp
            with_reducible rfl
          rotate_left
          · simp only [Act.put, List.setIfInBounds_toArray, List.set_cons_zero, List.set_cons_succ, i64_w, i32_w]
            rfl
          refine take_ (i := 11) (N := some 63) (v := ?_) (a' := ?_) #[true, true, true, true, true, true, true, true, true, true, true, true, false, false, true, true, false, false, false, true, true, false, false, false, true, true, false, false, false, true, true, false, false, false, true, true, false, false, false, false, true, true, true, false, true, true, false, false, false, true, true, false, true, true, false, false, false, true, true, false, false, false, false, false, false] rfl rfl (take_ofW HT_.out HW_.out (by kernel_rfl)) (fun _ _ _ h => h) (Or.inl ⟨by rfl, ?_⟩) hHeld ?_ ?_
          rotate_left
          · rintro w' ⟨s0, s1, s2, s3, s4, s5, s6, s7, s8, s9, s10⟩
            go_simp
            with_reducible rfl
          rotate_left
          · simp only [Act.put, List.setIfInBounds_toArray, List.set_cons_zero, List.set_cons_succ, i64_w, i32_w]
            rfl
          refine pure_ (i := 12) (N := some 64) (v := ?_) (a' := ?_) #[true, true, true, true, true, true, true, true, true, true, true, true, true, false, true, true, false, false, false, true, true, false, false, false, true, true, false, false, false, true, true, false, false, false, true, true, false, false, false, false, true, true, true, false, true, true, false, false, false, true, true, false, true, true, false, false, false, true, true, false, false, false, false, false, false] rfl rfl (any_of HT_.out (by kernel_rfl)) (fun _ _ _ h => h) (Or.inl ⟨by rfl, ?_⟩) ?_ ?_
          rotate_left
          · intro w'
            go_simp
            with_reducible rfl
          rotate_left
          · simp only [Act.put, List.setIfInBounds_toArray, List.set_cons_zero, List.set_cons_succ, i64_w, i32_w]
            rfl
          refine pure_ (i := 13) (N := some 65) (v := ?_) (a' := ?_) #[true, true, true, true, true, true, true, true, true, true, true, true, true, true, true, true, false, false, false, true, true, false, false, false, true, true, false, false, false, true, true, false, false, false, true, true, false, false, false, false, true, true, true, false, true, true, false, false, false, true, true, false, true, true, false, false, false, true, true, false, false, false, false, false, false] rfl rfl (any_of HT_.out (by kernel_rfl)) (fun _ _ _ h => h) (Or.inl ⟨by rfl, ?_⟩) ?_ ?_
          rotate_left
          · intro w'
            go_simp
            with_reducible rfl
          rotate_left
          · simp only [Act.put, List.setIfInBounds_toArray, List.set_cons_zero, List.set_cons_succ, i64_w, i32_w]
            rfl
          refine take_ (i := 16) (N := some 68) (v := ?_) (a' := ?_) #[true, true, true, true, true, true, true, true, true, true, true, true, true, true, true, true, true, false, false, true, true, false, false, false, true, true, false, false, false, true, true, false, false, false, true, true, false, false, false, false, true, true, true, false, true, true, false, false, false, true, true, false, true, true, false, false, false, true, true, false, false, false, false, false, false] rfl rfl (take_ofW HT_.out HW_.out (by kernel_rfl)) (fun _ _ _ h => h) (Or.inl ⟨by rfl, ?_⟩) hHeld ?_ ?_
          rotate_left
          · rintro w' ⟨s0, s1, s2, s3, s4, s5, s6, s7, s8, s9, s10⟩
            go_simp
            with_reducible rfl
          rotate_left
          · simp only [Act.put, List.setIfInBounds_toArray, List.set_cons_zero, List.set_cons_succ, i64_w, i32_w]
            rfl
          refine pure_ (i := 17) (N := some 69) (v := ?_) (a' := ?_) #[true, true, true, true, true, true, true, true, true, true, true, true, true, true, true, true, true, true, false, true, true, false, false, false, true, true, false, false, false, true, true, false, false, false, true, true, false, false, false, false, true, true, true, false, true, true, false, false, false, true, true, false, true, true, false, false, false, true, true, false, false, false, false, false, false] rfl rfl (any_of HT_.out (by kernel_rfl)) (fun _ _ _ h => h) (Or.inl ⟨by rfl, ?_⟩) ?_ ?_
          rotate_left
          · intro w'
            go_simp
            with_reducible rfl
          rotate_left
          · simp only [Act.put, List.setIfInBounds_toArray, List.set_cons_zero, List.set_cons_succ, i64_w, i32_w]
            rfl
          refine pure_ (i := 18) (N := some 70) (v := ?_) (a' := ?_) #[true, true, true, true, true, true, true, true, true, true, true, true, true, true, true, true, true, true, true, true, true, false, false, false, true, true, false, false, false, true, true, false, false, false, true, true, false, false, false, false, true, true, true, false, true, true, false, false, false, true, true, false, true, true, false, false, false, true, true, false, false, false, false, false, false] rfl rfl (any_of HT_.out (by kernel_rfl)) (fun _ _ _ h => h) (Or.inl ⟨by rfl, ?_⟩) ?_ ?_
          rotate_left
          · intro w'
            go_simp
            with_reducible rfl
          rotate_left
          · simp only [Act.put, List.setIfInBounds_toArray, List.set_cons_zero, List.set_cons_succ, i64_w, i32_w]
            rfl
          refine take_ (i := 21) (N := some 73) (v := ?_) (a' := ?_) #[true, true, true, true, true, true, true, true, true, true, true, true, true, true, true, true, true, true, true, true, true, true, false, false, true, true, false, false, false, true, true, false, false, false, true, true, false, false, false, false, true, true, true, false, true, true, false, false, false, true, true, false, true, true, false, false, false, true, true, false, false, false, false, false, false] rfl rfl (take_ofW HT_.out HW_.out (by kernel_rfl)) (fun _ _ _ h => h) (Or.inl ⟨by rfl, ?_⟩) hHeld ?_ ?_
          rotate_left
          · rintro w' ⟨s0, s1, s2, s3, s4, s5, s6, s7, s8, s9, s10⟩
            go_simp
            with_reducible rfl
          rotate_left
          · simp only [Act.put, List.setIfInBounds_toArray, List.set_cons_zero, List.set_cons_succ, i64_w, i32_w]
            rfl
          refine pure_ (i := 22) (N := some 74) (v := ?_) (a' := ?_) #[true, true, true, true, true, true, true, true, true, true, true, true, true, true, true, true, true, true, true, true, true, true, true, false, true, true, false, false, false, true, true, false, false, false, true, true, false, false, false, false, true, true, true, false, true, true, false, false, false, true, true, false, true, true, false, false, false, true, true, false, false, false, false, false, false] rfl rfl (any_of HT_.out (by kernel_rfl)) (fun _ _ _ h => h) (Or.inl ⟨by rfl, ?_⟩) ?_ ?_
          rotate_left
          · intro w'
            go_simp
            with_reducible rfl
          rotate_left
          · simp only [Act.put, List.setIfInBounds_toArray, List.set_cons_zero, List.set_cons_succ, i64_w, i32_w]
            rfl
          refine pure_ (i := 23) (N := some 75) (v := ?_) (a' := ?_) #[true, true, true, true, true, true, true, true, true, true, true, true, true, true, true, true, true, true, true, true, true, true, true, true, true, true, false, false, false, true, true, false, false, false, true, true, false, false, false, false, true, true, true, false, true, true, false, false, false, true, true, false, true, true, false, false, false, true, true, false, false, false, false, false, false] rfl rfl (any_of HT_.out (by kernel_rfl)) (fun _ _ _ h => h) (Or.inl ⟨by rfl, ?_⟩) ?_ ?_
          rotate_left
          · intro w'
            go_simp
            with_reducible rfl
          rotate_left
          · simp only [Act.put, List.setIfInBounds_toArray, List.set_cons_zero, List.set_cons_succ, i64_w, i32_w]
            rfl
          refine take_ (i := 26) (N := some 78) (v := ?_) (a' := ?_) #[true, true, true, true, true, true, true, true, true, true, true, true, true, true, true, true, true, true, true, true, true, true, true, true, true, true, true, false, false, true, true, false, false, false, true, true, false, false, false, false, true, true, true, false, true, true, false, false, false, true, true, false, true, true, false, false, false, true, true, false, false, false, false, false, false] rfl rfl (take_ofW HT_.out HW_.out (by kernel_rfl)) (fun _ _ _ h => h) (Or.inl ⟨by rfl, ?_⟩) hHeld ?_ ?_
          rotate_left
          · rintro w' ⟨s0, s1, s2, s3, s4, s5, s6, s7, s8, s9, s10⟩
            go_simp
            with_reducible rfl
          rotate_left
          · simp only [Act.put, List.setIfInBounds_toArray, List.set_cons_zero, List.set_cons_succ, i64_w, i32_w]
            rfl
          refine pure_ (i := 27) (N := some 79) (v := ?_) (a' := ?_) #[true, true, true, true, true, true, true, true, true, true, true, true, true, true, true, true, true, true, true, true, true, true, true, true, true, true, true, true, false, true, true, false, false, false, true, true, false, false, false, false, true, true, true, false, true, true, false, false, false, true, true, false, true, true, false, false, false, true, true, false, false, false, false, false, false] rfl rfl (any_of HT_.out (by kernel_rfl)) (fun _ _ _ h => h) (Or.inl ⟨by rfl, ?_⟩) ?_ ?_
          rotate_left
          · intro w'
            go_simp
            with_reducible rfl
          rotate_left
          · simp only [Act.put, List.setIfInBounds_toArray, List.set_cons_zero, List.set_cons_succ, i64_w, i32_w]
            rfl
          refine pure_ (i := 28) (N := some 80) (v := ?_) (a' := ?_) #[true, true, true, true, true, true, true, true, true, true, true, true, true, true, true, true, true, true, true, true, true, true, true, true, true, true, true, true, true, true, true, false, false, false, true, true, false, false, false, false, true, true, true, false, true, true, false, false, false, true, true, false, true, true, false, false, false, true, true, false, false, false, false, false, false] rfl rfl (any_of HT_.out (by kernel_rfl)) (fun _ _ _ h => h) (Or.inl ⟨by rfl, ?_⟩) ?_ ?_
          rotate_left
          · intro w'
            go_simp
            with_reducible rfl
          rotate_left
          · simp only [Act.put, List.setIfInBounds_toArray, List.set_cons_zero, List.set_cons_succ, i64_w, i32_w]
            rfl
          refine take_ (i := 31) (N := some 83) (v := ?_) (a' := ?_) #[true, true, true, true, true, true, true, true, true, true, true, true, true, true, true, true, true, true, true, true, true, true, true, true, true, true, true, true, true, true, true, true, false, false, true, true, false, false, false, false, true, true, true, false, true, true, false, false, false, true, true, false, true, true, false, false, false, true, true, false, false, false, false, false, false] rfl rfl (take_ofW HT_.out HW_.out (by kernel_rfl)) (fun _ _ _ h => h) (Or.inl ⟨by rfl, ?_⟩) hHeld ?_ ?_
          rotate_left
          · rintro w' ⟨s0, s1, s2, s3, s4, s5, s6, s7, s8, s9, s10⟩
            go_simp
            with_reducible rfl
          rotate_left
          · simp only [Act.put, List.setIfInBounds_toArray, List.set_cons_zero, List.set_cons_succ, i64_w, i32_w]
            rfl
          refine pure_ (i := 32) (N := some 84) (v := ?_) (a' := ?_) #[true, true, true, true, true, true, true, true, true, true, true, true, true, true, true, true, true, true, true, true, true, true, true, true, true, true, true, true, true, true, true, true, true, false, true, true, false, false, false, false, true, true, true, false, true, true, false, false, false, true, true, false, true, true, false, false, false, true, true, false, false, false, false, false, false] rfl rfl (any_of HT_.out (by kernel_rfl)) (fun _ _ _ h => h) (Or.inl ⟨by rfl, ?_⟩) ?_ ?_
          rotate_left
          · intro w'
            go_simp
            with_reducible rfl
          rotate_left
          · simp only [Act.put, List.setIfInBounds_toArray, List.set_cons_zero, List.set_cons_succ, i64_w, i32_w]
            rfl
          refine pure_ (i := 33) (N := some 85) (v := ?_) (a' := ?_) #[true, true, true, true, true, true, true, true, true, true, true, true, true, true, true, true, true, true, true, true, true, true, true, true, true, true, true, true, true, true, true, true, true, true, true, true, false, false, false, false, true, true, true, false, true, true, false, false, false, true, true, false, true, true, false, false, false, true, true, false, false, false, false, false, false] rfl rfl (any_of HT_.out (by kernel_rfl)) (fun _ _ _ h => h) (Or.inl ⟨by rfl, ?_⟩) ?_ ?_
          rotate_left
          · intro w'
            go_simp
            with_reducible rfl
          rotate_left
          · simp only [Act.put, List.setIfInBounds_toArray, List.set_cons_zero, List.set_cons_succ, i64_w, i32_w]
            rfl
          refine take_ (i := 36) (N := some 88) (v := ?_) (a' := ?_) #[true, true, true, true, true, true, true, true, true, true, true, true, true, true, true, true, true, true, true, true, true, true, true, true, true, true, true, true, true, true, true, true, true, true, true, true, true, false, false, false, true, true, true, false, true, true, false, false, false, true, true, false, true, true, false, false, false, true, true, false, false, false, false, false, false] rfl rfl (take_ofW HT_.out HW_.out (by kernel_rfl)) (fun _ _ _ h => h) (Or.inl ⟨by rfl, ?_⟩) hHeld ?_ ?_
          rotate_left
          · rintro w' ⟨s0, s1, s2, s3, s4, s5, s6, s7, s8, s9, s10⟩
            go_simp
            with_reducible rfl
          rotate_left
          · simp only [Act.put, List.setIfInBounds_toArray, List.set_cons_zero, List.set_cons_succ, i64_w, i32_w]
            rfl
          refine pure_ (i := 37) (N := some 89) (v := ?_) (a' := ?_) #[true, true, true, true, true, true, true, true, true, true, true, true, true, true, true, true, true, true, true, true, true, true, true, true, true, true, true, true, true, true, true, true, true, true, true, true, true, true, false, false, true, true, true, false, true, true, false, false, false, true, true, false, true, true, false, false, false, true, true, false, false, false, false, false, false] rfl rfl (any_of HT_.out (by kernel_rfl)) (fun _ _ _ h => h) (Or.inl ⟨by rfl, ?_⟩) ?_ ?_
          rotate_left
          · intro w'
            go_simp
            with_reducible rfl
          rotate_left
          · simp only [Act.put, List.setIfInBounds_toArray, List.set_cons_zero, List.set_cons_succ, i64_w, i32_w]
            rfl
          refine pure_ (i := 38) (N := some 90) (v := ?_) (a' := ?_) #[true, true, true, true, true, true, true, true, true, true, true, true, true, true, true, true, true, true, true, true, true, true, true, true, true, true, true, true, true, true, true, true, true, true, true, true, true, true, true, false, true, true, true, false, true, true, false, false, false, true, true, false, true, true, false, false, false, true, true, false, false, false, false, false, false] rfl rfl (any_of HT_.out (by kernel_rfl)) (fun _ _ _ h => h) (Or.inl ⟨by rfl, ?_⟩) ?_ ?_
          rotate_left
          · intro w'
            go_simp
            with_reducible rfl
          rotate_left
          · simp only [Act.put, List.setIfInBounds_toArray, List.set_cons_zero, List.set_cons_succ, i64_w, i32_w]
            rfl
          refine take_ (i := 46) (N := some 98) (v := ?_) (a' := ?_) #[true, true, true, true, true, true, true, true, true, true, true, true, true, true, true, true, true, true, true, true, true, true, true, true, true, true, true, true, true, true, true, true, true, true, true, true, true, true, true, false, true, true, true, false, true, true, true, false, false, true, true, false, true, true, false, false, false, true, true, false, false, false, false, false, false] rfl rfl (take_ofW HT_.out HW_.out (by kernel_rfl)) (fun _ _ _ h => h) (Or.inl ⟨by rfl, ?_⟩) hHeld ?_ ?_
          rotate_left
          · rintro w' ⟨s0, s1, s2, s3, s4, s5, s6, s7, s8, s9, s10⟩
            go_simp
            with_reducible rfl
          rotate_left
          · simp only [Act.put, List.setIfInBounds_toArray, List.set_cons_zero, List.set_cons_succ, i64_w, i32_w]
            rfl
          refine pure_ (i := 47) (N := some 99) (v := ?_) (a' := ?_) #[true, true, true, true, true, true, true, true, true, true, true, true, true, true, true, true, true, true, true, true, true, true, true, true, true, true, true, true, true, true, true, true, true, true, true, true, true, true, true, false, true, true, true, false, true, true, true, true, false, true, true, false, true, true, false, false, false, true, true, false, false, false, false, false, false] rfl rfl (any_of HT_.out (by kernel_rfl)) (fun _ _ _ h => h) (Or.inl ⟨by rfl, ?_⟩) ?_ ?_
          rotate_left
          · intro w'
            go_simp
            with_reducible rfl
          rotate_left
          · simp only [Act.put, List.setIfInBounds_toArray, List.set_cons_zero, List.set_cons_succ, i64_w, i32_w]
            rfl
          refine pure_ (i := 48) (N := some 100) (v := ?_) (a' := ?_) #[true, true, true, true, true, true, true, true, true, true, true, true, true, true, true, true, true, true, true, true, true, true, true, true, true, true, true, true, true, true, true, true, true, true, true, true, true, true, true, false, true, true, true, false, true, true, true, true, true, true, true, false, true, true, false, false, false, true, true, false, false, false, false, false, false] rfl rfl (any_of HT_.out (by kernel_rfl)) (fun _ _ _ h => h) (Or.inl ⟨by rfl, ?_⟩) ?_ ?_
          rotate_left
          · intro w'
            go_simp
            with_reducible rfl
          rotate_left
          · simp only [Act.put, List.setIfInBounds_toArray, List.set_cons_zero, List.set_cons_succ, i64_w, i32_w]
            rfl
          refine take_ (i := 51) (N := some 103) (v := ?_) (a' := ?_) #[true, true, true, true, true, true, true, true, true, true, true, true, true, true, true, true, true, true, true, true, true, true, true, true, true, true, true, true, true, true, true, true, true, true, true, true, true, true, true, false, true, true, true, false, true, true, true, true, true, true, true, true, true, true, false, false, false, true, true, false, false, false, false, false, false] rfl rfl (take_ofW HT_.out HW_.out (by kernel_rfl)) (fun _ _ _ h => h) (Or.inl ⟨by rfl, ?_⟩) hHeld ?_ ?_
          rotate_left
          · rintro w' ⟨s0, s1, s2, s3, s4, s5, s6, s7, s8, s9, s10⟩
            go_simp
            with_reducible rfl
          rotate_left
          · simp only [Act.put, List.setIfInBounds_toArray, List.set_cons_zero, List.set_cons_succ, i64_w, i32_w]
            rfl
          refine take_ (i := 54) (N := some 106) (v := ?_) (a' := ?_) #[true, true, true, true, true, true, true, true, true, true, true, true, true, true, true, true, true, true, true, true, true, true, true, true, true, true, true, true, true, true, true, true, true, true, true, true, true, true, true, false, true, true, true, false, true, true, true, true, true, true, true, true, true, true, true, false, false, true, true, false, false, false, false, false, false] rfl rfl (take_ofW HT_.out HW_.out (by kernel_rfl)) (fun _ _ _ h => h) (Or.inl ⟨by rfl, ?_⟩) hHeld ?_ ?_
          rotate_left
          · rintro w' ⟨s0, s1, s2, s3, s4, s5, s6, s7, s8, s9, s10⟩
            go_simp
            with_reducible rfl
          rotate_left
          · simp only [Act.put, List.setIfInBounds_toArray, List.set_cons_zero, List.set_cons_succ, i64_w, i32_w]
            rfl
          refine pure_ (i := 55) (N := some 107) (v := ?_) (a' := ?_) #[true, true, true, true, true, true, true, true, true, true, true, true, true, true, true, true, true, true, true, true, true, true, true, true, true, true, true, true, true, true, true, true, true, true, true, true, true, true, true, false, true, true, true, false, true, true, true, true, true, true, true, true, true, true, true, true, false, true, true, false, false, false, false, false, false] rfl rfl (any_of HT_.out (by kernel_rfl)) (fun _ _ _ h => h) (Or.inl ⟨by rfl, ?_⟩) ?_ ?_
          rotate_left
          · intro w'
            go_simp
            with_reducible rfl
          rotate_left
          · simp only [Act.put, List.setIfInBounds_toArray, List.set_cons_zero, List.set_cons_succ, i64_w, i32_w]
            rfl
          refine pure_ (i := 56) (N := some 108) (v := ?_) (a' := ?_) #[true, true, true, true, true, true, true, true, true, true, true, true, true, true, true, true, true, true, true, true, true, true, true, true, true, true, true, true, true, true, true, true, true, true, true, true, true, true, true, false, true, true, true, false, true, true, true, true, true, true, true, true, true, true, true, true, true, true, true, false, false, false, false, false, false] rfl rfl (any_of HT_.out (by kernel_rfl)) (fun _ _ _ h => h) (Or.inl ⟨by rfl, ?_⟩) ?_ ?_
          rotate_left
          · intro w'
            go_simp
            with_reducible rfl
          rotate_left
          · simp only [Act.put, List.setIfInBounds_toArray, List.set_cons_zero, List.set_cons_succ, i64_w, i32_w]
            rfl
          refine take_ (i := 59) (N := some 111) (v := ?_) (a' := ?_) #[true, true, true, true, true, true, true, true, true, true, true, true, true, true, true, true, true, true, true, true, true, true, true, true, true, true, true, true, true, true, true, true, true, true, true, true, true, true, true, false, true, true, true, false, true, true, true, true, true, true, true, true, true, true, true, true, true, true, true, true, false, false, false, false, false] rfl rfl (take_ofW HT_.out HW_.out (by kernel_rfl)) (fun _ _ _ h => h) (Or.inl ⟨by rfl, ?_⟩) hHeld ?_ ?_
          rotate_left
          · rintro w' ⟨s0, s1, s2, s3, s4, s5, s6, s7, s8, s9, s10⟩
            go_simp
            with_reducible rfl
          rotate_left
          · simp only [Act.put, List.setIfInBounds_toArray, List.set_cons_zero, List.set_cons_succ, i64_w, i32_w]
            rfl
          refine pure_ (i := 60) (N := some 112) (v := ?_) (a' := ?_) #[true, true, true, true, true, true, true, true, true, true, true, true, true, true, true, true, true, true, true, true, true, true, true, true, true, true, true, true, true, true, true, true, true, true, true, true, true, true, true, false, true, true, true, false, true, true, true, true, true, true, true, true, true, true, true, true, true, true, true, true, true, false, false, false, false] rfl rfl (any_of HT_.out (by kernel_rfl)) (fun _ _ _ h => h) (Or.inl ⟨by rfl, ?_⟩) ?_ ?_
          rotate_left
          · intro w'
            go_simp
            with_reducible rfl
          rotate_left
          · simp only [Act.put, List.setIfInBounds_toArray, List.set_cons_zero, List.set_cons_succ, i64_w, i32_w]
            rfl
          refine one_ (i := 39) (N := some 91) #[true, true, true, true, true, true, true, true, true, true, true, true, true, true, true, true, true, true, true, true, true, true, true, true, true, true, true, true, true, true, true, true, true, true, true, true, true, true, true, true, true, true, true, false, true, true, true, true, true, true, true, true, true, true, true, true, true, true, true, true, true, false, false, false, false] rfl rfl (one_of HT_.out (by kernel_rfl)) (by decide) (fun K hK => ?_)
          refine Kd.R_lit_step (Kd.int .u8) (w0 := wd) wd.heap.size 5 ?hg (N := 91) ?hd (xs := ([] : List Int)) (inner := []) (ok := fun _ => True) (okp := fun _ => True) ?hr ?hp (fun _ hk => hk) trivial (Below.refl _ _) (Nat.le_refl _) (by simp) ?_; (case hd => rfl); (case hg => rfl); (case hr => first | (go_simp; done) | (go_simp; rfl)); (case hp => exact (Reps.none _ _))
          intro v91 w3 ho hb hgr hnew_
          have HO3 := Aside0.mk ho
          have HB3 := Aside0.mk hb
          clear ho hb hgr hnew_
          refine hK.out _ _ ⟨(pw_cell_below HB3.out c0), (pw_cell_below HB3.out c1), (pw_cell_below HB3.out c2), (pw_cell_below HB3.out c3), (pw_cell_below HB3.out c4), (pw_cell_below HB3.out c5), (pw_cell_below HB3.out c6), (pw_cell_below HB3.out c7), (pw_cell_below HB3.out c8), (pw_cell_below HB3.out c9), (pw_cell_below HB3.out c10)⟩ (fun hHeld => ?_)
          clear hK K
          refine norm_ (a' := ?_) ?_ ?_
          rotate_left
          · show Act.put _ (some 91) _ = _
            simp only [Act.put, List.setIfInBounds_toArray, List.set_cons_zero, List.set_cons_succ, i64_w, i32_w]
            rfl
          refine one_ (i := 43) (N := some 95) #[true, true, true, true, true, true, true, true, true, true, true, true, true, true, true, true, true, true, true, true, true, true, true, true, true, true, true, true, true, true, true, true, true, true, true, true, true, true, true, true, true, true, true, true, true, true, true, true, true, true, true, true, true, true, true, true, true, true, true, true, true, false, false, false, false] rfl rfl (one_of HT_.out (by kernel_rfl)) (by decide) (fun K hK => ?_)
          refine Kd.R_append_rows_step (Kd.int .u8) (w0 := wd) wd.heap.size (by rfl) (.tmp 91) (.tmp 94) 26 5 (.int .u8 0) 1 rfl Try.underlying26 info5 rfl (by decide) (by omega) v91 ([] : List Int) mid _ _ _ (fun _ => True) (fun _ => False) rfl rfl ?aO ?aR (fun _ _ h => h) (fun _ h => h.elim) ?aF ?aB ?aS ?aL ?_
          case aR => exact Kd.C_of_reads (h1 := fun _ => rfl) (HRM.out _ (Kd.reads_of_C (d := (0 : Int)) (Kd.C_below HCD.out HB3.out)))
          case aB => exact HB3.out
          case aF => exact (fun _ _ => trivial)
          case aO => exact HO3.out
          case aS => exact HB3.out.size
          case aL => (have := HML.out; simp only [List.length_nil]; omega)
          intro v95 w5 ho hb hgr hat
          rw [List.nil_append] at ho
          obtain ⟨A5, cc5, rfl⟩ := Kd.R_slice ho
          have HO5 := Aside0.mk ho
          have HB5 := Aside0.mk hb
          clear ho hb hgr hat
          refine hK.out _ _ ⟨(pw_cell_below HB5.out c0), (pw_cell_below HB5.out c1), (pw_cell_below HB5.out c2), (pw_cell_below HB5.out c3), (pw_cell_below HB5.out c4), (pw_cell_below HB5.out c5), (pw_cell_below HB5.out c6), (pw_cell_below HB5.out c7), (pw_cell_below HB5.out c8), (pw_cell_below HB5.out c9), (pw_cell_below HB5.out c10)⟩ (fun hHeld => ?_)
          clear hK K
          refine norm_ (a' := ?_) ?_ ?_
          rotate_left
          · show Act.put _ (some 95) _ = _
            simp only [Act.put, List.setIfInBounds_toArray, List.set_cons_zero, List.set_cons_succ, i64_w, i32_w]
            rfl
          refine pure_ (i := 61) (N := some 113) (v := ?_) (a' := ?_) #[true, true, true, true, true, true, true, true, true, true, true, true, true, true, true, true, true, true, true, true, true, true, true, true, true, true, true, true, true, true, true, true, true, true, true, true, true, true, true, true, true, true, true, true, true, true, true, true, true, true, true, true, true, true, true, true, true, true, true, true, true, true, false, false, false] rfl rfl (any_of HT_.out (by kernel_rfl)) (fun _ _ _ h => h) (Or.inl ⟨by rfl, ?_⟩) ?_ ?_
          rotate_left
          · intro w'
            go_simp
            with_reducible rfl
          rotate_left
          · simp only [Act.put, List.setIfInBounds_toArray, List.set_cons_zero, List.set_cons_succ, i64_w, i32_w]
            rfl
          refine one_ (i := 62) (N := some 114) #[true, true, true, true, true, true, true, true, true, true, true, true, true, true, true, true, true, true, true, true, true, true, true, true, true, true, true, true, true, true, true, true, true, true, true, true, true, true, true, true, true, true, true, true, true, true, true, true, true, true, true, true, true, true, true, true, true, true, true, true, true, true, true, false, false] rfl rfl (one_of HT_.out (by kernel_rfl)) (by decide) (fun K hK => ?_)
          refine value_ (w1 := ?_) (v := ?_) (by rfl) rfl ?_ ?_
          rotate_left 2
          · go_simp
            constructor
            · rfl
            · rfl
          refine hK.out _ _ ⟨(pw_cell_below (below_alloc HB5.out _) c0), (pw_cell_below (below_alloc HB5.out _) c1), (pw_cell_below (below_alloc HB5.out _) c2), (pw_cell_below (below_alloc HB5.out _) c3), (pw_cell_below (below_alloc HB5.out _) c4), (pw_cell_below (below_alloc HB5.out _) c5), (pw_cell_below (below_alloc HB5.out _) c6), (pw_cell_below (below_alloc HB5.out _) c7), (pw_cell_below (below_alloc HB5.out _) c8), (pw_cell_below (below_alloc HB5.out _) c9), (pw_cell_below (below_alloc HB5.out _) c10)⟩ (fun hHeld => ?_)
          clear hK K
          refine norm_ (a' := ?_) ?_ ?_
          rotate_left
          · show Act.put _ (some 114) _ = _
            simp only [Act.put, List.setIfInBounds_toArray, List.set_cons_zero, List.set_cons_succ, i64_w, i32_w]
            rfl
          refine last_ (i := 63) (N := some 115) #[true, true, true, true, true, true, true, true, true, true, true, true, true, true, true, true, true, true, true, true, true, true, true, true, true, true, true, true, true, true, true, true, true, true, true, true, true, true, true, true, true, true, true, true, true, true, true, true, true, true, true, true, true, true, true, true, true, true, true, true, true, true, true, true, false] rfl rfl (one_of HT_.out (by kernel_rfl)) (by decide) (fun K hK => ?_)
          refine Kd.S_append_step k45 (w0 := w) w.heap.size ?aW (.tmp 52) (.tmp 114) 22 45 (.agg #[(.int .i64 0), (.int .i64 0), (.int .i64 0), (.int .i64 0), (.int .i64 0), (.slice none 0 0), (.int .i64 0), (.int .u8 0), (.int .i64 0), (.bool false)]) 96 rfl Try.underlying22 info45 rfl (by decide) (by omega) u4 (out.map from51) (⟨x0, x1, x2 * 256 + x3, x4 * 256 + x5, x6 * 256 + x7, mid, ⟨x8 % 16, x9, x10⟩, told⟩ : S45) [.int .i64 x0, .int .i64 x1, .int .i64 (x2 * 256 + x3), .int .i64 (x4 * 256 + x5), .int .i64 (x6 * 256 + x7), .slice A5 mid.length cc5, .int .i64 (x8 % 16), .int .u8 x9, .int .i64 x10, .bool told] (fun k => w.heap.size ≤ k) (fun k => wd.heap.size ≤ k) ?s1 ?s2 ?aP ?aK ?aF ?aO ?aB ?aS ?aL ?_
          case aW => rfl
          case s1 => rfl
          case s2 => rfl
          case aP => exact k45_mkM _ _ _ (⟨x0, x1, x2 * 256 + x3, x4 * 256 + x5, x6 * 256 + x7, mid, ⟨x8 % 16, x9, x10⟩, told⟩ : S45) (Kd.R_lower (Kd.R_mono (Kd.R_bound HO5.out) (fun _ hk => hk.2.1)) HB.out.size)
          case aK => exact fun k hk => ⟨Nat.le_trans HB.out.size hk, fun e => by have := Kd.S_lt HS.out k e.symm; omega⟩
          case aF => exact fun _ h => Nat.le_trans (below_then HB.out HB.out.size HB5.out).size h
          case aO => exact Kd.S_mono (Kd.S_below (Kd.S_bound HS.out) HB5.out) (fun k hk => ⟨hk.1, fun e => by have := hk.2.2.1; omega⟩)
          case aB => exact below_then HB.out HB.out.size HB5.out
          case aS => exact (below_then HB.out HB.out.size HB5.out).size
          case aL => (have := HLEN.out; have := HOL.out; rw [List.length_map]; omega)
          intro v115 w7 ho hb hgr hat
          have HO7 := Aside0.mk ho
          have HB7 := Aside0.mk hb
          clear ho hb hgr hat
          refine hK.out _ _ ?_
          clear hK K
          refine norm_ (a' := ?_) ?_ ?_
          rotate_left
          · show Act.put _ (some 115) _ = _
            simp only [Act.put, List.setIfInBounds_toArray, List.set_cons_zero, List.set_cons_succ, i64_w, i32_w]
            rfl
          refine pure_ (i := 64) (N := some 4) (v := ?_) (a' := ?_) #[true, true, true, true, true, true, true, true, true, true, true, true, true, true, true, true, true, true, true, true, true, true, true, true, true, true, true, true, true, true, true, true, true, true, true, true, true, true, true, true, true, true, true, true, true, true, true, true, true, true, true, true, true, true, true, true, true, true, true, true, true, true, true, true, true] rfl rfl (any_of HT_.out (by kernel_rfl)) (fun _ _ _ h => h) (Or.inl ⟨by rfl, ?_⟩) ?_ ?_
          rotate_left
          · intro w'
            go_simp
            with_reducible rfl
          rotate_left
          · simp only [Act.put, List.setIfInBounds_toArray, List.set_cons_zero, List.set_cons_succ, i64_w, i32_w]
            rfl
          refine done_ (done_of HT_.out (by kernel_rfl)) ?_
          go_wp2_with fail
          go_roundw
          case rel =>
            refine ⟨rs, Ad, cp - (12 + x11).toNat, out ++ [step1 rest], m, rfl, Kd.C_of_reads (h1 := fun _ => rfl) (HRD.out _ (Kd.reads_of_C (d := (0 : Int)) HC.out)), ld, HRBY.out, ?_, ?_, ?_, HB7.out, ?_⟩
            · have := HRL.out; omega
            · have := HRL.out; have := HOL.out; rw [List.length_append, List.length_singleton]; omega
            · rw [List.map_append, List.map_cons, List.map_nil, HSTEP.out]; exact HO7.out
            · rw [HD.out, HD1.out, if_pos HGOOD.out, HSZR.out]
              cases decodeF m rs with
              | none => rfl
              | some l => simp
          case measure =>
            have := HRL.out
            show rs.length < rest.length
            omega
theorem messuageref27_Read.calls (k : Nat) (P0_ : Nat → Prop) (A0 : Option Addr) (c0 : Nat) (l0 : List Int) (r1 : List (S45)) (r2 : Bool) (w : World) (hs0 : Kd.V (Kd.int .u8) 5 w w.heap.size (fun k_ => P0_ k_) (.slice A0 l0.length c0) l0) (h : messuageref27_Read.f k l0 = some (r1, r2)) :
    Calls Try.prog 14 #[.slice A0 l0.length c0] w fun e w' => ∃ v0_ : Value, e = .returned (.tuple #[v0_, .bool r2]) ∧ Kd.S k45 45 w' w.heap.size (fun k_ => (w.heap.size ≤ k_)) v0_ r1 ∧ Below w.heap.size w w' := by
  unfold messuageref27_Read.f at h
  split at h
  · rename_i hb
    obtain ⟨_, hc, hr⟩ := Kd.V_reads' hs0
    refine (refread_any A0 c0 l0 w hr hc hb.1 hb.2).mono ?_
    rintro e w' ⟨v0, m1, m2, rfl, he, hS, hB⟩
    have h2 : (m1, m2) = (r1, r2) := by
      rw [← he]
      cases hd : decodeF l0.length l0 with
      | none => rw [hd] at h; exact Option.some.inj h
      | some l => rw [hd] at h; exact Option.some.inj h
    injection h2 with h3 h4
    subst h3 h4
    exact ⟨v0, rfl, hS, hB⟩
  · cases h
end Go.Proofs.Ytahagjdnjggdaaa.T
