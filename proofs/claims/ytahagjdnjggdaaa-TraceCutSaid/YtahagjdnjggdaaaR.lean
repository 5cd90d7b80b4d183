/- The walk of trace.Read, over a plain function. Condition: the numbers are bytes, not too many. -/
import Derived.Test.YtahagjdnjggdaaaM
namespace Go.Proofs.Ytahagjdnjggdaaa.T
open Go.RowKit Go.Proofs.YtahagjdnjggdaaaW.PrintWords Go.Proofs.YtahagjdnjggdaaaW.PrintLast Go.Proofs.YtahagjdnjggdaaaW.PrintMore
set_option linter.unusedVariables false
set_option linter.unusedSimpArgs false
def decodeF : Nat → List Int → Option (List S51)
  | 0, l => if l = [] then some [] else none
  | n + 1, l => if l = [] then some [] else if fits1 l ∧ good1 l = true then (decodeF n (l.drop (sizeOf1 l))).map (step1 l :: ·) else none
def trace_Read.f (_k : Nat) (l0 : List Int) : Option (List S51 × Int) := if byteOk l0 ∧ l0.length < 1000000000000 then (match decodeF l0.length l0 with | some m => some (m, 0) | none => some ([], 2)) else none
theorem trace_Read.mono : ∀ a0 k, LeO (trace_Read.f k a0) (trace_Read.f (k + 1) a0) := fun _ _ _ h => h
theorem byteOk_drop {l : List Int} (h : byteOk l) (n : Nat) : byteOk (l.drop n) := fun x hx => h x (List.mem_of_mem_drop hx)
theorem sizeOf1_ge {l : List Int} (h : byteOk l) : 12 ≤ sizeOf1 l := by have := (byteOk_at h 11).1; unfold sizeOf1; omega
theorem R_alloc1 {v : Value} {xs : List Int} {w : World} {base : Nat} {ok : Nat → Prop} (o : Obj) (h : Kd.R (Kd.int .u8) 5 w base ok v xs) : Kd.R (Kd.int .u8) 5 (w.alloc o) base ok v xs := Kd.R_below h (below_alloc (Below.refl _ _) o)
theorem decodeF_nil (n : Nat) : decodeF n [] = some [] := by cases n <;> simp [decodeF]
def lenOf : Value → Nat
  | .slice _ n _ => n
  | _ => 0
/-- The head of the loop: so much is read, so much is left. -/
def ReadRel (w : World) (l0 : List Int) (s0 s4 : Value) (wr : World) : Prop :=
  ∃ (rest : List Int) (A : Option Addr) (c : Nat) (out : List S51) (n : Nat), s0 = .slice A rest.length c ∧ Kd.C (Kd.int .u8) w A rest.length rest ∧ rest.length ≤ c ∧ byteOk rest ∧ rest.length ≤ n ∧ out.length + rest.length ≤ l0.length ∧
    Kd.S k51 51 wr w.heap.size (fun k => w.heap.size ≤ k) s4 out ∧ Below w.heap.size w wr ∧ decodeF l0.length l0 = (decodeF n rest).map (out ++ ·)
def ReadPost (w : World) (l0 : List Int) (e : Ending) (w' : World) : Prop :=
  ∃ (v0 : Value) (r1 : List S51) (r2 : Int), e = .returned (.tuple #[v0, .int .i64 r2]) ∧ (match decodeF l0.length l0 with | some m => (m, (0 : Int)) | none => ([], 2)) = (r1, r2) ∧ Kd.S k51 51 w' w.heap.size (fun k => w.heap.size ≤ k) v0 r1 ∧ Below w.heap.size w w'

set_option maxHeartbeats 4000000 in
set_option maxRecDepth 100000 in
theorem read_any (A0 : Option Addr) (c0 : Nat) (l0 : List Int) (w : World) (hr0 : Kd.C (Kd.int .u8) w A0 l0.length l0) (hc0 : l0.length ≤ c0) (hb : byteOk l0) (hlen : l0.length < 1000000000000) :
    Calls Try.prog 13 #[.slice A0 l0.length c0] w fun e w' => ReadPost w l0 e w' := by
  have H0 := Aside0.mk (show ReadRel w l0 (.slice A0 l0.length c0) (.slice none 0 0) w from ⟨l0, A0, c0, [], l0.length, rfl, hr0, hc0, hb, Nat.le_refl _, by simp, Kd.S_nil _ _ _ _ _, Below.refl _ _, by simp⟩)
  have HLEN := Aside0.mk hlen
  clear hr0 hc0 hb hlen
  go_enter Try.func13, Try.ntmps13
  go_wp2_with fail
  go_loopw [0, 4] (fun s0 s4 wr => ReadRel w l0 s0 s4 wr) (fun s0 _ _ => lenOf s0)
  case atStart => exact H0.out
  case round =>
    obtain ⟨rest, A, c, out, n, rfl, hC, hc, hb, hn, hol, hS, hB, hdec⟩ := hrel
    have HB := Aside0.mk hB
    have HS := Aside0.mk hS
    have HD := Aside0.mk hdec
    have HC := Aside0.mk hC
    have HBY := Aside0.mk hb
    clear hB hS hdec hC hb
    have hlen2 : rest.length < 140737488355328 := by have := HLEN.out; omega
    by_cases hne : rest.length = 0
    · have hnil : rest = [] := List.eq_nil_of_length_eq_zero hne
      subst hnil
      have q : ¬ (0 : Int) < (([] : List Int).length : Int) := by simp
      go_wp2_with fail
      go_ret2
      refine ⟨_, out, 0, rfl, ?_, HS.out, HB.out⟩
      rw [HD.out, decodeF_nil]
      simp
    · have q : (0 : Int) < (rest.length : Int) := by omega
      have hn0 : n ≠ 0 := by omega
      obtain ⟨m, rfl⟩ : ∃ m, n = m + 1 := ⟨n - 1, by omega⟩
      have hrn : rest ≠ [] := fun e => hne (by rw [e]; rfl)
      have hD1 : decodeF (m + 1) rest = if fits1 rest ∧ good1 rest = true then (decodeF m (rest.drop (sizeOf1 rest))).map (step1 rest :: ·) else none := by simp only [decodeF, if_neg hrn]
      obtain ⟨rs, hrs⟩ : ∃ rs, rest.drop (sizeOf1 rest) = rs := ⟨_, rfl⟩
      obtain ⟨x, hx⟩ : ∃ x, step1 rest = x := ⟨_, rfl⟩
      rw [hrs, hx] at hD1
      have hrl : rs.length + 12 ≤ rest.length ∨ rs.length = 0 := by
        have := sizeOf1_ge HBY.out
        rw [← hrs, List.length_drop]; omega
      have hrby : byteOk rs := by rw [← hrs]; exact byteOk_drop HBY.out _
      have HD1 := Aside0.mk hD1
      have HRN := Aside0.mk hrn
      have HNE := Aside0.mk hne
      have HRS := Aside0.mk hrs
      have HX := Aside0.mk hx
      have HRL := Aside0.mk hrl
      have HRBY := Aside0.mk hrby
      clear hD1 hrn hne hn0 hrs hx hrl hrby
      by_cases hf : fits1 rest
      · have HF := Aside0.mk hf
        clear hf
        by_cases hg : good1 rest = true
        · have HG := Aside0.mk hg
          clear hg
          go_wp2_with (first | (go_at_call 19; refine (take_told A c rest rs x true _ (Kd.C_below HC.out HB.out) hc hlen2 HBY.out HF.out HRS.out HX.out HG.out).mono ?_; rintro e W1 ⟨A5, c5, A', c', rfl, hR5, hC', hc', hb1⟩; have HR5 := Aside0.mk hR5; have HC' := Aside0.mk hC'; have HB1 := Aside0.mk hb1; clear hR5 hC' hb1) | (at_builtin; refine S_appendG k51 (w0 := w) w.heap.size rfl (.tmp 19) (.tmp 21) 23 51 (.agg #[(.int .i64 0), (.int .i64 0), (.int .i64 0), (.int .i64 0), (.int .i64 0), (.slice none 0 0), (.int .i64 0), (.int .u8 0), (.int .i64 0), (.bool false)]) 96 rfl Try.underlying23 info51 rfl (by decide) (by omega) u4 out x [.int .i64 x.f0, .int .i64 x.f1, .int .i64 x.f2, .int .i64 x.f3, .int .i64 x.f4, .slice A5 x.f5.length c5, .int .i64 x.f6.f0, .int .u8 x.f6.f1, .int .i64 x.f6.f2, .bool x.f7] (fun k => w.heap.size ≤ k) (fun k => wr.heap.size ≤ k) _ rfl rfl ?aG ?aP ?aK ?aF ?aO ?aB ?aS ?aL ?_; (case aG => (simp; done)); (case aP => exact k51_mkM _ _ _ x (R_alloc1 _ (Kd.R_lower (Kd.R_mono (Kd.R_bound HR5.out) (fun _ hk => hk.2.1)) HB.out.size))); (case aK => exact fun k hk => ⟨Nat.le_trans HB.out.size hk, fun e => by have := Kd.S_lt HS.out k e.symm; omega⟩); (case aF => exact fun k hk => Nat.le_trans (below_then HB.out HB.out.size (below_alloc HB1.out _)).size hk); (case aO => exact Kd.S_alloc (Kd.S_mono (Kd.S_below (Kd.S_bound HS.out) HB1.out) (fun k hk => ⟨hk.1, fun e => by have := hk.2.2.1; omega⟩)) _); (case aB => exact below_then HB.out HB.out.size (below_alloc HB1.out _)); (case aS => exact (below_then HB.out HB.out.size (below_alloc HB1.out _)).size); (case aL => have := HLEN.out; omega); intro v1 w2 ho hb hg_ hat_; clear hg_ hat_; have HO := Aside0.mk ho; have HB2 := Aside0.mk hb; clear ho hb))
          go_roundw
          case rel =>
            refine ⟨rs, A', c', out ++ [x], m, rfl, HC'.out _ HC.out, hc', HRBY.out, ?_, ?_, HO.out, HB2.out, ?_⟩
            · have := HRL.out; have := HNE.out; omega
            · have := HRL.out; have := HNE.out; rw [List.length_append, List.length_singleton]; omega
            · rw [HD.out, HD1.out, if_pos ⟨HF.out, HG.out⟩]
              cases decodeF m rs with
              | none => rfl
              | some l => simp
          case measure =>
            have := HRL.out
            have := HNE.out
            show rs.length < rest.length
            omega
        · have hgf : good1 rest = false := by simpa using hg
          have HGF := Aside0.mk hgf
          clear hg hgf
          go_wp2_with (go_at_call 19; refine (take_told A c rest rs x false _ (Kd.C_below HC.out HB.out) hc hlen2 HBY.out HF.out HRS.out HX.out HGF.out).mono ?_; rintro e W1 ⟨A5, c5, A', c', rfl, hR5, hC', hc', hb1⟩; have HR5 := Aside0.mk hR5; have HC' := Aside0.mk hC'; have HB1 := Aside0.mk hb1; clear hR5 hC' hb1)
          go_ret2
          refine ⟨_, [], 2, rfl, ?_, Kd.S_nil _ _ _ _ _, ?_⟩
          · rw [HD.out, HD1.out, HGF.out]
            simp
          · exact below_then HB.out HB.out.size (below_alloc HB1.out _)
      · have HF := Aside0.mk hf
        clear hf
        go_wp2_with (go_at_call 19; refine (take_no A c rest _ (Kd.C_below HC.out HB.out) HBY.out HF.out).mono ?_; intro e W1 hN; unfold Nothing19 at hN; obtain ⟨rfl, hb1⟩ := hN; have HB1 := Aside0.mk hb1; clear hb1)
        go_ret2
        refine ⟨_, [], 2, rfl, ?_, Kd.S_nil _ _ _ _ _, ?_⟩
        · rw [HD.out, HD1.out, if_neg (fun h => HF.out h.1)]
          rfl
        · exact below_then HB.out HB.out.size (below_alloc HB1.out _)

theorem trace_Read.calls (k : Nat) (P0_ : Nat → Prop) (A0 : Option Addr) (c0 : Nat) (l0 : List Int) (r1 : List (S51)) (r2 : Int) (w : World) (hs0 : Kd.V (Kd.int .u8) 5 w w.heap.size (fun k_ => P0_ k_) (.slice A0 l0.length c0) l0) (h : trace_Read.f k l0 = some (r1, r2)) :
    Calls Try.prog 13 #[.slice A0 l0.length c0] w fun e w' => ∃ v0_ : Value, e = .returned (.tuple #[v0_, .int .i64 r2]) ∧ Kd.S k51 51 w' w.heap.size (fun k_ => (w.heap.size ≤ k_)) v0_ r1 ∧ Below w.heap.size w w' := by
  unfold trace_Read.f at h
  split at h
  · rename_i hb
    obtain ⟨_, hc, hr⟩ := Kd.V_reads' hs0
    refine (read_any A0 c0 l0 w hr hc hb.1 hb.2).mono ?_
    rintro e w' ⟨v0, m1, m2, rfl, he, hS, hB⟩
    have h2 : (m1, m2) = (r1, r2) := by
      rw [← he]
      cases hd : decodeF l0.length l0 with
      | none => rw [hd] at h; exact Option.some.inj h
      | some l => rw [hd] at h; exact Option.some.inj h
    injection h2 with h3 h4
    subst h3 h4
    exact ⟨v0, rfl, hS, hB⟩
  · cases h
end Go.Proofs.Ytahagjdnjggdaaa.T
