/- What trace.take tells of all bytes: one contract over a plain function. Condition: the numbers are bytes. -/
import Derived.Test.YtahagjdnjggdaaaK
import Derived.Test.YtahagjdnjggdaaaL
namespace Go.Proofs.Ytahagjdnjggdaaa.T
open Go.RowKit Go.Proofs.YtahagjdnjggdaaaW.PrintWords Go.Proofs.YtahagjdnjggdaaaW.PrintLast Go.Proofs.YtahagjdnjggdaaaW.PrintMore
set_option linter.unusedVariables false
set_option linter.unusedSimpArgs false
theorem byteCells {w : World} {A : Option Addr} {l : List Int} (h : Kd.C (Kd.int .u8) w A l.length l) (hn : 0 < l.length) : ∃ b o, A = some ⟨b, o, none⟩ ∧ ∀ i, i < l.length → w.cell? ⟨b, o + i, none⟩ = some (.int .u8 (l.getD i 0)) := by
  obtain ⟨ad, e, hc⟩ := (Kd.reads_of_C (d := (0 : Int)) h).2.2 hn
  obtain ⟨b, o, s⟩ := ad
  have h0 := hc 0 hn
  have hs : s = none := by
    cases s with
    | none => rfl
    | some x =>
      simp only [World.cell?, Addr.add] at h0
      split at h0 <;> simp at h0
  subst hs
  refine ⟨b, o, e, fun i hi => ?_⟩
  have h1 := hc i hi
  have e1 : (⟨b, o, none⟩ : Addr).add i = ⟨b, o + i, none⟩ := by unfold Addr.add; split <;> simp_all
  rw [e1] at h1
  exact h1
theorem right_value (x0 x1 y2 y3 y4 : Int) (mid : List Int) (p0 p1 p2 : Int) (told : Bool) (h1 : 0 ≤ x1 ∧ x1 ≤ 255) (h2 : 0 ≤ y2 ∧ y2 ≤ 65535) (h3 : 0 ≤ y3 ∧ y3 ≤ 65535) (h4 : 0 ≤ y4 ∧ y4 ≤ 65535) (hm : mid.length ≤ 255) (h6 : 0 ≤ p0) (h8 : 0 ≤ p2 ∧ p2 ≤ 255) :
    trace_right.f x0 x1 y2 y3 y4 mid p0 p1 p2 told = some (decide (1 ≤ x0 ∧ x0 ≤ 12 ∧ p0 ≤ 3)) := by
  unfold trace_right.f trace_within.f
  have e : ((mid.length : Int) ≤ 255) := by omega
  simp [h1.1, h1.2, h2.1, h2.2, h3.1, h3.2, h4.1, h4.2, h8.1, h8.2, h6, e]
  by_cases a : 1 ≤ x0 <;> by_cases b : x0 ≤ 12 <;> simp [a, b]
def byteOk (l : List Int) : Prop := ∀ x ∈ l, 0 ≤ x ∧ x ≤ 255
instance (l : List Int) : Decidable (byteOk l) := inferInstanceAs (Decidable (∀ x ∈ l, _))
theorem byteOk_at {l : List Int} (h : byteOk l) (i : Nat) : 0 ≤ l.getD i 0 ∧ l.getD i 0 ≤ 255 := by
  rcases Nat.lt_or_ge i l.length with hi | hi
  · rw [List.getD_eq_getElem?_getD, List.getElem?_eq_getElem hi]
    exact h _ (List.getElem_mem hi)
  · rw [List.getD_eq_getElem?_getD, List.getElem?_eq_none hi]
    simp
/-- How many bytes the first step has. -/
def sizeOf1 (l : List Int) : Nat := (12 + l.getD 11 0).toNat
def step1 (l : List Int) : S51 := ⟨l.getD 0 0, l.getD 1 0, l.getD 2 0 * 256 + l.getD 3 0, l.getD 4 0 * 256 + l.getD 5 0, l.getD 6 0 * 256 + l.getD 7 0, (l.take (sizeOf1 l)).drop 12, ⟨l.getD 8 0 % 16, l.getD 9 0, l.getD 10 0⟩, (bits BinOp.and IntKind.u8 (l.getD 8 0) 16 != 0)⟩
def fits1 (l : List Int) : Prop := 12 ≤ l.length ∧ (12 + l.getD 11 0) ≤ l.length
instance (l : List Int) : Decidable (fits1 l) := inferInstanceAs (Decidable (_ ∧ _))
def good1 (l : List Int) : Bool := decide (1 ≤ l.getD 0 0 ∧ l.getD 0 0 ≤ 12 ∧ l.getD 8 0 % 16 ≤ 3) && decide (l.getD 8 0 < 32)

theorem take_no (A : Option Addr) (cp : Nat) (l0 : List Int) (w : World) (hr : Kd.C (Kd.int .u8) w A l0.length l0) (hb : byteOk l0) (hf : ¬ fits1 l0) :
    Calls Try.prog 19 #[.slice A l0.length cp] w fun e w' => Nothing19 w e w' := by
  by_cases h : 12 ≤ l0.length
  · obtain ⟨b, o, rfl, hc⟩ := byteCells hr (by omega)
    have hb11 := byteOk_at hb 11
    exact take_cut b o cp l0.length (l0.getD 11 0) w h hb11.1 hb11.2 (by have : ¬ (12 + l0.getD 11 0) ≤ (l0.length : Int) := fun h2 => hf ⟨h, h2⟩; omega) (hc 11 (by omega))
  · exact take_short A cp l0.length w (by omega)

theorem take_yes (A : Option Addr) (cp : Nat) (l0 : List Int) (w : World) (hr : Kd.C (Kd.int .u8) w A l0.length l0) (hcp : l0.length ≤ cp) (hlen : l0.length < 140737488355328) (hb : byteOk l0) (hf : fits1 l0) :
    Calls Try.prog 19 #[.slice A l0.length cp] w fun e w' => ∃ (v5 : Value) (A' : Option Addr) (c : Nat), e = .returned (.tuple #[.agg #[.int .i64 (step1 l0).f0, .int .i64 (step1 l0).f1, .int .i64 (step1 l0).f2, .int .i64 (step1 l0).f3, .int .i64 (step1 l0).f4, v5, .int .i64 (step1 l0).f6.f0, .int .u8 (step1 l0).f6.f1, .int .i64 (step1 l0).f6.f2, .bool (step1 l0).f7], .slice A' (l0.drop (sizeOf1 l0)).length c, .bool (good1 l0)]) ∧
      Kd.R (Kd.int .u8) 5 w' w.heap.size (fun _ => True) v5 (step1 l0).f5 ∧ (∀ W, Kd.C (Kd.int .u8) W A l0.length l0 → Kd.C (Kd.int .u8) W A' (l0.drop (sizeOf1 l0)).length (l0.drop (sizeOf1 l0))) ∧ (l0.drop (sizeOf1 l0)).length ≤ c ∧ Below w.heap.size w w' := by
  obtain ⟨h12, hn⟩ := hf
  obtain ⟨b, o, rfl, hc⟩ := byteCells hr (by omega)
  have d := fun i => byteOk_at hb i
  have hmid : ((l0.take (12 + l0.getD 11 0).toNat).drop (12 : Int).toNat).length ≤ 255 := by
    have := (d 11).2; have := (d 11).1
    rw [List.length_drop, List.length_take]; omega
  have hrok := right_value (l0.getD 0 0) (l0.getD 1 0) (l0.getD 2 0 * 256 + l0.getD 3 0) (l0.getD 4 0 * 256 + l0.getD 5 0) (l0.getD 6 0 * 256 + l0.getD 7 0) ((l0.take (12 + l0.getD 11 0).toNat).drop (12 : Int).toNat) (l0.getD 8 0 % 16) (l0.getD 9 0) (l0.getD 10 0) (bits BinOp.and IntKind.u8 (l0.getD 8 0) 16 != 0) (d 1)
    (by have := d 2; have := d 3; omega) (by have := d 4; have := d 5; omega) (by have := d 6; have := d 7; omega) hmid (by have := d 8; omega) (d 10)
  have h := take_full b o cp l0.length w l0 (l0.getD 0 0) (l0.getD 1 0) (l0.getD 2 0) (l0.getD 3 0) (l0.getD 4 0) (l0.getD 5 0) (l0.getD 6 0) (l0.getD 7 0) (l0.getD 8 0) (l0.getD 9 0) (l0.getD 10 0) (l0.getD 11 0) rfl hr hcp (d 11).1 (d 11).2 hn hlen
    (d 0) (d 1) (d 2) (d 3) (d 4) (d 5) (d 6) (d 7) (d 8) (d 10) (hc 0 (by omega)) (hc 1 (by omega)) (hc 2 (by omega)) (hc 3 (by omega)) (hc 4 (by omega)) (hc 5 (by omega)) (hc 6 (by omega)) (hc 7 (by omega)) (hc 8 (by omega)) (hc 9 (by omega)) (hc 10 (by omega)) (hc 11 (by omega)) _ hrok
  exact h

/-- The same, what is told under letters. -/
theorem take_told (A : Option Addr) (cp : Nat) (l0 rs : List Int) (x : S51) (g : Bool) (w : World) (hr : Kd.C (Kd.int .u8) w A l0.length l0) (hcp : l0.length ≤ cp) (hlen : l0.length < 140737488355328) (hb : byteOk l0) (hf : fits1 l0)
    (hrs : l0.drop (sizeOf1 l0) = rs) (hx : step1 l0 = x) (hg : good1 l0 = g) :
    Calls Try.prog 19 #[.slice A l0.length cp] w fun e w' => ∃ (A5 : Option Addr) (c5 : Nat) (A' : Option Addr) (c : Nat), e = .returned (.tuple #[.agg #[.int .i64 x.f0, .int .i64 x.f1, .int .i64 x.f2, .int .i64 x.f3, .int .i64 x.f4, .slice A5 x.f5.length c5, .int .i64 x.f6.f0, .int .u8 x.f6.f1, .int .i64 x.f6.f2, .bool x.f7], .slice A' rs.length c, .bool g]) ∧
      Kd.R (Kd.int .u8) 5 w' w.heap.size (fun _ => True) (.slice A5 x.f5.length c5) x.f5 ∧ (∀ W, Kd.C (Kd.int .u8) W A l0.length l0 → Kd.C (Kd.int .u8) W A' rs.length rs) ∧ rs.length ≤ c ∧ Below w.heap.size w w' := by
  subst hrs hx hg
  refine (take_yes A cp l0 w hr hcp hlen hb hf).mono ?_
  rintro e w' ⟨v5, A', c, he, hR, hC, hc, hB⟩
  obtain ⟨A5, c5, rfl⟩ := Kd.R_slice hR
  exact ⟨A5, c5, A', c, he, hR, hC, hc, hB⟩
end Go.Proofs.Ytahagjdnjggdaaa.T
