/- FrameSums: of any bytes the program's sum is the document's; for any slice of bytes. -/
import Derived.Test.YtlhncceabneckaaCFrameSums
namespace Go.Proofs.Ytlhncceabneckaa.Pure
open Go.RowKit Go.Proofs.Ytlhncceabneckaa.PFrameSums Go.Proofs.YtlhncceabneckaaW.PrintWords Go.Proofs.YtlhncceabneckaaW.PrintLast Go.Proofs.Ytlhncceabneckaa.Crc Go.Proofs.Ytlhncceabneckaa.CFrameSums
theorem step_tdiv (C : Nat) (h : C < 4294967296) : Int.tdiv (C : Int) 2 = ((C / 2 : Nat) : Int) ∧ Int.tmod (C : Int) 2 = ((C % 2 : Nat) : Int) := by
  constructor
  · rw [Int.tdiv_eq_ediv_of_nonneg (by omega)]; omega
  · rw [Int.tmod_eq_emod_of_nonneg (by omega)]; omega
theorem steps_head (d C : Nat) : steps (d + 1) C = steps d (Crc.step C) := by
  induction d with
  | zero => rfl
  | succ d ih => show Crc.step (steps (d + 1) C) = Crc.step (steps d (Crc.step C)); rw [ih]
theorem wrapu {x : Int} (h : 0 ≤ x) (h2 : x < 18446744073709551616) : IntKind.u64.wrap x = x := by rw [Go.IntKind.wrap_u64]; omega
theorem ref_inner (l : List Nat) (i : Nat) (d : Nat) : ∀ (k C j : Nat) (r : Int), C < 4294967296 → j + d = 8 →
    (rookeryref06_Sum.l0 k (ints l) ((steps d C : Nat) : Int) (wrap64 ((i : Int) + 1)) = some r) → rookeryref06_Sum.l1 (k + d + 1) (ints l) (C : Int) (i : Int) (j : Int) = some r := by
  induction d with
  | zero =>
    intro k C j r hC hj h
    simp only [rookeryref06_Sum.l1]
    rw [if_neg (by omega)]
    exact h
  | succ d ih =>
    intro k C j r hC hj h
    rw [show k + (d + 1) + 1 = (k + d + 1) + 1 by omega]
    simp only [rookeryref06_Sum.l1]
    obtain ⟨e1, e2⟩ := step_tdiv C hC
    rw [if_pos (show (j : Int) < 8 by omega), e1, e2, wrapu (by omega) (by omega), wrap_up (by omega) (by omega), show ((j : Int) + 1) = ((j + 1 : Nat) : Int) by omega]
    rw [steps_head] at h
    by_cases h1 : C % 2 = 1
    · rw [if_pos (by omega), show (3988292384 : Int) = ((poly : Nat) : Int) from rfl, Go.bits_xor_u64_nat _ _ (by omega) (by decide)]
      have e : Crc.step C = C / 2 ^^^ poly := by unfold Crc.step; rw [if_pos h1]
      rw [← e]
      exact ih k _ (j + 1) r (step_lt hC) (by omega) h
    · rw [if_neg (by omega)]
      have e : Crc.step C = C / 2 := by unfold Crc.step; rw [if_neg h1, Nat.xor_zero]
      rw [← e]
      exact ih k _ (j + 1) r (step_lt hC) (by omega) h
theorem ref_outer (l : List Nat) (hb : ∀ x ∈ l, x < 256) (hn : l.length < 9223372036854775807) (d : Nat) : ∀ (C i : Nat), C < 4294967296 → i + d = l.length →
    rookeryref06_Sum.l0 (10 * d + 1) (ints l) (C : Int) (i : Int) = some ((full ^^^ crc (l.drop i) C : Nat) : Int) := by
  induction d with
  | zero =>
    intro C i hC hi
    simp only [rookeryref06_Sum.l0]
    rw [if_neg (by rw [ints_length]; omega), List.drop_of_length_le (by omega), show (4294967295 : Int) = ((full : Nat) : Int) from rfl, Go.bits_xor_u64_nat _ _ (by omega) (by decide)]
    have := xor_lt hC (show full < 4294967296 by decide)
    rw [show ((C ^^^ full : Nat) : Int) % 4294967296 = ((C ^^^ full : Nat) : Int) by omega, Nat.xor_comm]
    rfl
  | succ d ih =>
    intro C i hC hi
    rw [show 10 * (d + 1) + 1 = (10 * d + 10) + 1 by omega]
    simp only [rookeryref06_Sum.l0]
    have hlt : i < l.length := by omega
    have hx : l.getD i 0 < 256 := getD_lt hb i
    rw [if_pos (by rw [ints_length]; omega), if_pos (by omega), rd_ints, wrapu (by omega) (by omega), Go.bits_xor_u64_nat _ _ (by omega) (by omega)]
    rw [show 10 * d + 10 = (10 * d + 1) + 8 + 1 by omega]
    refine ref_inner l i 8 (10 * d + 1) _ 0 _ (xor_lt hC (by omega)) (by omega) ?_
    rw [wrap_up (by omega) (by omega), show ((i : Int) + 1) = ((i + 1 : Nat) : Int) by omega, ih _ (i + 1) (steps_lt (xor_lt hC (by omega)) 8) (by omega)]
    rw [List.drop_eq_getElem_cons hlt]
    have e : l.getD i 0 = l[i] := by rw [List.getD_eq_getElem?_getD, List.getElem?_eq_getElem hlt]; rfl
    rw [e]
    rfl
theorem RefSum_is (l : List Nat) (hb : ∀ x ∈ l, x < 256) (hn : l.length < 9223372036854775807) : ∀ k, 10 * l.length + 1 ≤ k → rookeryref06_Sum.f k (ints l) = some ((sum l : Nat) : Int) := by
  intro k hk
  obtain ⟨d, rfl⟩ : ∃ d, k = 10 * l.length + 1 + d := ⟨k - (10 * l.length + 1), by omega⟩
  clear hk
  induction d with
  | zero =>
    unfold rookeryref06_Sum.f
    have := ref_outer l hb hn l.length full 0 (by decide) (by omega)
    rw [List.drop_zero] at this
    exact this
  | succ d ih => exact rookeryref06_Sum.mono _ (10 * l.length + 1 + d) _ ih

theorem FrameSums : rookerylaw06_FrameSums.Pure := by
  intro l0 hm hs hw
  obtain ⟨l, rfl, hb⟩ := of_bytes hw
  rw [ints_length] at hs
  refine ⟨10 * l.length + 40, ?_⟩
  unfold rookerylaw06_FrameSums.f
  rw [alive_more _ (by omega), Option.bind_some, if_pos rfl]
  split
  · rfl
  · rw [Sum_is l hb (by omega) _ (by omega), Option.bind_some, RefSum_is l hb (by omega) _ (by omega), Option.bind_some]
    simp
end Go.Proofs.Ytlhncceabneckaa.Pure
