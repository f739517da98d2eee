/- FrameApart: bytes of one length that differ within 32 bits in a row have unlike sums; for any slice of bytes. -/
import Derived.Test.YtlhncceabneckaaCFrameApart
namespace Go.Proofs.Ytlhncceabneckaa.Pure
open Go.RowKit Go.Proofs.Ytlhncceabneckaa.PFrameApart Go.Proofs.YtlhncceabneckaaW.PrintWords Go.Proofs.YtlhncceabneckaaW.PrintLast Go.Proofs.YtlhncceabneckaaW.PrintMore Go.Proofs.Ytlhncceabneckaa.Crc Go.Proofs.Ytlhncceabneckaa.CFrameApart

set_option linter.unusedVariables false
theorem ints_set (l : List Nat) (i v : Nat) : (ints l).set i (v : Int) = ints (l.set i v) := by
  unfold ints
  rw [List.map_set]
/-- The four bytes that are turned, one behind the other. -/
def turn (l : List Nat) (at' y : Nat) : Nat → List Nat
  | 0 => l
  | i + 1 => (turn l at' y i).set (at' + i) ((turn l at' y i).getD (at' + i) 0 ^^^ (y / 2 ^ (8 * i) % 256))
theorem turn_length (l : List Nat) (p y : Nat) : ∀ i, (turn l p y i).length = l.length
  | 0 => rfl
  | i + 1 => by show (List.set _ _ _).length = _; rw [List.length_set, turn_length l p y i]
theorem turn_byte (l : List Nat) (p y : Nat) (hb : ∀ x ∈ l, x < 256) : ∀ i, ∀ x ∈ turn l p y i, x < 256
  | 0 => hb
  | i + 1 => by
    intro x hx
    rcases List.mem_or_eq_of_mem_set hx with h | h
    · exact turn_byte l p y hb i x h
    · subst h
      have h1 := getD_lt (turn_byte l p y hb i) (p + i)
      have := Nat.xor_lt_two_pow (n := 8) (x := (turn l p y i).getD (p + i) 0) (y := y / 2 ^ (8 * i) % 256) (by omega) (by omega)
      omega
theorem getD_set (l : List Nat) (i j v : Nat) (hi : i < l.length) : (l.set i v).getD j 0 = if i = j then v else l.getD j 0 := by
  rw [List.getD_eq_getElem?_getD, List.getElem?_set]
  by_cases h : i = j
  · subst h
    simp [hi]
  · simp [h, List.getD_eq_getElem?_getD]
theorem turn_bits (l : List Nat) (p y : Nat) : ∀ i, p + i ≤ l.length → ∀ k, bitsOf (turn l p y i) k = (bitsOf l k ^^ (decide (8 * p ≤ k) && decide (k < 8 * p + 8 * i) && y.testBit (k - 8 * p)))
  | 0, _, k => by
    have : (decide (8 * p ≤ k) && decide (k < 8 * p + 8 * 0)) = false := by simp
    rw [this]
    simp [turn]
  | i + 1, hi, k => by
    have ih := turn_bits l p y i (by omega) k
    unfold bitsOf at ih ⊢
    show Nat.testBit (List.getD (List.set _ _ _) _ _) _ = _
    rw [getD_set _ _ _ _ (by rw [turn_length]; omega)]
    by_cases h : p + i = k / 8
    · rw [if_pos h, Nat.testBit_xor, h, ih, byte_bit y i (k % 8) (by omega)]
      have e1 : (decide (8 * p ≤ k) && decide (k < 8 * p + 8 * i)) = false := by simp; omega
      have e2 : (decide (8 * p ≤ k) && decide (k < 8 * p + 8 * (i + 1))) = true := by simp; omega
      rw [e1, e2, show k - 8 * p = 8 * i + k % 8 by omega]
      simp
    · rw [if_neg h, ih]
      congr 2
      by_cases h1 : 8 * p ≤ k
      · have : (k < 8 * p + 8 * i) ↔ (k < 8 * p + 8 * (i + 1)) := by omega
        simp [h1, this]
      · simp [h1]
theorem apart_loop (l : List Nat) (hb : ∀ x ∈ l, x < 256) (hn : l.length < 9223372036854775000) (p y : Nat) (hy : y < 4294967296) (d : Nat) : ∀ (k i : Nat), i + d = 4 → p + 4 ≤ l.length → d + l.length + 9 < k →
    rookerylaw06_FrameApart.l0 k (ints l) (p : Int) (y : Int) (ints (turn l p y i)) (i : Int) = some (decide (sum l ≠ sum (turn l p y 4))) := by
  induction d with
  | zero =>
    intro k i hi hp hk
    obtain ⟨k, rfl⟩ : ∃ m, k = m + 1 := ⟨k - 1, by omega⟩
    obtain rfl : i = 4 := by omega
    simp only [rookerylaw06_FrameApart.l0]
    rw [if_neg (by omega), Sum_is l hb (by omega) k (by omega), Option.bind_some, Sum_is _ (turn_byte l p y hb 4) (by rw [turn_length]; omega) k (by rw [turn_length]; omega), Option.bind_some]
    congr 1
    by_cases h : sum l = sum (turn l p y 4)
    · simp [h]
    · have : ((sum l : Nat) : Int) ≠ ((sum (turn l p y 4) : Nat) : Int) := by omega
      simp [h, this]
  | succ d ih =>
    intro k i hi hp hk
    obtain ⟨k, rfl⟩ : ∃ m, k = m + 1 := ⟨k - 1, by omega⟩
    simp only [rookerylaw06_FrameApart.l0]
    have e1 : wrap64 ((p : Int) + (i : Int)) = ((p + i : Nat) : Int) := by rw [wrap_up (by omega) (by omega)]; omega
    have e2 : wrap64 (8 * (i : Int)) = ((8 * i : Nat) : Int) := by rw [wrap_up (by omega) (by omega)]; omega
    have e3 : IntKind.u64.wrap ((8 * i : Nat) : Int) = ((8 * i : Nat) : Int) := by rw [Go.IntKind.wrap_u64]; omega
    have e4 : shr .u32 (y : Int) ((8 * i : Nat) : Int) % 256 = ((y / 2 ^ (8 * i) % 256 : Nat) : Int) := by
      unfold shr
      rw [Int.toNat_natCast, Nat.min_eq_left (by show 8 * i ≤ 32; omega)]
      have : ((y : Int) / 2 ^ (8 * i)) = ((y / 2 ^ (8 * i) : Nat) : Int) := by push_cast; rfl
      rw [this]
      omega
    rw [if_pos (by omega), e1, e2, e3, e4, if_pos (by omega), ints_length, turn_length, if_pos (by omega), if_pos (by omega), rd_ints]
    rw [bits_xor_u8_nat _ _ (getD_lt (turn_byte l p y hb i) _) (by omega), Int.toNat_natCast, ints_set, wrap_up (by omega) (by omega), show ((i : Int) + 1) = ((i + 1 : Nat) : Int) by omega]
    exact ih k (i + 1) (by omega) hp (by omega)
theorem apart_j1 (l : List Nat) (hb : ∀ x ∈ l, x < 256) (h4 : 4 ≤ l.length) (h14 : l.length ≤ 16384) (a y : Nat) (ha : a < 9223372036854775808) (hy : y < 4294967296) (h0 : y ≠ 0) (k : Nat) (hk : l.length + 20 < k) :
    rookerylaw06_FrameApart.j1 k (ints l) (a : Int) (y : Int) = some true := by
  obtain ⟨k, rfl⟩ : ∃ m, k = m + 1 := ⟨k - 1, by omega⟩
  simp only [rookerylaw06_FrameApart.j1]
  have e1 : wrap64 (((ints l).length : Int) - 3) = ((l.length - 3 : Nat) : Int) := by rw [ints_length, wrap_up (by omega) (by omega)]; omega
  have e2 : Int.tmod (a : Int) ((l.length - 3 : Nat) : Int) = ((a % (l.length - 3) : Nat) : Int) := by rw [Int.tmod_eq_emod_of_nonneg (by omega)]; omega
  rw [e1, if_neg (by omega), Option.bind_some, if_pos (by rw [ints_length]; simp; omega), List.nil_append, e2]
  have hp : a % (l.length - 3) < l.length - 3 := Nat.mod_lt _ (by omega)
  have := apart_loop l hb (by omega) (a % (l.length - 3)) y hy 4 k 0 (by omega) (by omega) (by omega)
  rw [show ((0 : Nat) : Int) = 0 from rfl] at this
  refine this.trans ?_
  congr 1
  rw [decide_eq_true_iff]
  intro he
  have h3 := burst l (turn l (a % (l.length - 3)) y 4) (8 * (a % (l.length - 3))) y full (turn_length _ _ _ _) hb (turn_byte _ _ _ hb 4) (by omega) hy h0 (fun k hk => turn_bits l _ y 4 (by omega) k)
  apply h3
  unfold sum at he
  have h5 := congrArg (fun n => full ^^^ n) he
  simp only [← Nat.xor_assoc, Nat.xor_self, Nat.zero_xor] at h5
  exact h5.symm
theorem apart_j0 (l : List Nat) (hb : ∀ x ∈ l, x < 256) (h4 : 4 ≤ l.length) (h14 : l.length ≤ 16384) (a : Int) (y : Nat) (h1 : -9223372036854775808 ≤ a) (h2 : a ≤ 9223372036854775807) (hy : y < 4294967296) (h0 : y ≠ 0) (k : Nat) (hk : l.length + 21 < k) :
    rookerylaw06_FrameApart.j0 k (ints l) a (y : Int) false = some true := by
  obtain ⟨k, rfl⟩ : ∃ m, k = m + 1 := ⟨k - 1, by omega⟩
  simp only [rookerylaw06_FrameApart.j0]
  rw [if_neg (by decide)]
  split
  · have e1 : wrap64 (-wrap64 (a + 1)) = ((-(a + 1)).toNat : Int) := by rw [wrap_up (i := a + 1) (by omega) (by omega), wrap_up (by omega) (by omega)]; omega
    rw [e1]
    exact apart_j1 l hb h4 h14 _ y (by omega) hy h0 k (by omega)
  · have e1 : a = (a.toNat : Int) := by omega
    rw [e1]
    exact apart_j1 l hb h4 h14 _ y (by omega) hy h0 k (by omega)
theorem apart_yes (l : List Int) (a y : Int) (k : Nat) (hk : 0 < k) : rookerylaw06_FrameApart.j0 k l a y true = some true := by
  obtain ⟨k, rfl⟩ : ∃ m, k = m + 1 := ⟨k - 1, by omega⟩
  simp only [rookerylaw06_FrameApart.j0]
  rfl
theorem FrameApart : rookerylaw06_FrameApart.Pure := by
  intro l0 a1 a2 hm hs hw h1 h2
  obtain ⟨l, rfl, hb⟩ := of_bytes hw
  have ha : -9223372036854775808 ≤ a1 ∧ a1 ≤ 9223372036854775807 := by simpa [Lit.wf, IntKind.min, IntKind.max, IntKind.signed, IntKind.bits] using h1
  have hy : 0 ≤ a2 ∧ a2 ≤ 4294967295 := by simpa [Lit.wf, IntKind.min, IntKind.max, IntKind.signed, IntKind.bits] using h2
  refine ⟨20000, ?_⟩
  unfold rookerylaw06_FrameApart.f
  rw [alive_more _ (by omega), Option.bind_some, if_pos rfl, ints_length]
  split
  · exact apart_yes _ _ _ _ (by omega)
  · split
    · exact apart_yes _ _ _ _ (by omega)
    · by_cases h0 : a2 = 0
      · rw [show (a2 == 0) = true by simpa using h0]
        exact apart_yes _ _ _ _ (by omega)
      · rw [show (a2 == 0) = false by simpa using h0]
        have e : a2 = (a2.toNat : Int) := by omega
        rw [e]
        exact apart_j0 l hb (by omega) (by omega) a1 _ ha.1 ha.2 (by omega) (by omega) _ (by omega)
end Go.Proofs.Ytlhncceabneckaa.Pure
