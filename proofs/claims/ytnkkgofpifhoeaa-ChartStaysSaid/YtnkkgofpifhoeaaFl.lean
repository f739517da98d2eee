/- Whole numbers as floats: below 2^53 a sum and a product of such floats is exact. No program here. -/
import Derived.Test.YtnkkgofpifhoeaaFlt
namespace Go.Proofs.Ytnkkgofpifhoeaa.Flt
open Ieee
theorem shl_eq (n k : Nat) : n <<< k = n * 2 ^ k := Nat.shiftLeft_eq n k
theorem cut_zero (neg : Bool) (n : Nat) : Toward.even.cut neg n 0 = n := by
  unfold Toward.cut
  simp
  omega
/-- What is dropped is nothing. -/
theorem cut_exact (neg : Bool) (n k : Nat) (hn : 0 < n) : Toward.even.cut neg (n * 2 ^ k) k = n := by
  unfold Toward.cut
  have hp : 0 < 2 ^ k := Nat.two_pow_pos k
  have hlog : k ≤ (n * 2 ^ k).log2 := by
    rw [Nat.le_log2 (by exact Nat.ne_of_gt (Nat.mul_pos hn hp))]
    exact Nat.le_mul_of_pos_left _ hn
  have hmin : min k ((n * 2 ^ k).log2 + 2) = k := by omega
  simp only [hmin, shl_eq, Nat.one_mul]
  have h1 : n * 2 ^ k / 2 ^ k = n := Nat.mul_div_cancel _ hp
  have h2 : n * 2 ^ k % 2 ^ k = 0 := Nat.mul_mod_left _ _
  rw [h1, h2]
  have h3 : ¬ 2 ^ k < 2 * 0 := by omega
  have h4 : (2 ^ k == 2 * 0) = false := by
    rw [beq_eq_false_iff_ne]
    omega
  simp [h4]
theorem log_shift (n k : Nat) (hn : 0 < n) : (n * 2 ^ k).log2 = n.log2 + k := by
  induction k with
  | zero => simp
  | succ k ih =>
    have : n * 2 ^ (k + 1) = 2 * (n * 2 ^ k) := by rw [Nat.pow_succ]; rw [Nat.mul_comm 2, Nat.mul_assoc]
    rw [this, Nat.log2_two_mul (by exact Nat.ne_of_gt (Nat.mul_pos hn (Nat.two_pow_pos k))), ih]
    omega
theorem dbl_bits : double.fractionBits = 52 := rfl
theorem dbl_place : double.leastPlace = -1074 := by decide
theorem dbl_bin : double.binade = 4503599627370496 := by decide
theorem dbl_inf : double.infRung = 9218868437227405312 := by decide
theorem dbl_sign : double.signWeight = 9223372036854775808 := by decide
/-- The word of a whole number below 2^53, whatever its spelling. -/
def rungOf (n : Nat) : Nat := (n.log2 + 1022) * 4503599627370496 + n * 2 ^ (52 - n.log2)
theorem log_lt (n : Nat) (hn : 0 < n) (h : n < 9007199254740992) : n.log2 < 53 := (Nat.log2_lt (by omega)).2 h
theorem kept_range (n : Nat) (hn : 0 < n) (h : n < 9007199254740992) : 4503599627370496 ≤ n * 2 ^ (52 - n.log2) ∧ n * 2 ^ (52 - n.log2) < 9007199254740992 := by
  have hl := log_lt n hn h
  have h1 : 2 ^ n.log2 ≤ n := Nat.log2_self_le (by omega)
  have h2 : n < 2 ^ (n.log2 + 1) := Nat.lt_log2_self
  have e1 : 2 ^ n.log2 * 2 ^ (52 - n.log2) = 4503599627370496 := by
    rw [← Nat.pow_add, show n.log2 + (52 - n.log2) = 52 by omega]
  have e2 : 2 ^ (n.log2 + 1) * 2 ^ (52 - n.log2) = 9007199254740992 := by
    rw [← Nat.pow_add, show n.log2 + 1 + (52 - n.log2) = 53 by omega]
  have hp : 0 < 2 ^ (52 - n.log2) := Nat.two_pow_pos _
  constructor
  · rw [← e1]
    exact Nat.mul_le_mul_right _ h1
  · rw [← e2]
    exact Nat.mul_lt_mul_of_pos_right h2 hp
/-- The nearest word of 'n', spelled with k more digits behind the point. -/
theorem nearest_int (neg : Bool) (n k : Nat) (hn : 0 < n) (h : n < 9007199254740992) : double.nearest neg (n * 2 ^ k) (-(k : Int)) = double.word neg (rungOf n) := by
  have hp : 0 < 2 ^ k := Nat.two_pow_pos k
  have hne : n * 2 ^ k ≠ 0 := Nat.ne_of_gt (Nat.mul_pos hn hp)
  have hl := log_lt n hn h
  have hkr := kept_range n hn h
  unfold Format.nearest
  rw [if_neg hne, log_shift n k hn, dbl_bits, dbl_place, dbl_bin, dbl_inf]
  simp only
  have hlast : max (-(k : Int) + ((n.log2 + k : Nat) : Int) - ((52 : Nat) : Int)) (-1074) = (n.log2 : Int) - 52 := by omega
  rw [hlast]
  have hkept : Toward.even.cut neg ((n * 2 ^ k) <<< (-(k : Int) - ((n.log2 : Int) - 52)).toNat) ((n.log2 : Int) - 52 - -(k : Int)).toNat = n * 2 ^ (52 - n.log2) := by
    by_cases hc : k ≤ 52 - n.log2
    · have e1 : (-(k : Int) - ((n.log2 : Int) - 52)).toNat = 52 - n.log2 - k := by omega
      have e2 : ((n.log2 : Int) - 52 - -(k : Int)).toNat = 0 := by omega
      rw [e1, e2, cut_zero, shl_eq, Nat.mul_assoc, ← Nat.pow_add, show k + (52 - n.log2 - k) = 52 - n.log2 by omega]
    · have e1 : (-(k : Int) - ((n.log2 : Int) - 52)).toNat = 0 := by omega
      have e2 : ((n.log2 : Int) - 52 - -(k : Int)).toNat = k - (52 - n.log2) := by omega
      rw [e1, e2, Nat.shiftLeft_zero]
      have e3 : n * 2 ^ k = (n * 2 ^ (52 - n.log2)) * 2 ^ (k - (52 - n.log2)) := by
        rw [Nat.mul_assoc, ← Nat.pow_add, show 52 - n.log2 + (k - (52 - n.log2)) = k by omega]
      rw [e3]
      exact cut_exact neg _ _ (Nat.mul_pos hn (Nat.two_pow_pos _))
  rw [hkept]
  have e4 : ((n.log2 : Int) - 52 - -1074).toNat = n.log2 + 1022 := by omega
  rw [e4]
  congr 1
  unfold rungOf
  omega
def F (n : Int) : Nat := double.nearest (decide (n < 0)) n.natAbs 0
theorem F_zero : F 0 = 0 := by decide
theorem F_is (n : Int) (hn : n ≠ 0) (h : n.natAbs < 9007199254740992) : F n = double.word (decide (n < 0)) (rungOf n.natAbs) := by
  have := nearest_int (decide (n < 0)) n.natAbs 0 (by omega) h
  simpa [F] using this
theorem rung_lt (n : Nat) (hn : 0 < n) (h : n < 9007199254740992) : 4503599627370496 ≤ rungOf n ∧ rungOf n < 9218868437227405312 := by
  have hl := log_lt n hn h
  have hk := kept_range n hn h
  unfold rungOf
  omega
theorem read_word (neg : Bool) (n : Nat) (hn : 0 < n) (h : n < 9007199254740992) : double.read (double.word neg (rungOf n)) = .number neg (n * 2 ^ (52 - n.log2)) ((n.log2 : Int) - 52) := by
  have hl := log_lt n hn h
  have hk := kept_range n hn h
  have hr := rung_lt n hn h
  have hru : rungOf n = (n.log2 + 1022) * 4503599627370496 + n * 2 ^ (52 - n.log2) := rfl
  generalize n * 2 ^ (52 - n.log2) = m at hk hru ⊢
  generalize rungOf n = r at hr hru ⊢
  have hs : double.word neg r / 9223372036854775808 % 2 = (if neg then 1 else 0) ∧ double.word neg r % 9223372036854775808 = r := by
    unfold Format.word
    rw [dbl_sign]
    cases neg
    · simp
      omega
    · simp
      omega
  unfold Format.read
  rw [dbl_sign, dbl_bin, dbl_inf, dbl_place, hs.1, hs.2]
  simp only
  rw [if_neg (by omega), if_pos (by omega)]
  have e1 : ((if neg = true then 1 else 0) == 1) = neg := by cases neg <;> rfl
  have e2 : 4503599627370496 + r % 4503599627370496 = m := by omega
  have e3 : (-1074 : Int) + ((r / 4503599627370496 - 1 : Nat) : Int) = (n.log2 : Int) - 52 := by omega
  rw [e2, e3]
  cases neg <;> rfl
theorem near0 (s : Bool) (p : Int) : double.nearest s 0 p = double.word s 0 := by
  unfold Format.nearest
  rw [if_pos rfl]
/-- A float that stands for a whole number. -/
theorem F_read (n : Int) (h : n.natAbs < 9007199254740992) : ∃ m k : Nat, double.read (F n) = .number (decide (n < 0)) m (-(k : Int)) ∧ m = n.natAbs * 2 ^ k := by
  by_cases hn : n = 0
  · subst hn
    have hz : ∀ k : Nat, 0 = (0 : Int).natAbs * 2 ^ k := fun k => (Nat.zero_mul _).symm
    exact ⟨0, 1074, by decide +kernel, hz 1074⟩
  · have hl := log_lt n.natAbs (by omega) h
    refine ⟨_, 52 - n.natAbs.log2, ?_, rfl⟩
    rw [F_is n hn h, read_word _ _ (by omega) h]
    congr 1
    omega
theorem signed_is (n : Int) (k d : Nat) (hd : k ≤ d) : signed (decide (n < 0)) (n.natAbs * 2 ^ k) (d - k) = n * 2 ^ d := by
  unfold signed
  rw [shl_eq, Nat.mul_assoc, ← Nat.pow_add, show k + (d - k) = d by omega]
  have hc : ((n.natAbs * 2 ^ d : Nat) : Int) = (n.natAbs : Int) * 2 ^ d := by
    rw [Int.natCast_mul, Int.natCast_pow]
    rfl
  by_cases hn : n < 0
  · rw [if_pos (by simpa using hn), hc, ← Int.neg_mul]
    congr 1
    omega
  · rw [if_neg (by simpa using hn), hc]
    congr 1
    omega
theorem word_of (neg : Bool) (n : Int) (k : Nat) (hn : n ≠ 0) (h : n.natAbs < 9007199254740992) (hs : neg = decide (n < 0)) : double.nearest neg (n.natAbs * 2 ^ k) (-(k : Int)) = F n := by
  rw [F_is n hn h, nearest_int neg n.natAbs k (by omega) h, hs]
theorem sum_is (s t : Bool) (a b : Int) (k d : Nat) (hs : s = decide (a < 0)) (ht : t = decide (b < 0)) (h : (a + b).natAbs < 9007199254740992) (hz : a + b = 0 → (s && t) = false) :
    ((Datum.number s (a.natAbs * 2 ^ k) (-(k : Int))).sum (.number t (b.natAbs * 2 ^ d) (-(d : Int)))).map double.write = some (F (a + b)) := by
  subst hs ht
  unfold Datum.sum
  simp only [Option.map_some]
  have hb : min (-(k : Int)) (-(d : Int)) = -((max k d : Nat) : Int) := by omega
  have e1 : (-(k : Int) - -((max k d : Nat) : Int)).toNat = max k d - k := by omega
  have e2 : (-(d : Int) - -((max k d : Nat) : Int)).toNat = max k d - d := by omega
  rw [hb, e1, e2, signed_is a k _ (by omega), signed_is b d _ (by omega), ← Int.add_mul]
  have hp : (0 : Int) < 2 ^ max k d := Int.pow_pos (by decide)
  unfold Format.write
  simp only
  by_cases h0 : a + b = 0
  · rw [h0, Int.zero_mul, if_pos rfl, hz h0]
    have hq : (0 : Int).natAbs = 0 := rfl
    rw [hq, near0, F_zero]
    rfl
  · have hne : (a + b) * 2 ^ max k d ≠ 0 := Int.mul_ne_zero h0 (by omega)
    rw [if_neg hne]
    have hna : ((a + b) * 2 ^ max k d).natAbs = (a + b).natAbs * 2 ^ max k d := by
      rw [Int.natAbs_mul, Int.natAbs_pow]
      rfl
    rw [hna]
    congr 1
    refine word_of _ _ _ h0 h ?_
    rw [decide_eq_decide]
    constructor
    · intro hh
      by_cases hc : a + b < 0
      · exact hc
      · have := Int.mul_nonneg (show 0 ≤ a + b by omega) (Int.le_of_lt hp)
        omega
    · intro hh
      exact Int.mul_neg_of_neg_of_pos hh hp
theorem F_add (a b : Int) (ha : a.natAbs < 9007199254740992) (hb : b.natAbs < 9007199254740992) (h : (a + b).natAbs < 9007199254740992) : double.add (F a) (F b) = some (F (a + b)) := by
  obtain ⟨m, k, hr, rfl⟩ := F_read a ha
  obtain ⟨n, d, hr', rfl⟩ := F_read b hb
  unfold Format.add
  rw [hr, hr']
  refine sum_is _ _ a b k d rfl rfl h (fun h0 => ?_)
  by_cases hc : a < 0
  · have : ¬ b < 0 := by omega
    simp [this]
  · simp [hc]
theorem F_sub (a b : Int) (ha : a.natAbs < 9007199254740992) (hb : b.natAbs < 9007199254740992) (h : (a - b).natAbs < 9007199254740992) : double.sub (F a) (F b) = some (F (a - b)) := by
  obtain ⟨m, k, hr, rfl⟩ := F_read a ha
  obtain ⟨n, d, hr', rfl⟩ := F_read b hb
  unfold Format.sub
  have ho : ∀ (s : Bool) (m : Nat) (e : Int), (Datum.number s m e).opposite = .number (!s) m e := fun _ _ _ => rfl
  rw [hr, hr', ho]
  by_cases hb0 : b = 0
  · subst hb0
    have ht : (!decide ((0 : Int) < 0)) = true := by decide
    rw [ht]
    by_cases ha0 : a = 0
    · subst ha0
      have hm : ∀ q : Nat, (0 : Int).natAbs * 2 ^ q = 0 := fun q => Nat.zero_mul _
      have hsg : ∀ x : Nat, ∀ u : Bool, signed u 0 x = 0 := fun x u => (signed_zero u 0 x).2 rfl
      have hz : decide ((0 : Int) < 0) = false := by decide
      have hq : (0 : Int).natAbs = 0 := rfl
      rw [hm, hm, hz]
      unfold Datum.sum
      simp only [Option.map_some, hsg, Int.add_zero, if_true, Bool.false_and]
      unfold Format.write
      simp only [hq]
      rw [near0, Int.sub_zero, F_zero]
      rfl
    · have hx := sum_is (decide (a < 0)) (decide ((0 : Int) < 0)) a 0 k d rfl rfl (by simpa using ha) (fun h0 => by omega)
      have hz0 : decide ((0 : Int) < 0) = false := by decide
      rw [Int.add_zero, hz0] at hx
      rw [Int.sub_zero]
      have hs : ∀ t : Bool, ((Datum.number (decide (a < 0)) (a.natAbs * 2 ^ k) (-(k : Int))).sum (.number t ((0 : Int).natAbs * 2 ^ d) (-(d : Int)))) = ((Datum.number (decide (a < 0)) (a.natAbs * 2 ^ k) (-(k : Int))).sum (.number false ((0 : Int).natAbs * 2 ^ d) (-(d : Int)))) := by
        intro t
        have hm : (0 : Int).natAbs * 2 ^ d = 0 := by simp
        rw [hm]
        unfold Datum.sum
        simp only
        have hsg : ∀ x y : Nat, ∀ u : Bool, signed u 0 x = 0 := fun x y u => (signed_zero u 0 x).2 rfl
        have hne : signed (decide (a < 0)) (a.natAbs * 2 ^ k) ((-(k : Int)) - min (-(k : Int)) (-(d : Int))).toNat ≠ 0 := by
          intro e
          have := (signed_zero _ _ _).1 e
          have hp := Nat.mul_pos (show 0 < a.natAbs by omega) (Nat.two_pow_pos k)
          omega
        rw [hsg _ 0 t, hsg _ 0 false, Int.add_zero, if_neg hne, if_neg hne]
      rw [hs true]
      exact hx
  · have hnb : (-b).natAbs = b.natAbs := Int.natAbs_neg b
    have ht : (!decide (b < 0)) = decide (-b < 0) := by
      by_cases hc : b < 0
      · simp [hc]
        omega
      · simp [hc]
        omega
    rw [ht, ← hnb, Int.sub_eq_add_neg]
    refine sum_is _ _ a (-b) k d rfl rfl (by rw [← Int.sub_eq_add_neg]; exact h) (fun h0 => ?_)
    by_cases hc : a < 0
    · simp
      omega
    · simp [hc]
theorem F_sq (a : Int) (ha : a.natAbs < 9007199254740992) (h : (a * a).natAbs < 9007199254740992) : double.mul (F a) (F a) = some (F (a * a)) := by
  obtain ⟨m, k, hr, rfl⟩ := F_read a ha
  unfold Format.mul
  rw [hr]
  unfold Datum.product Format.write
  simp only [Option.map_some, Bool.xor_self]
  by_cases h0 : a = 0
  · subst h0
    have hm : (0 : Int).natAbs * 2 ^ k = 0 := Nat.zero_mul _
    rw [hm, Nat.zero_mul, near0, Int.zero_mul, F_zero]
    rfl
  · have hna : a.natAbs * 2 ^ k * (a.natAbs * 2 ^ k) = (a * a).natAbs * 2 ^ (k + k) := by
      rw [Int.natAbs_mul, Nat.pow_add]
      ac_rfl
    have he : -(k : Int) + -(k : Int) = -((k + k : Nat) : Int) := by omega
    rw [hna, he]
    congr 1
    have hpos : 0 < a * a := by
      rcases Int.lt_or_gt_of_ne h0 with hc | hc
      · exact Int.mul_pos_of_neg_of_neg hc hc
      · exact Int.mul_pos hc hc
    exact word_of _ _ _ (by omega) h (by simp; omega)
/-- Something times nothing: a zero of either sign. -/
theorem F_mul_zero (a : Int) (ha : a.natAbs < 9007199254740992) : double.mul (F a) 0 = some 0 ∨ double.mul (F a) 0 = some 9223372036854775808 := by
  obtain ⟨m, k, hr, rfl⟩ := F_read a ha
  unfold Format.mul
  have hz : double.read 0 = .number false 0 (-1074) := by decide +kernel
  rw [hr, hz]
  unfold Datum.product Format.write Format.nearest
  simp only [Option.map_some, Nat.mul_zero, if_true, Bool.xor_false]
  by_cases hc : a < 0
  · right
    simp [hc]
    decide
  · left
    simp [hc]
    decide
/-- A zero of either sign, added. -/
theorem F_add_zero (a : Int) (ha : a.natAbs < 9007199254740992) : double.add (F a) 0 = some (F a) := by
  have h := F_add a 0 ha (by decide) (by simpa using ha)
  rw [F_zero, Int.add_zero] at h
  exact h
theorem F_add_minus (a : Int) (ha : a.natAbs < 9007199254740992) : double.add (F a) 9223372036854775808 = some (F a) := by
  have h := F_sub a 0 ha (by decide) (by simpa using ha)
  rw [F_zero, Int.sub_zero] at h
  unfold Format.sub at h
  unfold Format.add
  have hz : double.read 9223372036854775808 = (double.read 0).opposite := by decide +kernel
  rw [hz]
  exact h
theorem F_div_zero (b : Int) (hb : 0 < b) (h : b.natAbs < 9007199254740992) : double.div 0 (F b) = some 0 := by
  obtain ⟨m, k, hr, rfl⟩ := F_read b h
  unfold Format.div
  have hz : double.read 0 = .number false 0 (-1074) := by decide +kernel
  rw [hr, hz]
  unfold Datum.quotient
  have hp := Nat.mul_pos (show 0 < b.natAbs by omega) (Nat.two_pow_pos k)
  have hn : ¬ b < 0 := by omega
  simp only [if_neg (show ¬ b.natAbs * 2 ^ k = 0 by omega), Option.map_some]
  unfold Format.write Format.nearest
  simp [hn]
  decide
theorem F_fin (a : Int) (ha : a.natAbs < 9007199254740992) : fin (F a) = true ∧ neg0 (F a) = false ∧ F a < 18446744073709551616 := by
  by_cases h0 : a = 0
  · subst h0
    rw [F_zero]
    decide
  · have hr := rung_lt a.natAbs (by omega) ha
    rw [F_is a h0 ha]
    unfold fin neg0 Format.word
    rw [dbl_sign]
    generalize rungOf a.natAbs = r at hr
    by_cases hc : a < 0
    · simp [hc]
      omega
    · simp [hc]
      omega
theorem F_nul (a : Int) (ha : a.natAbs < 9007199254740992) : nul (F a) = decide (a = 0) := by
  by_cases h0 : a = 0
  · subst h0
    rw [F_zero]
    decide
  · have hr := rung_lt a.natAbs (by omega) ha
    rw [F_is a h0 ha]
    unfold nul Format.word
    rw [dbl_sign, decide_eq_false h0, beq_eq_false_iff_ne]
    generalize rungOf a.natAbs = r at hr
    by_cases hc : a < 0
    · simp [hc]
      omega
    · simp [hc]
      omega
end Go.Proofs.Ytnkkgofpifhoeaa.Flt
