/- What the program asks of floats, in whole numbers: zero, finite, minus zero. No program here. -/
import GoSem.Core.Float
namespace Go.Proofs.Ytnkkgofpifhoeaa.Flt
set_option linter.unusedSimpArgs false
open Ieee
def fin (x : Nat) : Bool := decide (x % 9223372036854775808 < 9218868437227405312)
def nul (x : Nat) : Bool := x % 9223372036854775808 == 0
def neg0 (x : Nat) : Bool := x == 9223372036854775808

inductive Read (x : Nat) : Datum → Prop
  | sub (s : Bool) (m : Nat) : m = x % 9223372036854775808 → m < 4503599627370496 → Read x (.number s m (-1074))
  | norm (s : Bool) (m k : Nat) : 4503599627370496 ≤ m → m < 9007199254740992 → x % 9223372036854775808 = (k + 1) * 4503599627370496 + (m - 4503599627370496) → k ≤ 2045 → Read x (.number s m (-1074 + (k : Nat)))
  | inf (s : Bool) : x % 9223372036854775808 = 9218868437227405312 → Read x (.infinity s)
  | nan (s : Bool) (q : Nat) : 9218868437227405312 < x % 9223372036854775808 → Read x (.nan s q)
theorem read_is (x : Nat) : Read x (double.read x) := by
  have e1 : double.signWeight = 9223372036854775808 := by decide
  have e2 : double.binade = 4503599627370496 := by decide
  have e3 : double.infRung = 9218868437227405312 := by decide
  have e4 : double.leastPlace = -1074 := by decide
  unfold Format.read
  rw [e1, e2, e3, e4]
  simp only
  generalize hs : (x / 9223372036854775808 % 2 == 1) = s
  split
  · exact .sub s _ rfl (by assumption)
  · split
    · rename_i h1 h2
      refine .norm s _ (x % 9223372036854775808 / 4503599627370496 - 1) (by omega) (by omega) (by omega) (by omega)
    · split
      · exact .inf s (by assumption)
      · exact .nan s _ (by omega)

theorem signed_zero (s : Bool) (m k : Nat) : signed s m k = 0 ↔ m = 0 := by
  unfold signed
  rw [Nat.shiftLeft_eq]
  have hp : 0 < 2 ^ k := Nat.two_pow_pos k
  constructor
  · intro h
    split at h
    · have : m * 2 ^ k = 0 := by omega
      rcases Nat.mul_eq_zero.1 this with h | h <;> omega
    · have : m * 2 ^ k = 0 := by omega
      rcases Nat.mul_eq_zero.1 this with h | h <;> omega
  · rintro rfl
    simp
theorem cmp_eq (a b : Int) : (some (compare a b) == some Ordering.eq) = decide (a = b) := by
  have : (compare a b == Ordering.eq) = decide (a = b) := by
    by_cases h : a = b
    · subst h
      simp [compare, compareOfLessAndEq]
    · have : compare a b ≠ .eq := by
        simp only [compare, compareOfLessAndEq]
        split
        · decide
        · simp [h]
      simp [h]
  simpa using this

/-- A comparison with zero. -/
theorem zero_is (x : Nat) : (double.order x 0 == some .eq) = nul x := by
  have hz : double.read 0 = .number false 0 (-1074) := by decide +kernel
  unfold Format.order nul
  rw [hz]
  have hr := read_is x
  generalize double.read x = d at hr ⊢
  cases hr with
  | sub s m h1 h2 =>
    simp only [Datum.order]
    rw [cmp_eq]
    rw [← h1]
    by_cases h : m = 0
    · subst h
      simp [signed]
    · have hne : ¬ signed s m ((-1074 : Int) - min (-1074) (-1074)).toNat = signed false 0 ((-1074 : Int) - min (-1074) (-1074)).toNat := by
        rw [(signed_zero false 0 _).2 rfl]
        exact fun e => h ((signed_zero _ _ _).1 e)
      rw [decide_eq_false hne]
      symm
      rw [beq_eq_false_iff_ne]
      exact h
  | norm s m k h1 h2 h3 h4 =>
    simp only [Datum.order]
    rw [cmp_eq]
    have hne : ¬ signed s m ((-1074 + (k : Int)) - min (-1074 + (k : Int)) (-1074)).toNat = signed false 0 ((-1074 : Int) - min (-1074 + (k : Int)) (-1074)).toNat := by
      rw [(signed_zero false 0 _).2 rfl]
      intro e
      have := (signed_zero _ _ _).1 e
      omega
    rw [decide_eq_false hne]
    symm
    rw [beq_eq_false_iff_ne]
    omega
  | inf s h =>
    simp only [Datum.order, h]
    cases s <;> decide
  | nan s q h =>
    simp only [Datum.order]
    symm
    rw [show (none == some Ordering.eq) = false from rfl, beq_eq_false_iff_ne]
    omega
/-- 'f - f': +0 of what is finite, a NaN of all else. -/
theorem sub_self_fin (x : Nat) (h : fin x = true) : double.sub x x = some 0 := by
  unfold fin at h
  have h' := of_decide_eq_true h
  unfold Format.sub
  have key : ∀ (s : Bool) (m : Nat) (i : Int), (Option.map double.write ((Datum.number s m i).sum (Datum.number s m i).opposite)) = some 0 := by
    intro s m i
    simp only [Datum.opposite, Datum.sum, Option.map_some]
    have ht : signed s m (i - min i i).toNat + signed (!s) m (i - min i i).toNat = 0 := by
      unfold signed
      cases s <;> simp <;> omega
    rw [ht]
    cases s <;> rfl
  cases hr : double.read x with
  | number s m i => exact key s m i
  | infinity s =>
    have := read_is x
    rw [hr] at this
    cases this
    omega
  | nan s q =>
    have := read_is x
    rw [hr] at this
    cases this
    omega
theorem sub_self_not (x : Nat) (h : fin x = false) : double.sub x x = none := by
  unfold fin at h
  have h' := of_decide_eq_false h
  unfold Format.sub
  cases hr : double.read x with
  | number s m i =>
    have := read_is x
    rw [hr] at this
    cases this <;> omega
  | infinity s => cases s <;> rfl
  | nan s q => rfl
/-- One through zero. -/
theorem one_zero : double.div 4607182418800017408 0 = some 9218868437227405312 := by decide +kernel
theorem one_minus : double.div 4607182418800017408 9223372036854775808 = some 18442240474082181120 := by decide +kernel
theorem inf_order : (double.order 9218868437227405312 0 == some .lt) = false := by decide +kernel
theorem minf_order : (double.order 18442240474082181120 0 == some .lt) = true := by decide +kernel
theorem nul_cases (x : Nat) (h : x < 18446744073709551616) (hz : nul x = true) : x = 0 ∨ x = 9223372036854775808 := by
  unfold nul at hz
  have := beq_iff_eq.1 hz
  omega

theorem cmp_gt (a b : Int) : (some (compare a b) == some Ordering.gt) = decide (b < a) := by
  simp only [compare, compareOfLessAndEq]
  split
  · have : ¬ b < a := by omega
    simp [this]
  · split
    · have : ¬ b < a := by omega
      simp [this]
    · have : b < a := by omega
      simp [this]
theorem cmp_lt (a b : Int) : (some (compare a b) == some Ordering.lt) = decide (a < b) := by
  simp only [compare, compareOfLessAndEq]
  split
  · rename_i h; simp [h]
  · rename_i h
    split
    · simp [h]
    · simp [h]
def topB : Nat := 9218868437227405311
def lowB : Nat := 18442240474082181119
theorem read_top : double.read topB = .number false 9007199254740991 971 := by decide +kernel
theorem read_low : double.read lowB = .number true 9007199254740991 971 := by decide +kernel
theorem shift_ge (n k : Nat) : n ≤ n <<< k := by
  rw [Nat.shiftLeft_eq]
  exact Nat.le_mul_of_pos_right _ (Nat.two_pow_pos k)
/-- Between the least and the greatest: finite. -/
theorem within_is (x : Nat) : ((double.order x lowB == some .gt || double.order x lowB == some .eq) && (double.order x topB == some .lt || double.order x topB == some .eq)) = fin x := by
  unfold Format.order
  rw [read_top, read_low]
  have key : ∀ (s : Bool) (m : Nat) (i : Int), m ≤ 9007199254740991 → i ≤ 971 →
      (((Datum.number s m i).order (.number true 9007199254740991 971) == some .gt || (Datum.number s m i).order (.number true 9007199254740991 971) == some .eq) && ((Datum.number s m i).order (.number false 9007199254740991 971) == some .lt || (Datum.number s m i).order (.number false 9007199254740991 971) == some .eq)) = true := by
    intro s m i hm hi
    simp only [Datum.order]
    rw [cmp_gt, cmp_lt, cmp_eq, cmp_eq]
    have hmin : min i 971 = i := by omega
    rw [hmin]
    have hb := shift_ge 9007199254740991 (971 - i).toNat
    have e0 : (i - i).toNat = 0 := by omega
    rw [e0]
    unfold signed
    generalize 9007199254740991 <<< (971 - i).toNat = T at hb ⊢
    rw [Nat.shiftLeft_zero]
    cases s
    · simp
      omega
    · simp
      omega
  cases hr : double.read x with
  | number s m i =>
    have h := read_is x
    rw [hr] at h
    have hf : fin x = true ∧ m ≤ 9007199254740991 ∧ i ≤ 971 := by
      unfold fin
      rw [decide_eq_true_iff]
      cases h <;> omega
    rw [key s m i hf.2.1 hf.2.2, hf.1]
  | infinity s =>
    have h := read_is x
    rw [hr] at h
    have hf : fin x = false := by
      unfold fin
      rw [decide_eq_false_iff_not]
      cases h
      omega
    rw [hf]
    cases s <;> rfl
  | nan s q =>
    have h := read_is x
    rw [hr] at h
    have hf : fin x = false := by
      unfold fin
      rw [decide_eq_false_iff_not]
      cases h
      omega
    rw [hf]
    rfl
end Go.Proofs.Ytnkkgofpifhoeaa.Flt
