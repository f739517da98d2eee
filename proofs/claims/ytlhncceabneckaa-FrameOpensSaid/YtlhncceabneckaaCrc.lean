/- The sum of bytes as a machine over bits, on natural numbers: it is linear, it loses nothing, and a change within 32 bits in a row changes it. No program here. -/
import Derived.Laws.BitsLemmas
import Derived.Laws.Bits64
namespace Go.Proofs.Ytlhncceabneckaa.Crc

def poly : Nat := 3988292384
def full : Nat := 4294967295
def step (n : Nat) : Nat := (n / 2) ^^^ (if n % 2 = 1 then poly else 0)
def steps : Nat → Nat → Nat
  | 0, n => n
  | k + 1, n => step (steps k n)
def feed (f : Nat → Bool) (c : Nat) : Nat → Nat
  | 0 => c
  | n + 1 => step (feed f c n ^^^ (f n).toNat)

theorem xor_lt {a b : Nat} (ha : a < 4294967296) (hb : b < 4294967296) : a ^^^ b < 4294967296 := by
  have := Nat.xor_lt_two_pow (n := 32) (x := a) (y := b) (by omega) (by omega)
  omega
theorem step_lt {n : Nat} (h : n < 4294967296) : step n < 4294967296 := by
  unfold step
  refine xor_lt (by omega) ?_
  split
  · decide
  · decide
theorem steps_lt {n : Nat} (h : n < 4294967296) : ∀ k, steps k n < 4294967296
  | 0 => h
  | k + 1 => step_lt (steps_lt h k)
theorem bool_lt (b : Bool) : b.toNat < 4294967296 := by cases b <;> decide
theorem feed_lt {f : Nat → Bool} {c : Nat} (h : c < 4294967296) : ∀ n, feed f c n < 4294967296
  | 0 => h
  | n + 1 => step_lt (xor_lt (feed_lt h n) (bool_lt _))

theorem xor_half (a b : Nat) : (a ^^^ b) / 2 = (a / 2) ^^^ (b / 2) := by
  apply Nat.eq_of_testBit_eq
  intro i
  rw [Nat.testBit_xor, ← Nat.testBit_succ, ← Nat.testBit_succ, ← Nat.testBit_succ, Nat.testBit_xor]
theorem xor_odd (a b : Nat) : ((a ^^^ b) % 2 = 1) ↔ ¬ ((a % 2 = 1) ↔ (b % 2 = 1)) := by
  have h := Nat.testBit_xor (x := a) (y := b) (i := 0)
  simp only [Nat.testBit_zero] at h
  by_cases h1 : a % 2 = 1 <;> by_cases h2 : b % 2 = 1 <;> by_cases h3 : (a ^^^ b) % 2 = 1 <;> simp_all
theorem step_xor (a b : Nat) : step (a ^^^ b) = step a ^^^ step b := by
  unfold step
  rw [xor_half]
  have h := xor_odd a b
  by_cases h1 : a % 2 = 1 <;> by_cases h2 : b % 2 = 1
  · have h3 : ¬ (a ^^^ b) % 2 = 1 := by rw [h]; simp [h1, h2]
    rw [if_neg h3, if_pos h1, if_pos h2, Nat.xor_zero]
    apply Nat.eq_of_testBit_eq
    intro i
    simp only [Nat.testBit_xor]
    cases (a / 2).testBit i <;> cases (b / 2).testBit i <;> cases poly.testBit i <;> rfl
  · have h3 : (a ^^^ b) % 2 = 1 := by rw [h]; simp [h1, h2]
    rw [if_pos h3, if_pos h1, if_neg h2, Nat.xor_zero]
    rw [Nat.xor_assoc, Nat.xor_assoc, Nat.xor_comm (b / 2) poly]
  · have h3 : (a ^^^ b) % 2 = 1 := by rw [h]; simp [h1, h2]
    rw [if_pos h3, if_neg h1, if_pos h2, Nat.xor_zero, Nat.xor_assoc]
  · have h3 : ¬ (a ^^^ b) % 2 = 1 := by rw [h]; simp [h1, h2]
    rw [if_neg h3, if_neg h1, if_neg h2, Nat.xor_zero, Nat.xor_zero, Nat.xor_zero]
theorem steps_xor (a b : Nat) : ∀ k, steps k (a ^^^ b) = steps k a ^^^ steps k b
  | 0 => rfl
  | k + 1 => by
    show step (steps k (a ^^^ b)) = step (steps k a) ^^^ step (steps k b)
    rw [steps_xor a b k, step_xor]
theorem step_zero : step 0 = 0 := by decide
theorem steps_zero : ∀ k, steps k 0 = 0
  | 0 => rfl
  | k + 1 => by show step (steps k 0) = 0; rw [steps_zero k, step_zero]
theorem xor_eq_zero {a b : Nat} (h : a ^^^ b = 0) : a = b := by
  apply Nat.eq_of_testBit_eq
  intro i
  have := congrArg (fun n => n.testBit i) h
  simp only [Nat.testBit_xor, Nat.zero_testBit] at this
  cases h1 : a.testBit i <;> cases h2 : b.testBit i <;> simp_all
theorem step_ne {n : Nat} (hn : n < 4294967296) (h : n ≠ 0) : step n ≠ 0 := by
  intro h0
  have h1 : n / 2 = (if n % 2 = 1 then poly else 0) := xor_eq_zero (by simpa [step] using h0)
  split at h1
  · unfold poly at h1; omega
  · omega
theorem steps_ne {n : Nat} (hn : n < 4294967296) (h : n ≠ 0) : ∀ k, steps k n ≠ 0
  | 0 => h
  | k + 1 => step_ne (steps_lt hn k) (steps_ne hn h k)
theorem steps_inj {a b : Nat} (ha : a < 4294967296) (hb : b < 4294967296) (k : Nat) (h : steps k a = steps k b) : a = b := by
  apply xor_eq_zero
  apply Classical.byContradiction
  intro hne
  refine steps_ne (xor_lt ha hb) hne k ?_
  rw [steps_xor, h, Nat.xor_self]
theorem step_double (w : Nat) : step (2 * w) = w := by
  unfold step
  rw [if_neg (by omega), Nat.xor_zero]
  omega
theorem steps_shift (w : Nat) : ∀ m, steps m (2 ^ m * w) = w
  | 0 => by show 2 ^ 0 * w = w; omega
  | m + 1 => by
    show step (steps m (2 ^ (m + 1) * w)) = w
    rw [show 2 ^ (m + 1) * w = 2 ^ m * (2 * w) by rw [Nat.pow_succ, Nat.mul_assoc], steps_shift (2 * w) m, step_double]

theorem feed_congr {f g : Nat → Bool} {c : Nat} : ∀ n, (∀ k, k < n → f k = g k) → feed f c n = feed g c n
  | 0, _ => rfl
  | n + 1, h => by
    show step (feed f c n ^^^ (f n).toNat) = step (feed g c n ^^^ (g n).toNat)
    rw [feed_congr n (fun k hk => h k (by omega)), h n (by omega)]
theorem bool_xor (a b : Bool) : (a ^^ b).toNat = a.toNat ^^^ b.toNat := by cases a <;> cases b <;> rfl
theorem feed_xor (f g : Nat → Bool) (c d : Nat) : ∀ n, feed (fun k => f k ^^ g k) (c ^^^ d) n = feed f c n ^^^ feed g d n
  | 0 => rfl
  | n + 1 => by
    show step (feed (fun k => f k ^^ g k) (c ^^^ d) n ^^^ (f n ^^ g n).toNat) = step (feed f c n ^^^ (f n).toNat) ^^^ step (feed g d n ^^^ (g n).toNat)
    rw [feed_xor f g c d n, bool_xor, ← step_xor]
    congr 1
    rw [Nat.xor_assoc, Nat.xor_assoc]
    congr 1
    rw [← Nat.xor_assoc, ← Nat.xor_assoc, Nat.xor_comm (feed g d n)]

/-- Bits in a row that are a number's. -/
theorem feed_word (f : Nat → Bool) (c n : Nat) : ∀ (m W : Nat), (∀ i, i < m → f (n + i) = W.testBit i) → feed f c (n + m) = steps m (feed f c n ^^^ (W % 2 ^ m))
  | 0, W, _ => by
    show feed f c n = feed f c n ^^^ (W % 2 ^ 0)
    rw [Nat.pow_zero, Nat.mod_one, Nat.xor_zero]
  | m + 1, W, h => by
    show step (feed f c (n + m) ^^^ (f (n + m)).toNat) = step (steps m (feed f c n ^^^ W % 2 ^ (m + 1)))
    rw [feed_word f c n m W (fun i hi => h i (by omega)), h m (by omega)]
    have e : W % 2 ^ (m + 1) = (W % 2 ^ m) ^^^ (2 ^ m * (W.testBit m).toNat) := by
      apply Nat.eq_of_testBit_eq
      intro i
      rw [Nat.testBit_xor, Nat.testBit_mod_two_pow, Nat.testBit_mod_two_pow, Nat.testBit_two_pow_mul]
      rcases Nat.lt_trichotomy i m with hi | hi | hi
      · have h1 : i < m + 1 := by omega
        have h2 : ¬ (m ≤ i) := by omega
        simp [hi, h1, h2]
      · subst hi
        cases W.testBit i <;> simp
      · have h1 : ¬ i < m + 1 := by omega
        have h2 : ¬ i < m := by omega
        have h3 : m ≤ i := by omega
        have h4 : (W.testBit m).toNat.testBit (i - m) = false := by
          obtain ⟨j, hj⟩ : ∃ j, i - m = j + 1 := ⟨i - m - 1, by omega⟩
          rw [hj]
          cases W.testBit m <;> simp [Nat.testBit_succ]
        simp [h1, h2, h3, h4]
    rw [e, ← Nat.xor_assoc, steps_xor _ (2 ^ m * _) m, steps_shift]

/-! ### lists of bytes -/
def bitsOf (l : List Nat) (k : Nat) : Bool := (l.getD (k / 8) 0).testBit (k % 8)
def crc (l : List Nat) (c : Nat) : Nat := l.foldl (fun c x => steps 8 (c ^^^ x)) c
theorem crc_lt {l : List Nat} : ∀ {c : Nat}, c < 4294967296 → (∀ x ∈ l, x < 256) → crc l c < 4294967296 := by
  induction l with
  | nil => intro c h _; exact h
  | cons y l ih =>
    intro c h hl
    exact ih (steps_lt (xor_lt h (by have := hl y (by simp); omega)) 8) (fun x hx => hl x (by simp [hx]))
theorem crc_append (l m : List Nat) (c : Nat) : crc (l ++ m) c = crc m (crc l c) := by simp [crc, List.foldl_append]
theorem bits_ext (l m : List Nat) (k : Nat) (h : k < 8 * l.length) : bitsOf (l ++ m) k = bitsOf l k := by
  unfold bitsOf
  rw [List.getD_eq_getElem?_getD, List.getD_eq_getElem?_getD, List.getElem?_append_left (by omega)]
theorem bits_past (l m : List Nat) (k : Nat) : bitsOf (l ++ m) (8 * l.length + k) = bitsOf m k := by
  unfold bitsOf
  rw [List.getD_eq_getElem?_getD, List.getD_eq_getElem?_getD, List.getElem?_append_right (by omega)]
  rw [show (8 * l.length + k) / 8 - l.length = k / 8 by omega, show (8 * l.length + k) % 8 = k % 8 by omega]
theorem feed_append (l m : List Nat) (c n : Nat) (hn : n ≤ 8 * l.length) : feed (bitsOf (l ++ m)) c n = feed (bitsOf l) c n :=
  feed_congr n (fun k hk => bits_ext l m k (by omega))

theorem crc_feed (c : Nat) : ∀ (n : Nat) (l : List Nat), l.length = n → (∀ x ∈ l, x < 256) → crc l c = feed (bitsOf l) c (8 * l.length)
  | 0, l, hl, _ => by
    have : l = [] := List.eq_nil_of_length_eq_zero hl
    subst this
    rfl
  | n + 1, l, hl, hb => by
    have hne : l ≠ [] := by intro h; simp [h] at hl
    have e := List.dropLast_concat_getLast hne
    generalize hd : l.dropLast = d at e
    generalize l.getLast hne = x at e
    subst e
    have hdl : d.length = n := by simpa using hl
    rw [crc_append, crc_feed c n d hdl (fun y hy => hb y (by simp [hy]))]
    have hx : x < 256 := hb x (by simp)
    have hw := feed_word (bitsOf (d ++ [x])) c (8 * d.length) 8 x (fun i hi => by
      rw [bits_past]
      unfold bitsOf
      rw [show i / 8 = 0 by omega, show i % 8 = i by omega]
      rfl)
    rw [show 8 * (d ++ [x]).length = 8 * d.length + 8 by simp; omega, hw, feed_append d [x] c _ (Nat.le_refl _)]
    rw [Nat.mod_eq_of_lt (show x < 2 ^ 8 by omega)]
    rfl

/-- Two rows of bytes of one length that differ within 32 bits in a row: unlike. -/
theorem burst (l l' : List Nat) (p W c : Nat) (hl : l'.length = l.length) (hb : ∀ x ∈ l, x < 256) (hb' : ∀ x ∈ l', x < 256) (hp : p + 32 ≤ 8 * l.length) (hW : W < 4294967296) (h0 : W ≠ 0)
    (hd : ∀ k, k < 8 * l.length → bitsOf l' k = (bitsOf l k ^^ (decide (p ≤ k) && decide (k < p + 32) && W.testBit (k - p)))) : crc l' c ≠ crc l c := by
  rw [crc_feed c _ l rfl hb, crc_feed c _ l' rfl hb', hl]
  let g : Nat → Bool := fun k => decide (p ≤ k) && decide (k < p + 32) && W.testBit (k - p)
  have h1 : feed (bitsOf l') c (8 * l.length) = feed (bitsOf l) c (8 * l.length) ^^^ feed g 0 (8 * l.length) := by
    rw [← feed_xor, Nat.xor_zero]
    exact feed_congr _ hd
  have hz : ∀ n, n ≤ p → feed g 0 n = 0 := by
    intro n
    induction n with
    | zero => intro _; rfl
    | succ n ih =>
      intro hn
      show step (feed g 0 n ^^^ (g n).toNat) = 0
      have : g n = false := by simp [g]; omega
      rw [ih (by omega), this]
      exact step_zero
  have h2 : feed g 0 (p + 32) ≠ 0 := by
    rw [feed_word g 0 p 32 W (fun i hi => by simp [g, hi]), hz p (Nat.le_refl _), Nat.zero_xor, Nat.mod_eq_of_lt (by omega)]
    exact steps_ne hW h0 32
  have h3 : ∀ n, feed g 0 (p + 32 + n) ≠ 0 := by
    intro n
    induction n with
    | zero => exact h2
    | succ n ih =>
      show step (feed g 0 (p + 32 + n) ^^^ (g (p + 32 + n)).toNat) ≠ 0
      have : g (p + 32 + n) = false := by simp [g]; omega
      rw [this]
      show step (feed g 0 (p + 32 + n) ^^^ 0) ≠ 0
      rw [Nat.xor_zero]
      exact step_ne (feed_lt (by decide) _) ih
  intro he
  rw [h1] at he
  have h4 : feed g 0 (8 * l.length) = 0 := by
    have := congrArg (fun n => feed (bitsOf l) c (8 * l.length) ^^^ n) he
    simp only [Nat.xor_self] at this
    rw [← Nat.xor_assoc, Nat.xor_self, Nat.zero_xor] at this
    exact this
  refine h3 (8 * l.length - (p + 32)) ?_
  rw [show p + 32 + (8 * l.length - (p + 32)) = 8 * l.length by omega]
  exact h4

/-! ### the sum, and a sum behind the bytes -/
def sum (l : List Nat) : Nat := full ^^^ crc l full
theorem sum_lt {l : List Nat} (h : ∀ x ∈ l, x < 256) : sum l < 4294967296 := xor_lt (by decide) (crc_lt (by decide) h)
def low (s : Nat) : List Nat := [s % 256, s / 256 % 256, s / 65536 % 256, s / 16777216 % 256]
def word (q : List Nat) : Nat := q.getD 0 0 + 256 * q.getD 1 0 + 65536 * q.getD 2 0 + 16777216 * q.getD 3 0
theorem low_byte (s : Nat) : ∀ x ∈ low s, x < 256 := by
  intro x hx
  simp only [low, List.mem_cons, List.not_mem_nil, or_false] at hx
  omega
theorem low_word (q : List Nat) (hl : q.length = 4) (hb : ∀ x ∈ q, x < 256) : low (word q) = q := by
  match q, hl with
  | [a, b, c, d], _ =>
    have h1 := hb a (by simp)
    have h2 := hb b (by simp)
    have h3 := hb c (by simp)
    have h4 := hb d (by simp)
    simp only [low, word, List.getD_cons_zero, List.getD_cons_succ]
    congr 1
    · omega
    congr 1
    · omega
    congr 1
    · omega
    congr 1
    · omega
theorem word_lt (q : List Nat) (hl : q.length = 4) (hb : ∀ x ∈ q, x < 256) : word q < 4294967296 := by
  match q, hl with
  | [a, b, c, d], _ =>
    have h1 := hb a (by simp)
    have h2 := hb b (by simp)
    have h3 := hb c (by simp)
    have h4 := hb d (by simp)
    simp only [word, List.getD_cons_zero, List.getD_cons_succ]
    omega
theorem byte_bit (s j i : Nat) (hi : i < 8) : (s / 2 ^ (8 * j) % 256).testBit i = s.testBit (8 * j + i) := by
  rw [show (256 : Nat) = 2 ^ 8 from rfl, Nat.testBit_mod_two_pow, Nat.testBit_div_two_pow]
  simp [hi, Nat.add_comm]
theorem low_bits (s k : Nat) (hk : k < 32) : bitsOf (low s) k = s.testBit k := by
  unfold bitsOf
  have h : k / 8 = 0 ∨ k / 8 = 1 ∨ k / 8 = 2 ∨ k / 8 = 3 := by omega
  rcases h with h | h | h | h
  · rw [h]
    have := byte_bit s 0 (k % 8) (by omega)
    rw [show 8 * 0 + k % 8 = k by omega] at this
    rw [← this]
    simp [low]
  · rw [h]
    have := byte_bit s 1 (k % 8) (by omega)
    rw [show 8 * 1 + k % 8 = k by omega] at this
    rw [← this]
    simp [low]
  · rw [h]
    have := byte_bit s 2 (k % 8) (by omega)
    rw [show 8 * 2 + k % 8 = k by omega] at this
    rw [← this]
    simp [low]
  · rw [h]
    have := byte_bit s 3 (k % 8) (by omega)
    rw [show 8 * 3 + k % 8 = k by omega] at this
    rw [← this]
    simp [low]
theorem crc_low (l : List Nat) (c s : Nat) (hb : ∀ x ∈ l, x < 256) (hs : s < 4294967296) : crc (l ++ low s) c = steps 32 (crc l c ^^^ s) := by
  have hb2 : ∀ x ∈ l ++ low s, x < 256 := by
    intro x hx
    rcases List.mem_append.1 hx with h | h
    · exact hb x h
    · exact low_byte s x h
  rw [crc_feed c _ _ rfl hb2, crc_feed c _ l rfl hb]
  have hw := feed_word (bitsOf (l ++ low s)) c (8 * l.length) 32 s (fun i hi => by rw [bits_past, low_bits s i hi])
  rw [show 8 * (l ++ low s).length = 8 * l.length + 32 by simp [low]; omega, hw, feed_append l _ c _ (Nat.le_refl _), Nat.mod_eq_of_lt (by omega)]
/-- Bytes with their sum behind them: the machine ends where it always ends, and only then. -/
theorem good_iff (l q : List Nat) (hb : ∀ x ∈ l, x < 256) (hl : q.length = 4) (hq : ∀ x ∈ q, x < 256) : q = low (sum l) ↔ crc (l ++ q) full = steps 32 full := by
  have hc : crc l full < 4294967296 := crc_lt (by decide) hb
  constructor
  · rintro rfl
    rw [crc_low l full _ hb (sum_lt hb)]
    congr 1
    unfold sum
    rw [Nat.xor_comm full, ← Nat.xor_assoc, Nat.xor_self, Nat.zero_xor]
  · intro h
    rw [← low_word q hl hq, crc_low l full _ hb (word_lt q hl hq)] at h
    have h2 := steps_inj (xor_lt hc (word_lt q hl hq)) (by decide) 32 h
    have h3 : word q = sum l := by
      have h4 : (crc l full ^^^ word q) ^^^ crc l full = full ^^^ crc l full := by rw [h2]
      unfold sum
      rw [← h4, Nat.xor_comm (crc l full) (word q), Nat.xor_assoc, Nat.xor_self, Nat.xor_zero]
    rw [← h3, low_word q hl hq]
end Go.Proofs.Ytlhncceabneckaa.Crc
