/- What the program's frame functions come to, in plain words (printed functions of FramePacks). -/
import Derived.Test.YtlhncceabneckaaCrc
import Derived.Test.YtlhncceabneckaaPFramePacksx3
namespace Go.Proofs.Ytlhncceabneckaa.CFramePacks
open Go.RowKit Go.Proofs.Ytlhncceabneckaa.PFramePacks Go.Proofs.YtlhncceabneckaaW.PrintWords Go.Proofs.YtlhncceabneckaaW.PrintLast Go.Proofs.Ytlhncceabneckaa.Crc

theorem bits_xor_u32_nat (a b : Nat) (ha : a < 4294967296) (hb : b < 4294967296) : Go.bits .xor .u32 (a : Int) (b : Int) = ((a ^^^ b : Nat) : Int) := by
  have hx : a ^^^ b < 2 ^ 32 := Nat.xor_lt_two_pow (by omega) (by omega)
  have h1 : (BitVec.ofInt 32 (a : Int)).toNat = a := by
    rw [BitVec.ofInt_natCast, BitVec.toNat_ofNat]; exact Nat.mod_eq_of_lt (by omega)
  have h2 : (BitVec.ofInt 32 (b : Int)).toNat = b := by
    rw [BitVec.ofInt_natCast, BitVec.toNat_ofNat]; exact Nat.mod_eq_of_lt (by omega)
  show IntKind.u32.wrap ((BitVec.ofInt 32 (a : Int) ^^^ BitVec.ofInt 32 (b : Int)).toNat : Int) = _
  rw [BitVec.toNat_xor, h1, h2, IntKind.wrap_u32]
  omega
theorem bits_xor_u8_nat (a b : Nat) (ha : a < 256) (hb : b < 256) : Go.bits .xor .u8 (a : Int) (b : Int) = ((a ^^^ b : Nat) : Int) := by
  have hx : a ^^^ b < 2 ^ 8 := Nat.xor_lt_two_pow (by omega) (by omega)
  have h1 : (BitVec.ofInt 8 (a : Int)).toNat = a := by
    rw [BitVec.ofInt_natCast, BitVec.toNat_ofNat]; exact Nat.mod_eq_of_lt (by omega)
  have h2 : (BitVec.ofInt 8 (b : Int)).toNat = b := by
    rw [BitVec.ofInt_natCast, BitVec.toNat_ofNat]; exact Nat.mod_eq_of_lt (by omega)
  show IntKind.u8.wrap ((BitVec.ofInt 8 (a : Int) ^^^ BitVec.ofInt 8 (b : Int)).toNat : Int) = _
  rw [BitVec.toNat_xor, h1, h2, IntKind.wrap_u8]
  omega
theorem bits_and1 (a : Nat) (ha : a < 4294967296) : Go.bits .and .u32 (a : Int) 1 = ((a % 2 : Nat) : Int) := by
  have := (Go.bits_nat .u32 32 (by decide) (fun n h0 h1 => by rw [Go.IntKind.wrap_u32]; omega) a 1 (by omega) (by decide)).1
  rw [show ((1 : Nat) : Int) = 1 from rfl] at this
  rw [this, Nat.and_one_is_mod]
theorem wrap_up {i : Int} (h : -9223372036854775808 ≤ i) (h2 : i < 9223372036854775808) : wrap64 i = i := by
  unfold wrap64
  omega

/-- A row of bytes, as natural numbers. -/
def ints (l : List Nat) : List Int := List.map (fun n : Nat => (n : Int)) l
theorem ints_length (l : List Nat) : (ints l).length = l.length := by simp [ints]
theorem rd_ints (l : List Nat) (i : Nat) : rd (ints l) (i : Int) = ((l.getD i 0 : Nat) : Int) := by
  unfold rd ints
  rw [Int.toNat_natCast, List.getD_eq_getElem?_getD, List.getD_eq_getElem?_getD, List.getElem?_map]
  cases l[i]? <;> rfl
theorem getD_lt {l : List Nat} (h : ∀ x ∈ l, x < 256) (i : Nat) : l.getD i 0 < 256 := by
  rw [List.getD_eq_getElem?_getD]
  rcases Nat.lt_or_ge i l.length with hi | hi
  · rw [List.getElem?_eq_getElem hi]
    exact h _ (List.getElem_mem hi)
  · rw [List.getElem?_eq_none hi]
    decide
theorem of_bytes {l : List Int} (h : ∀ x ∈ l, (Lit.int .u8 x).wf = true) : ∃ m : List Nat, l = ints m ∧ ∀ x ∈ m, x < 256 := by
  have h' : ∀ x ∈ l, 0 ≤ x ∧ x ≤ 255 := by
    intro x hx
    have := h x hx
    simpa [Lit.wf, IntKind.min, IntKind.max, IntKind.signed, IntKind.bits] using this
  refine ⟨l.map Int.toNat, ?_, ?_⟩
  · unfold ints
    rw [List.map_map]
    symm
    rw [List.map_congr_left (g := id), List.map_id]
    intro x hx
    have := h' x hx
    simp only [Function.comp, id]
    omega
  · intro x hx
    obtain ⟨y, hy, rfl⟩ := List.mem_map.1 hx
    have := h' y hy
    omega

theorem half_cast (C : Nat) : (C : Int) / 2 = ((C / 2 : Nat) : Int) := by omega
theorem more_loop (d : Nat) : ∀ (k : Nat) (C i : Nat), C < 4294967296 → i + d = 8 → d < k → frame_more.l0 k (C : Int) (i : Int) = some ((steps d C : Nat) : Int) := by
  induction d with
  | zero =>
    intro k C i hC hi hk
    obtain ⟨k, rfl⟩ : ∃ m, k = m + 1 := ⟨k - 1, by omega⟩
    simp only [frame_more.l0]
    rw [if_neg (by omega)]
    rfl
  | succ d ih =>
    intro k C i hC hi hk
    obtain ⟨k, rfl⟩ : ∃ m, k = m + 1 := ⟨k - 1, by omega⟩
    simp only [frame_more.l0]
    rw [if_pos (show (i : Int) < 8 by omega), bits_and1 C hC, half_cast, wrap_up (by omega) (by omega)]
    have hs : steps (d + 1) C = steps d (Crc.step C) := by
      clear ih hk hi hC
      induction d with
      | zero => rfl
      | succ d ih => show Crc.step (steps (d + 1) C) = Crc.step (steps d (Crc.step C)); rw [ih]
    rw [hs]
    have hcast : ((i : Int) + 1) = ((i + 1 : Nat) : Int) := by omega
    rw [hcast]
    by_cases h1 : C % 2 = 1
    · rw [if_pos (by omega), show (3988292384 : Int) = ((poly : Nat) : Int) from rfl, bits_xor_u32_nat _ _ (by omega) (by decide)]
      have e : Crc.step C = C / 2 ^^^ poly := by unfold Crc.step; rw [if_pos h1]
      rw [← e]
      exact ih k (Crc.step C) (i + 1) (step_lt hC) (by omega) (by omega)
    · rw [if_neg (by omega)]
      have e : Crc.step C = C / 2 := by unfold Crc.step; rw [if_neg h1, Nat.xor_zero]
      rw [← e]
      exact ih k (Crc.step C) (i + 1) (step_lt hC) (by omega) (by omega)
theorem more_is (k C x : Nat) (hC : C < 4294967296) (hx : x < 256) (hk : 8 < k) : frame_more.f k (C : Int) (x : Int) = some ((steps 8 (C ^^^ x) : Nat) : Int) := by
  unfold frame_more.f
  rw [show ((x : Int) % 4294967296) = (x : Int) by omega, bits_xor_u32_nat _ _ hC (by omega)]
  exact more_loop 8 k _ 0 (xor_lt hC (by omega)) (by omega) hk
theorem sum_loop (l : List Nat) (hb : ∀ x ∈ l, x < 256) (hn : l.length < 9223372036854775807) (d : Nat) : ∀ (k C i : Nat), C < 4294967296 → i + d = l.length → d + 8 < k →
    frame_Sum.l0 k (C : Int) (ints l) (l.length : Int) (i : Int) = some ((full ^^^ crc (l.drop i) C : Nat) : Int) := by
  induction d with
  | zero =>
    intro k C i hC hi hk
    obtain ⟨k, rfl⟩ : ∃ m, k = m + 1 := ⟨k - 1, by omega⟩
    simp only [frame_Sum.l0]
    rw [if_neg (by omega), List.drop_of_length_le (by omega), show (4294967295 : Int) = ((full : Nat) : Int) from rfl, bits_xor_u32_nat _ _ (by decide) hC]
    rfl
  | succ d ih =>
    intro k C i hC hi hk
    obtain ⟨k, rfl⟩ : ∃ m, k = m + 1 := ⟨k - 1, by omega⟩
    simp only [frame_Sum.l0]
    have hlt : i < l.length := by omega
    have hx : l.getD i 0 < 256 := getD_lt hb i
    rw [if_pos (by omega), if_pos (by omega), if_pos (by rw [ints_length]; omega), rd_ints, more_is k C _ hC hx (by omega)]
    simp only [Option.bind_some]
    rw [wrap_up (by omega) (by omega), show ((i : Int) + 1) = ((i + 1 : Nat) : Int) by omega, ih k _ (i + 1) (steps_lt (xor_lt hC (by omega)) 8) (by omega) (by omega)]
    rw [List.drop_eq_getElem_cons hlt]
    have e : l.getD i 0 = l[i] := by rw [List.getD_eq_getElem?_getD, List.getElem?_eq_getElem hlt]; rfl
    rw [e]
    rfl
/-- Sum: the machine's word. -/
theorem Sum_is (l : List Nat) (hb : ∀ x ∈ l, x < 256) (hn : l.length < 9223372036854775807) (k : Nat) (hk : l.length + 8 < k) : frame_Sum.f k (ints l) = some ((sum l : Nat) : Int) := by
  unfold frame_Sum.f
  have := sum_loop l hb hn l.length k full 0 (by decide) (by omega) hk
  rw [List.drop_zero] at this
  rw [ints_length]
  exact this

theorem alive_is : rookerylaw06_alive.f 32 = some true := by decide +kernel
theorem alive_more (k : Nat) (hk : 32 ≤ k) : rookerylaw06_alive.f k = some true := by
  obtain ⟨d, rfl⟩ : ∃ d, k = 32 + d := ⟨k - 32, by omega⟩
  clear hk
  induction d with
  | zero => exact alive_is
  | succ d ih => exact rookerylaw06_alive.mono (32 + d) _ ih
end Go.Proofs.Ytlhncceabneckaa.CFramePacks
