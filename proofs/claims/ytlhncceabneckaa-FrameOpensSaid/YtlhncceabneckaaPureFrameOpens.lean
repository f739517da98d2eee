/- FrameOpens: which frame any bytes are, or what is wrong first, as the document says; for any slice of bytes. -/
import Derived.Test.YtlhncceabneckaaCFrameOpens
import Derived.Test.YtlhncceabneckaaPFrameOpensx6
namespace Go.Proofs.Ytlhncceabneckaa.Pure
open Go.RowKit Go.Proofs.Ytlhncceabneckaa.PFrameOpens Go.Proofs.YtlhncceabneckaaW.PrintWords Go.Proofs.YtlhncceabneckaaW.PrintLast Go.Proofs.YtlhncceabneckaaW.PrintMore Go.Proofs.Ytlhncceabneckaa.Crc Go.Proofs.Ytlhncceabneckaa.CFrameOpens
theorem step_tdiv (C : Nat) (h : C < 4294967296) : Int.tdiv (C : Int) 2 = ((C / 2 : Nat) : Int) ∧ Int.tmod (C : Int) 2 = ((C % 2 : Nat) : Int) := by
  constructor
  · rw [Int.tdiv_eq_ediv_of_nonneg (by omega)]; omega
  · rw [Int.tmod_eq_emod_of_nonneg (by omega)]; omega
theorem steps_head (d C : Nat) : steps (d + 1) C = steps d (Crc.step C) := by
  induction d with
  | zero => rfl
  | succ d ih => show Crc.step (steps (d + 1) C) = Crc.step (steps d (Crc.step C)); rw [ih]
theorem wrapu {x : Int} (h : 0 ≤ x) (h2 : x < 18446744073709551616) : IntKind.u64.wrap x = x := by rw [Go.IntKind.wrap_u64]; omega
theorem ref_inner (l : List Nat) (i : Nat) (d : Nat) : ∀ (k C j : Nat) (r : Int), C < 4294967296 → j + d = 8 →
    (rookeryref06_Sum.l0 k (ints l) ((steps d C : Nat) : Int) (wrap64 ((i : Int) + 1)) = some r) → rookeryref06_Sum.l1 (k + d + 1) (ints l) (C : Int) (i : Int) (j : Int) = some r := by
  induction d with
  | zero =>
    intro k C j r hC hj h
    simp only [rookeryref06_Sum.l1]
    rw [if_neg (by omega)]
    exact h
  | succ d ih =>
    intro k C j r hC hj h
    rw [show k + (d + 1) + 1 = (k + d + 1) + 1 by omega]
    simp only [rookeryref06_Sum.l1]
    obtain ⟨e1, e2⟩ := step_tdiv C hC
    rw [if_pos (show (j : Int) < 8 by omega), e1, e2, wrapu (by omega) (by omega), wrap_up (by omega) (by omega), show ((j : Int) + 1) = ((j + 1 : Nat) : Int) by omega]
    rw [steps_head] at h
    by_cases h1 : C % 2 = 1
    · rw [if_pos (by omega), show (3988292384 : Int) = ((poly : Nat) : Int) from rfl, Go.bits_xor_u64_nat _ _ (by omega) (by decide)]
      have e : Crc.step C = C / 2 ^^^ poly := by unfold Crc.step; rw [if_pos h1]
      rw [← e]
      exact ih k _ (j + 1) r (step_lt hC) (by omega) h
    · rw [if_neg (by omega)]
      have e : Crc.step C = C / 2 := by unfold Crc.step; rw [if_neg h1, Nat.xor_zero]
      rw [← e]
      exact ih k _ (j + 1) r (step_lt hC) (by omega) h
theorem ref_outer (l : List Nat) (hb : ∀ x ∈ l, x < 256) (hn : l.length < 9223372036854775807) (d : Nat) : ∀ (C i : Nat), C < 4294967296 → i + d = l.length →
    rookeryref06_Sum.l0 (10 * d + 1) (ints l) (C : Int) (i : Int) = some ((full ^^^ crc (l.drop i) C : Nat) : Int) := by
  induction d with
  | zero =>
    intro C i hC hi
    simp only [rookeryref06_Sum.l0]
    rw [if_neg (by rw [ints_length]; omega), List.drop_of_length_le (by omega), show (4294967295 : Int) = ((full : Nat) : Int) from rfl, Go.bits_xor_u64_nat _ _ (by omega) (by decide)]
    have := xor_lt hC (show full < 4294967296 by decide)
    rw [show ((C ^^^ full : Nat) : Int) % 4294967296 = ((C ^^^ full : Nat) : Int) by omega, Nat.xor_comm]
    rfl
  | succ d ih =>
    intro C i hC hi
    rw [show 10 * (d + 1) + 1 = (10 * d + 10) + 1 by omega]
    simp only [rookeryref06_Sum.l0]
    have hlt : i < l.length := by omega
    have hx : l.getD i 0 < 256 := getD_lt hb i
    rw [if_pos (by rw [ints_length]; omega), if_pos (by omega), rd_ints, wrapu (by omega) (by omega), Go.bits_xor_u64_nat _ _ (by omega) (by omega)]
    rw [show 10 * d + 10 = (10 * d + 1) + 8 + 1 by omega]
    refine ref_inner l i 8 (10 * d + 1) _ 0 _ (xor_lt hC (by omega)) (by omega) ?_
    rw [wrap_up (by omega) (by omega), show ((i : Int) + 1) = ((i + 1 : Nat) : Int) by omega, ih _ (i + 1) (steps_lt (xor_lt hC (by omega)) 8) (by omega)]
    rw [List.drop_eq_getElem_cons hlt]
    have e : l.getD i 0 = l[i] := by rw [List.getD_eq_getElem?_getD, List.getElem?_eq_getElem hlt]; rfl
    rw [e]
    rfl
theorem RefSum_is (l : List Nat) (hb : ∀ x ∈ l, x < 256) (hn : l.length < 9223372036854775807) : ∀ k, 10 * l.length + 1 ≤ k → rookeryref06_Sum.f k (ints l) = some ((sum l : Nat) : Int) := by
  intro k hk
  obtain ⟨d, rfl⟩ : ∃ d, k = 10 * l.length + 1 + d := ⟨k - (10 * l.length + 1), by omega⟩
  clear hk
  induction d with
  | zero =>
    unfold rookeryref06_Sum.f
    have := ref_outer l hb hn l.length full 0 (by decide) (by omega)
    rw [List.drop_zero] at this
    exact this
  | succ d ih => exact rookeryref06_Sum.mono _ (10 * l.length + 1 + d) _ ih

set_option linter.unusedVariables false
theorem bl_loop (bs : ByteArray) : ∀ (n i : Nat) (r : List UInt8), bs.size - i = n → ByteArray.toList.loop bs i r = r.reverse ++ bs.data.toList.drop i := by
  intro n
  induction n with
  | zero =>
    intro i r h
    rw [ByteArray.toList.loop]
    rw [if_neg (by omega), List.drop_of_length_le (by rw [Array.length_toList]; show bs.size ≤ i; omega), List.append_nil]
  | succ n ih =>
    intro i r h
    have hi : i < bs.size := by omega
    rw [ByteArray.toList.loop]
    rw [if_pos hi, ih (i + 1) _ (by omega)]
    have hi' : i < bs.data.toList.length := by rw [Array.length_toList]; exact hi
    rw [List.drop_eq_getElem_cons hi']
    have : bs.get! i = bs.data.toList[i] := by
      show bs.data[i]! = _
      rw [getElem!_pos bs.data i hi]
      rfl
    rw [this]
    simp
theorem bl (bs : ByteArray) : bs.toList = bs.data.toList := by
  rw [ByteArray.toList, bl_loop bs bs.size 0 [] (by omega)]
  simp
theorem str_eq {a b : List Nat} (ha : ∀ x ∈ a, x < 256) (hb : ∀ x ∈ b, x < 256) : (Go.strOfNums (ints a)).toList = (Go.strOfNums (ints b)).toList ↔ a = b := by
  have hl : ∀ l : List Nat, (Go.strOfNums (ints l)).toList = l.map UInt8.ofNat := by
    intro l
    rw [bl]
    rw [Go.strOfNums_data]
    unfold ints
    rw [List.map_map]
    rfl
  rw [hl, hl]
  constructor
  · intro h
    have h2 := congrArg (List.map UInt8.toNat) h
    rw [List.map_map, List.map_map] at h2
    have e : ∀ l : List Nat, (∀ x ∈ l, x < 256) → List.map (UInt8.toNat ∘ UInt8.ofNat) l = l := by
      intro l hl
      rw [List.map_congr_left (g := id), List.map_id]
      intro x hx
      have := hl x hx
      simp only [Function.comp, id, UInt8.toNat_ofNat']
      omega
    rw [e a ha, e b hb] at h2
    exact h2
  · rintro rfl
    rfl
theorem ints_append (a b : List Nat) : ints a ++ ints b = ints (a ++ b) := by simp [ints]
/-- What is wrong with a frame. -/
def checkOf (a b c : Int) (n : Nat) : Int :=
  if (1 ≤ a ∧ a ≤ 64 ∧ 1 ≤ b ∧ b ≤ 64) ∧ a ≠ b then (if c = 0 then 61 else if 1200 < n then 62 else 0) else 60
theorem Check_j0 (k : Nat) (v : Bool) (a b c : Int) (l : List Int) (hk : 0 < k) : frame_Check.j0 k v a b c l = some (if v = true then 60 else if c = 0 then 61 else if 1200 < l.length then 62 else 0) := by
  obtain ⟨k, rfl⟩ : ∃ m, k = m + 1 := ⟨k - 1, by omega⟩
  simp only [frame_Check.j0]
  split
  · rfl
  · split
    · rfl
    · split
      · rw [if_pos (by omega)]
      · rw [if_neg (by omega)]
theorem Check_is (k : Nat) (a b c : Int) (l : List Int) (hk : 0 < k) : frame_Check.f k a b c l = some (checkOf a b c l.length) := by
  unfold frame_Check.f frame_node.f checkOf
  by_cases h1 : a ≥ 1
  · rw [if_pos h1, Option.bind_some]
    by_cases h2 : a ≤ 64
    · rw [if_pos (by simpa using h2)]
      by_cases h3 : b ≥ 1
      · rw [if_pos h3, Option.bind_some]
        by_cases h4 : b ≤ 64
        · rw [if_pos (by simpa using h4), Check_j0 k _ _ _ _ _ hk]
          by_cases h5 : a = b
          · rw [if_pos (by simpa using h5), if_neg (by simp [h5])]
          · have hcond : (1 ≤ a ∧ a ≤ 64 ∧ 1 ≤ b ∧ b ≤ 64) ∧ a ≠ b := ⟨⟨h1, h2, h3, h4⟩, h5⟩
            rw [if_neg (by simpa using h5), if_pos hcond]
        · rw [if_neg (by simpa using h4), Check_j0 k _ _ _ _ _ hk, if_pos rfl, if_neg (by omega)]
      · rw [if_neg h3, Option.bind_some, if_neg (by decide), Check_j0 k _ _ _ _ _ hk, if_pos rfl, if_neg (by omega)]
    · rw [if_neg (by simpa using h2), Check_j0 k _ _ _ _ _ hk, if_pos rfl, if_neg (by omega)]
  · rw [if_neg h1, Option.bind_some, if_neg (by decide), Check_j0 k _ _ _ _ _ hk, if_pos rfl, if_neg (by omega)]
theorem checked {a b c : Int} {n : Nat} (h : checkOf a b c n = 0) : 1 ≤ a ∧ a ≤ 64 ∧ 1 ≤ b ∧ b ≤ 64 ∧ a ≠ b ∧ c ≠ 0 ∧ n ≤ 1200 := by
  unfold checkOf at h
  split at h
  · rename_i h1
    split at h
    · omega
    · split at h
      · omega
      · exact ⟨h1.1.1, h1.1.2.1, h1.1.2.2.1, h1.1.2.2.2, h1.2, by assumption, by omega⟩
  · omega
theorem check_ok {a b c : Int} {n : Nat} (h : 1 ≤ a ∧ a ≤ 64 ∧ 1 ≤ b ∧ b ≤ 64 ∧ a ≠ b ∧ c ≠ 0 ∧ n ≤ 1200) : checkOf a b c n = 0 := by
  unfold checkOf
  rw [if_pos ⟨⟨h.1, h.2.1, h.2.2.1, h.2.2.2.1⟩, h.2.2.2.2.1⟩, if_neg h.2.2.2.2.2.1, if_neg (by omega)]
def four (C : Nat) : List Nat := [C / 16777216 % 256, C / 65536 % 256, C / 256 % 256, C % 256]
def ahead (A B C : Nat) (l : List Nat) : List Nat := [82, 75, A, B] ++ four C ++ l
def packed (A B C : Nat) (l : List Nat) : List Nat := ahead A B C l ++ low (sum (ahead A B C l))
theorem four_is (C : Nat) (h : C < 4294967296) : frame_four.f (C : Int) = some (ints (four C)) := by
  unfold frame_four.f
  congr 1
theorem ahead_byte {A B C : Nat} {l : List Nat} (hA : A < 256) (hB : B < 256) (hb : ∀ x ∈ l, x < 256) : ∀ x ∈ ahead A B C l, x < 256 := by
  intro x hx
  simp only [ahead, four, List.mem_append, List.mem_cons, List.not_mem_nil, or_false] at hx
  rcases hx with (h | h) | h
  · omega
  · omega
  · exact hb x h
theorem packed_byte {A B C : Nat} {l : List Nat} (hA : A < 256) (hB : B < 256) (hb : ∀ x ∈ l, x < 256) : ∀ x ∈ packed A B C l, x < 256 := by
  intro x hx
  rcases List.mem_append.1 hx with h | h
  · exact ahead_byte hA hB hb x h
  · exact low_byte _ x h
theorem ahead_length (A B C : Nat) (l : List Nat) : (ahead A B C l).length = l.length + 8 := by simp [ahead, four]
theorem packed_length (A B C : Nat) (l : List Nat) : (packed A B C l).length = l.length + 12 := by simp [packed, ahead_length, low]
theorem low_ints (s : Nat) : ([((s : Nat) : Int) % 256, ((s : Nat) : Int) / 256 % 256, ((s : Nat) : Int) / 65536 % 256, ((s : Nat) : Int) / 16777216 % 256] : List Int) = ints (low s) := by
  simp only [ints, low, List.map_cons, List.map_nil]
  congr 1
theorem Pack_no (k : Nat) (a b c : Int) (l : List Int) (hk : 0 < k) (h : checkOf a b c l.length ≠ 0) : frame_Pack.f k a b c l = some ([], checkOf a b c l.length) := by
  unfold frame_Pack.f
  rw [Check_is k _ _ _ _ hk, Option.bind_some, if_neg h]
theorem Pack_yes (k A B C : Nat) (l : List Nat) (hb : ∀ x ∈ l, x < 256) (hC : C < 4294967296) (h : checkOf (A : Int) (B : Int) (C : Int) l.length = 0) (hk : l.length + 20 < k) :
    frame_Pack.f k (A : Int) (B : Int) (C : Int) (ints l) = some (ints (packed A B C l), 0) := by
  have hc := checked h
  unfold frame_Pack.f
  rw [Check_is k _ _ _ _ (by omega), ints_length, Option.bind_some, if_pos h, Option.bind_some, four_is C hC, Option.bind_some]
  have e1 : ([82, 75, (A : Int) % 256, (B : Int) % 256] : List Int) = ints [82, 75, A, B] := by
    rw [show (A : Int) % 256 = A by omega, show (B : Int) % 256 = B by omega]
    rfl
  rw [e1, if_pos (by simp [ints, four]), Option.bind_some, ints_append, if_pos (by simp [ints, four]; omega), Option.bind_some, ints_append]
  have e2 : [82, 75, A, B] ++ four C ++ l = ahead A B C l := rfl
  rw [e2, Sum_is _ (ahead_byte (by omega) (by omega) hb) (by rw [ahead_length]; omega) k (by rw [ahead_length]; omega), Option.bind_some, Option.bind_some, low_ints]
  rw [if_pos (by simp [ints, low, ahead_length]; omega), ints_append]
  rfl

/-- What bytes say. -/
def be (l : List Nat) : Nat := l.getD 4 0 * 16777216 + l.getD 5 0 * 65536 + l.getD 6 0 * 256 + l.getD 7 0
/-- Behind the marks: the frame, or what is wrong with it. -/
def gotOf (l : List Nat) : Int × Int × Int × List Int × Int :=
  if checkOf (l.getD 2 0 : Nat) (l.getD 3 0 : Nat) (be l : Nat) (l.length - 12) = 0 then (((l.getD 2 0 : Nat) : Int), ((l.getD 3 0 : Nat) : Int), ((be l : Nat) : Int), ints ((l.take (l.length - 4)).drop 8), 0)
  else (0, 0, 0, [], checkOf (l.getD 2 0 : Nat) (l.getD 3 0 : Nat) (be l : Nat) (l.length - 12))
def openOf (l : List Nat) : Int × Int × Int × List Int × Int :=
  if l.length < 12 then (0, 0, 0, [], 63) else if 1212 < l.length then (0, 0, 0, [], 62) else
  if l.drop (l.length - 4) = low (sum (l.take (l.length - 4))) then
    (if l.getD 0 0 = 82 ∧ l.getD 1 0 = 75 then
      gotOf l
    else (0, 0, 0, [], 65))
  else (0, 0, 0, [], 64)
theorem or_high (i a b : Nat) (hb : b < 2 ^ i) (h : 2 ^ i * a + b < 4294967296) : Go.bits .or .u32 ((2 ^ i * a : Nat) : Int) (b : Int) = ((2 ^ i * a + b : Nat) : Int) := by
  have := (Go.bits_nat .u32 32 (by decide) (fun n h0 h1 => by rw [Go.IntKind.wrap_u32]; omega) (2 ^ i * a) b (by omega) (by omega)).2
  rw [this, ← Nat.two_pow_add_eq_or_of_lt hb]
theorem of_bits (a b c d : Nat) (ha : a < 256) (hb : b < 256) (hc : c < 256) (hd : d < 256) :
    Go.bits .or .u32 (Go.bits .or .u32 (Go.bits .or .u32 ((((a : Int) % 4294967296) * 16777216) % 4294967296) ((((b : Int) % 4294967296) * 65536) % 4294967296)) ((((c : Int) % 4294967296) * 256) % 4294967296)) ((d : Int) % 4294967296) =
      ((a * 16777216 + b * 65536 + c * 256 + d : Nat) : Int) := by
  have e1 : ((((a : Int) % 4294967296) * 16777216) % 4294967296) = ((2 ^ 24 * a : Nat) : Int) := by omega
  have e2 : ((((b : Int) % 4294967296) * 65536) % 4294967296) = ((b * 65536 : Nat) : Int) := by omega
  have e3 : ((((c : Int) % 4294967296) * 256) % 4294967296) = ((c * 256 : Nat) : Int) := by omega
  have e4 : ((d : Int) % 4294967296) = ((d : Nat) : Int) := by omega
  rw [e1, e2, e3, e4, or_high 24 a (b * 65536) (by omega) (by omega)]
  rw [show 2 ^ 24 * a + b * 65536 = 2 ^ 16 * (a * 256 + b) by omega, or_high 16 _ (c * 256) (by omega) (by omega)]
  rw [show 2 ^ 16 * (a * 256 + b) + c * 256 = 2 ^ 8 * (a * 65536 + b * 256 + c) by omega, or_high 8 _ d (by omega) (by omega)]
  congr 1
  omega
theorem cut_is (l : List Nat) (n j : Nat) : ((ints l).take n).drop j = ints ((l.take n).drop j) := by
  unfold ints
  rw [List.map_drop, List.map_take]
theorem getD_cut (l : List Nat) (i : Nat) (hl : i < 4) : (((l.take 8).drop 4)).getD i 0 = l.getD (4 + i) 0 := by
  rw [List.getD_eq_getElem?_getD, List.getD_eq_getElem?_getD, List.getElem?_drop, List.getElem?_take_of_lt (by omega)]
theorem of_is (l : List Nat) (hb : ∀ x ∈ l, x < 256) (hl : 8 ≤ l.length) : frame_of.f (((ints l).take 8).drop 4) = some ((be l : Nat) : Int) := by
  unfold frame_of.f
  rw [cut_is]
  have h4 : (ints ((l.take 8).drop 4)).length = 4 := by rw [ints_length, List.length_drop, List.length_take]; omega
  rw [h4, if_pos (by decide), if_pos (by decide), if_pos (by decide), if_pos (by decide)]
  have r : ∀ i : Nat, i < 4 → rd (ints ((l.take 8).drop 4)) (i : Int) = ((l.getD (4 + i) 0 : Nat) : Int) := fun i hi => by rw [rd_ints, getD_cut l i hi]
  have r0 := r 0 (by omega)
  have r1 := r 1 (by omega)
  have r2 := r 2 (by omega)
  have r3 := r 3 (by omega)
  rw [show rd (ints ((l.take 8).drop 4)) 0 = _ from r0, show rd (ints ((l.take 8).drop 4)) 1 = _ from r1, show rd (ints ((l.take 8).drop 4)) 2 = _ from r2, show rd (ints ((l.take 8).drop 4)) 3 = _ from r3]
  rw [of_bits _ _ _ _ (getD_lt hb _) (getD_lt hb _) (getD_lt hb _) (getD_lt hb _)]
  rfl
theorem Open_j1 (l : List Nat) (hb : ∀ x ∈ l, x < 256) (h1 : 12 ≤ l.length) (h2 : l.length ≤ 1212) (v : Bool) (k : Nat) (hk : 1 < k) :
    frame_Open.j1 k (ints l) ((l.length - 4 : Nat) : Int) v = some (if v = true then (0, 0, 0, [], 65) else
      gotOf l) := by
  obtain ⟨k, rfl⟩ : ∃ m, k = m + 1 := ⟨k - 1, by omega⟩
  simp only [frame_Open.j1]
  split
  · rfl
  · have e2 : wrap64 (rd (ints l) 2) = ((l.getD 2 0 : Nat) : Int) := by
      have := getD_lt hb 2
      rw [show (2 : Int) = ((2 : Nat) : Int) from rfl, rd_ints, wrap_up (by omega) (by omega)]
    have e3 : wrap64 (rd (ints l) 3) = ((l.getD 3 0 : Nat) : Int) := by
      have := getD_lt hb 3
      rw [show (3 : Int) = ((3 : Nat) : Int) from rfl, rd_ints, wrap_up (by omega) (by omega)]
    rw [e2, e3, ints_length, if_pos (by omega), if_pos (by omega), if_pos (by omega), if_pos (by omega), of_is l hb (by omega), Option.bind_some, if_pos (by omega), if_pos (by omega)]
    rw [Int.toNat_natCast, cut_is]
    have hlen : ((l.take (l.length - 4)).drop 8).length = l.length - 12 := by rw [List.length_drop, List.length_take]; omega
    rw [if_pos (by rw [ints_length, hlen]; simp; omega), Option.bind_some, List.nil_append, Check_is k _ _ _ _ (by omega), ints_length, hlen, Option.bind_some]
    unfold gotOf
    split
    · rfl
    · rfl
theorem Open_j0 (l : List Nat) (hb : ∀ x ∈ l, x < 256) (h1 : 12 ≤ l.length) (h2 : l.length ≤ 1212) (v : Bool) (k : Nat) (hk : 2 < k) :
    frame_Open.j0 k (ints l) ((l.length - 4 : Nat) : Int) v = some (if v = true then (0, 0, 0, [], 64) else
      (if l.getD 0 0 = 82 ∧ l.getD 1 0 = 75 then
      gotOf l
    else (0, 0, 0, [], 65))) := by
  obtain ⟨k, rfl⟩ : ∃ m, k = m + 1 := ⟨k - 1, by omega⟩
  simp only [frame_Open.j0]
  split
  · rfl
  · have e0 : rd (ints l) 0 = ((l.getD 0 0 : Nat) : Int) := rd_ints l 0
    have e1 : rd (ints l) 1 = ((l.getD 1 0 : Nat) : Int) := rd_ints l 1
    rw [e0, e1, ints_length, if_pos (by omega)]
    by_cases h : l.getD 0 0 = 82
    · rw [if_pos (by omega), if_pos (by omega), Open_j1 l hb h1 h2 _ k (by omega)]
      by_cases h' : l.getD 1 0 = 75
      · have : (((l.getD 1 0 : Nat) : Int) != 75) = false := by rw [h']; rfl
        rw [this, if_neg (by decide), if_pos ⟨h, h'⟩]
      · have : (((l.getD 1 0 : Nat) : Int) != 75) = true := by rw [bne_iff_ne]; omega
        rw [this, if_pos rfl, if_neg (fun e => h' e.2)]
    · rw [if_neg (by omega), Open_j1 l hb h1 h2 _ k (by omega), if_pos rfl, if_neg (fun e => h e.1)]
theorem tail_is (l : List Nat) (h1 : 12 ≤ l.length) : l.drop (l.length - 4) = [l.getD (l.length - 4) 0, l.getD (l.length - 4 + 1) 0, l.getD (l.length - 4 + 2) 0, l.getD (l.length - 4 + 3) 0] := by
  have hg : ∀ i, i < l.length → l.drop i = l.getD i 0 :: l.drop (i + 1) := by
    intro i hi
    rw [List.drop_eq_getElem_cons hi, List.getD_eq_getElem?_getD, List.getElem?_eq_getElem hi]
    rfl
  rw [hg _ (by omega), hg _ (by omega), hg _ (by omega), hg _ (by omega), List.drop_of_length_le (by omega)]
theorem Open_is (l : List Nat) (hb : ∀ x ∈ l, x < 256) (hn : l.length ≤ 9223372036854775807) (k : Nat) (hk : 1240 < k) : frame_Open.f k (ints l) = some (openOf l) := by
  unfold frame_Open.f openOf
  rw [ints_length]
  by_cases h1 : l.length < 12
  · rw [if_pos (by omega), if_pos h1]
  · rw [if_neg (by omega), if_neg h1]
    by_cases h2 : 1212 < l.length
    · rw [if_pos (by omega), if_pos h2]
    · rw [if_neg (by omega), if_neg h2]
      have ew : wrap64 ((l.length : Int) - 4) = ((l.length - 4 : Nat) : Int) := by rw [wrap_up (by omega) (by omega)]; omega
      have ew1 : wrap64 (((l.length - 4 : Nat) : Int) + 1) = ((l.length - 4 + 1 : Nat) : Int) := by rw [wrap_up (by omega) (by omega)]; omega
      have ew2 : wrap64 (((l.length - 4 : Nat) : Int) + 2) = ((l.length - 4 + 2 : Nat) : Int) := by rw [wrap_up (by omega) (by omega)]; omega
      have ew3 : wrap64 (((l.length - 4 : Nat) : Int) + 3) = ((l.length - 4 + 3 : Nat) : Int) := by rw [wrap_up (by omega) (by omega)]; omega
      have ht : ∀ x ∈ l.take (l.length - 4), x < 256 := fun x hx => hb x (List.mem_of_mem_take hx)
      have hc : (ints l).take (l.length - 4) = ints (l.take (l.length - 4)) := by have := cut_is l (l.length - 4) 0; simpa using this
      rw [ew, ew1, ew2, ew3, if_pos (by omega), if_pos (by omega), Int.toNat_natCast, hc, Sum_is _ ht (by rw [List.length_take]; omega) k (by rw [List.length_take]; omega), Option.bind_some]
      rw [if_pos (by omega), rd_ints, rd_ints, rd_ints, rd_ints, tail_is l (by omega)]
      generalize hs : sum (l.take (l.length - 4)) = s
      generalize ha : l.getD (l.length - 4) 0 = a
      generalize hb2 : l.getD (l.length - 4 + 1) 0 = b
      generalize hc2 : l.getD (l.length - 4 + 2) 0 = c
      generalize hd : l.getD (l.length - 4 + 3) 0 = d
      have e1 : ((s : Nat) : Int) % 256 = ((s % 256 : Nat) : Int) := by omega
      have e2 : ((s : Nat) : Int) / 256 % 256 = ((s / 256 % 256 : Nat) : Int) := by omega
      have e3 : ((s : Nat) : Int) / 65536 % 256 = ((s / 65536 % 256 : Nat) : Int) := by omega
      have e4 : ((s : Nat) : Int) / 16777216 % 256 = ((s / 16777216 % 256 : Nat) : Int) := by omega
      rw [e1, e2, e3, e4]
      unfold low
      by_cases q1 : a = s % 256
      · rw [if_pos (by omega), if_pos (by omega), if_pos (by omega)]
        by_cases q2 : b = s / 256 % 256
        · rw [if_pos (by omega), if_pos (by omega), if_pos (by omega)]
          by_cases q3 : c = s / 65536 % 256
          · rw [if_pos (by omega), if_pos (by omega), if_pos (by omega), Open_j0 l hb (by omega) (by omega) _ k (by omega)]
            by_cases q4 : d = s / 16777216 % 256
            · have : (((d : Nat) : Int) != ((s / 16777216 % 256 : Nat) : Int)) = false := by rw [q4]; simp
              have hq : [a, b, c, d] = [s % 256, s / 256 % 256, s / 65536 % 256, s / 16777216 % 256] := by rw [q1, q2, q3, q4]
              rw [this, if_neg (by decide), if_pos hq]
            · have : (((d : Nat) : Int) != ((s / 16777216 % 256 : Nat) : Int)) = true := by rw [bne_iff_ne]; omega
              rw [this, if_pos rfl, if_neg (by intro e; injection e with _ e; injection e with _ e; injection e with _ e; injection e with e _; exact q4 e)]
          · rw [if_neg (by omega), Open_j0 l hb (by omega) (by omega) _ k (by omega), if_pos rfl, if_neg (by intro e; injection e with _ e; injection e with _ e; injection e with e _; exact q3 e)]
        · rw [if_neg (by omega), Open_j0 l hb (by omega) (by omega) _ k (by omega), if_pos rfl, if_neg (by intro e; injection e with _ e; injection e with e _; exact q2 e)]
      · rw [if_neg (by omega), Open_j0 l hb (by omega) (by omega) _ k (by omega), if_pos rfl, if_neg (by intro e; injection e with e _; exact q1 e)]

/-! ### the document's words -/
theorem RefCheck_j0 (k : Nat) (v : Bool) (a b c : Int) (l : List Int) (hk : 0 < k) : rookeryref06_Check.j0 k v a b c l = some (if v = true then 60 else if c = 0 then 61 else if 1200 < l.length then 62 else 0) := by
  obtain ⟨k, rfl⟩ : ∃ m, k = m + 1 := ⟨k - 1, by omega⟩
  simp only [rookeryref06_Check.j0]
  split
  · rfl
  · split
    · rfl
    · split
      · rw [if_pos (by omega)]
      · rw [if_neg (by omega)]
theorem RefCheck_is (k : Nat) (a b c : Int) (l : List Int) (hk : 0 < k) : rookeryref06_Check.f k a b c l = some (checkOf a b c l.length) := by
  unfold rookeryref06_Check.f checkOf
  by_cases h1 : a < 1
  · rw [if_pos h1, RefCheck_j0 k _ _ _ _ _ hk, if_pos rfl, if_neg (by omega)]
  · rw [if_neg h1]
    by_cases h2 : a > 64
    · rw [if_pos h2, RefCheck_j0 k _ _ _ _ _ hk, if_pos rfl, if_neg (by omega)]
    · rw [if_neg h2]
      by_cases h3 : b < 1
      · rw [if_pos h3, RefCheck_j0 k _ _ _ _ _ hk, if_pos rfl, if_neg (by omega)]
      · rw [if_neg h3]
        by_cases h4 : b > 64
        · rw [if_pos h4, RefCheck_j0 k _ _ _ _ _ hk, if_pos rfl, if_neg (by omega)]
        · rw [if_neg h4, RefCheck_j0 k _ _ _ _ _ hk]
          by_cases h5 : a = b
          · rw [if_pos (by simpa using h5), if_neg (by simp [h5])]
          · have hcond : (1 ≤ a ∧ a ≤ 64 ∧ 1 ≤ b ∧ b ≤ 64) ∧ a ≠ b := ⟨⟨by omega, by omega, by omega, by omega⟩, h5⟩
            rw [if_neg (by simpa using h5), if_pos hcond]
theorem RefFour_is (C : Nat) (h : C < 4294967296) : rookeryref06_Four.f (C : Int) = some (ints (four C)) := by
  unfold rookeryref06_Four.f
  have t : ∀ n : Nat, 0 < n → Int.tdiv (C : Int) (n : Int) = ((C / n : Nat) : Int) := fun n _ => by rw [Int.tdiv_eq_ediv_of_nonneg (by omega)]; rfl
  have t1 := t 16777216 (by decide)
  have t2 := t 65536 (by decide)
  have t3 := t 256 (by decide)
  have t4 : Int.tmod (C : Int) 256 = ((C % 256 : Nat) : Int) := by rw [Int.tmod_eq_emod_of_nonneg (by omega)]; rfl
  rw [show Int.tdiv (C : Int) 16777216 = _ from t1, show Int.tdiv (C : Int) 65536 = _ from t2, show Int.tdiv (C : Int) 256 = _ from t3, t4]
  have u1 : ((C / 16777216 : Nat) : Int) % 4294967296 % 256 = ((C / 16777216 % 256 : Nat) : Int) := by omega
  have u2 : ((C / 65536 : Nat) : Int) % 4294967296 % 256 = ((C / 65536 % 256 : Nat) : Int) := by omega
  have u3 : ((C / 256 : Nat) : Int) % 4294967296 % 256 = ((C / 256 % 256 : Nat) : Int) := by omega
  have u4 : ((C % 256 : Nat) : Int) % 256 = ((C % 256 : Nat) : Int) := by omega
  rw [u1, u2, u3, u4]
  rfl
theorem RefLow_is (C : Nat) (h : C < 4294967296) : rookeryref06_Low.f (C : Int) = some (ints (low C)) := by
  unfold rookeryref06_Low.f
  have h4 : (ints (four C)).length = 4 := rfl
  rw [RefFour_is C h, Option.bind_some, h4, if_pos (by decide), if_pos (by decide), if_pos (by decide), if_pos (by decide)]
  rfl

theorem RefOf_step (l : List Nat) (hb : ∀ x ∈ l, x < 256) (k n j : Nat) (h8 : 8 ≤ l.length) (hn : l.length ≤ 1212) (hj : j < 4) :
    rookeryref06_Of.l0 (k + 1) (ints l) 4 (n : Int) (j : Int) = rookeryref06_Of.l0 k (ints l) 4 (((n * 256 % 4294967296 + l.getD (4 + j) 0) % 4294967296 : Nat) : Int) ((j + 1 : Nat) : Int) := by
  have q1 : (j : Int) < 4 := by omega
  have e1 : wrap64 (4 + (j : Int)) = ((4 + j : Nat) : Int) := by rw [wrap_up (by omega) (by omega)]; omega
  have q2 : (0 : Int) ≤ ((4 + j : Nat) : Int) := by omega
  have q3 : ((4 + j : Nat) : Int) < ((l.length : Nat) : Int) := by omega
  have e2 : wrap64 ((j : Int) + 1) = ((j + 1 : Nat) : Int) := by rw [wrap_up (by omega) (by omega)]; omega
  have e3 : (((n : Int) * 256) % 4294967296 + (((l.getD (4 + j) 0 : Nat) : Int) % 4294967296)) % 4294967296 = (((n * 256 % 4294967296 + l.getD (4 + j) 0) % 4294967296 : Nat) : Int) := by
    have := getD_lt hb (4 + j)
    omega
  rw [rookeryref06_Of.l0, if_pos q1, e1, if_pos q2, ints_length, if_pos q3, rd_ints, e2, e3]
theorem RefOf_is (l : List Nat) (hb : ∀ x ∈ l, x < 256) (h8 : 8 ≤ l.length) (hn : l.length ≤ 1212) (k : Nat) (hk : 4 < k) : rookeryref06_Of.f k (ints l) 4 = some ((be l : Nat) : Int) := by
  obtain ⟨k, rfl⟩ : ∃ m, k = m + 5 := ⟨k - 5, by omega⟩
  unfold rookeryref06_Of.f
  have s0 := RefOf_step l hb (k + 4) 0 0 h8 hn (by omega)
  have s1 := RefOf_step l hb (k + 3) ((0 * 256 % 4294967296 + l.getD (4 + 0) 0) % 4294967296) 1 h8 hn (by omega)
  have s2 := RefOf_step l hb (k + 2) (((0 * 256 % 4294967296 + l.getD (4 + 0) 0) % 4294967296 * 256 % 4294967296 + l.getD (4 + 1) 0) % 4294967296) 2 h8 hn (by omega)
  have s3 := RefOf_step l hb (k + 1) ((((0 * 256 % 4294967296 + l.getD (4 + 0) 0) % 4294967296 * 256 % 4294967296 + l.getD (4 + 1) 0) % 4294967296 * 256 % 4294967296 + l.getD (4 + 2) 0) % 4294967296) 3 h8 hn (by omega)
  rw [show (0 : Int) = ((0 : Nat) : Int) from rfl, show k + 5 = k + 4 + 1 from rfl, s0, show k + 4 = k + 3 + 1 from rfl, show (0 + 1 : Nat) = 1 from rfl, s1, show k + 3 = k + 2 + 1 from rfl, show (1 + 1 : Nat) = 2 from rfl, s2, show k + 2 = k + 1 + 1 from rfl, show (2 + 1 : Nat) = 3 from rfl, s3]
  rw [rookeryref06_Of.l0, if_neg (by omega)]
  clear s0 s1 s2 s3
  have h4 := getD_lt hb 4
  have h5 := getD_lt hb 5
  have h6 := getD_lt hb 6
  have h7 := getD_lt hb 7
  unfold be
  show some (((((((0 * 256 % 4294967296 + l.getD 4 0) % 4294967296 * 256 % 4294967296 + l.getD 5 0) % 4294967296 * 256 % 4294967296 + l.getD 6 0) % 4294967296 * 256 % 4294967296 + l.getD 7 0) % 4294967296 : Nat)) : Int) = _
  congr 2
  omega
theorem RefOpen_j0 (l : List Nat) (hb : ∀ x ∈ l, x < 256) (h1 : 12 ≤ l.length) (h2 : l.length ≤ 1212) (v : Bool) (k : Nat) (hk : 10 < k) :
    rookeryref06_Open.j0 k (ints l) ((l.length - 4 : Nat) : Int) v = some (if v = true then (0, 0, 0, [], 65) else gotOf l) := by
  obtain ⟨k, rfl⟩ : ∃ m, k = m + 1 := ⟨k - 1, by omega⟩
  simp only [rookeryref06_Open.j0]
  split
  · rfl
  · have e2 : wrap64 (rd (ints l) 2) = ((l.getD 2 0 : Nat) : Int) := by
      have := getD_lt hb 2
      rw [show (2 : Int) = ((2 : Nat) : Int) from rfl, rd_ints, wrap_up (by omega) (by omega)]
    have e3 : wrap64 (rd (ints l) 3) = ((l.getD 3 0 : Nat) : Int) := by
      have := getD_lt hb 3
      rw [show (3 : Int) = ((3 : Nat) : Int) from rfl, rd_ints, wrap_up (by omega) (by omega)]
    have hlen : ((l.take (l.length - 4)).drop 8).length = l.length - 12 := by rw [List.length_drop, List.length_take]; omega
    rw [e2, e3, ints_length, if_pos (by omega), if_pos (by omega), RefOf_is l hb (by omega) h2 k (by omega), Option.bind_some, Option.bind_some, if_pos (by omega), if_pos (by omega)]
    rw [Int.toNat_natCast, cut_is, if_pos (by rw [ints_length, hlen]; simp; omega), Option.bind_some, List.nil_append, RefCheck_is k _ _ _ _ (by omega), ints_length, hlen, Option.bind_some]
    unfold gotOf
    split
    · rfl
    · rfl
theorem RefOpen_is (l : List Nat) (hb : ∀ x ∈ l, x < 256) (hn : l.length ≤ 9223372036854775807) (k : Nat) (hk : 13000 < k) : rookeryref06_Open.f k (ints l) = some (openOf l) := by
  unfold rookeryref06_Open.f openOf
  rw [ints_length]
  by_cases h1 : l.length < 12
  · rw [if_pos (by omega), if_pos h1]
  · rw [if_neg (by omega), if_neg h1]
    by_cases h2 : 1212 < l.length
    · rw [if_pos (by omega), if_pos h2]
    · rw [if_neg (by omega), if_neg h2]
      have ew : wrap64 ((l.length : Int) - 4) = ((l.length - 4 : Nat) : Int) := by rw [wrap_up (by omega) (by omega)]; omega
      have ht : ∀ x ∈ l.take (l.length - 4), x < 256 := fun x hx => hb x (List.mem_of_mem_take hx)
      have hd : ∀ x ∈ l.drop (l.length - 4), x < 256 := fun x hx => hb x (List.mem_of_mem_drop hx)
      have hc : (ints l).take (l.length - 4) = ints (l.take (l.length - 4)) := by have := cut_is l (l.length - 4) 0; simpa using this
      have hc2 : (ints l).drop (l.length - 4) = ints (l.drop (l.length - 4)) := by unfold ints; rw [List.map_drop]
      have hlen : (l.take (l.length - 4)).length ≤ 1208 := by rw [List.length_take]; omega
      rw [ew, if_pos (by omega), if_pos (by omega), Int.toNat_natCast, hc, hc2, RefSum_is _ ht (by omega) k (by omega), Option.bind_some, RefLow_is _ (sum_lt ht), Option.bind_some]
      have e0 : rd (ints l) 0 = ((l.getD 0 0 : Nat) : Int) := rd_ints l 0
      have e1 : rd (ints l) 1 = ((l.getD 1 0 : Nat) : Int) := rd_ints l 1
      by_cases hs : l.drop (l.length - 4) = low (sum (l.take (l.length - 4)))
      · rw [if_pos ((str_eq hd (low_byte _)).2 hs), if_pos hs, if_pos (by omega), e0, e1]
        by_cases h : l.getD 0 0 = 82
        · rw [if_pos (by omega), if_pos (by omega), RefOpen_j0 l hb (by omega) (by omega) _ k (by omega)]
          by_cases h' : l.getD 1 0 = 75
          · have : (((l.getD 1 0 : Nat) : Int) != 75) = false := by rw [h']; rfl
            rw [this, if_neg (by decide), if_pos ⟨h, h'⟩]
          · have : (((l.getD 1 0 : Nat) : Int) != 75) = true := by rw [bne_iff_ne]; omega
            rw [this, if_pos rfl, if_neg (fun e => h' e.2)]
        · rw [if_neg (by omega), RefOpen_j0 l hb (by omega) (by omega) _ k (by omega), if_pos rfl, if_neg (fun e => h e.1)]
      · rw [if_neg (fun e => hs ((str_eq hd (low_byte _)).1 e)), if_neg hs]

theorem same_self (a b c : Int) (l : List Int) : rookeryref06_Same.f a b c l a b c l = some true := by
  unfold rookeryref06_Same.f
  rw [if_pos rfl, if_pos rfl, if_pos rfl]
  simp
theorem opens_loop (l : List Nat) (hb : ∀ x ∈ l, x < 256) (hn : l.length ≤ 9223372036854775807) (d : Nat) : ∀ (k i : Nat) (m : List Int), m.length ≤ 9223372036854775807 → i + d = m.length → d + 14000 < k →
    rookerylaw06_FrameOpens.l0 k (ints l) m (openOf l).2.2.2.2 (i : Int) (openOf l).1 (openOf l).2.1 (openOf l).2.2.1 (openOf l).2.2.2.1 = some true := by
  induction d with
  | zero =>
    intro k i m hm hi hk
    obtain ⟨k, rfl⟩ : ∃ m, k = m + 1 := ⟨k - 1, by omega⟩
    rw [rookerylaw06_FrameOpens.l0, if_neg (by omega), RefOpen_is l hb hn k (by omega), Option.bind_some, same_self, Option.bind_some, if_pos rfl]
    simp
  | succ d ih =>
    intro k i m hm hi hk
    obtain ⟨k, rfl⟩ : ∃ m, k = m + 1 := ⟨k - 1, by omega⟩
    rw [rookerylaw06_FrameOpens.l0, if_pos (by omega), if_pos (by omega), wrap_up (by omega) (by omega), show ((i : Int) + 1) = ((i + 1 : Nat) : Int) by omega]
    exact ih k (i + 1) _ (by rw [List.length_set]; exact hm) (by rw [List.length_set]; omega) (by omega)
theorem FrameOpens : rookerylaw06_FrameOpens.Pure := by
  intro l0 hm hs hw
  obtain ⟨l, rfl, hb⟩ := of_bytes hw
  rw [ints_length] at hs
  refine ⟨l.length + 20000, ?_⟩
  unfold rookerylaw06_FrameOpens.f
  rw [alive_more _ (by omega), Option.bind_some, if_pos rfl, Option.bind_some, if_pos (by rw [ints_length]; simp; omega), Option.bind_some, List.nil_append, Open_is l hb (by omega) _ (by omega), Option.bind_some]
  exact opens_loop l hb (by omega) l.length _ 0 (ints l) (by rw [ints_length]; omega) (by rw [ints_length]; omega) (by omega)
end Go.Proofs.Ytlhncceabneckaa.Pure
