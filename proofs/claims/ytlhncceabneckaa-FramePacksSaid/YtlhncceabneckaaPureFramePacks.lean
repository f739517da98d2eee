/- FramePacks: which frames may be, and their bytes, as the document says; for any frame. -/
import Derived.Test.YtlhncceabneckaaCFramePacks
import Derived.Test.YtlhncceabneckaaPFramePacksx
namespace Go.Proofs.Ytlhncceabneckaa.PurePacks
open Go.RowKit Go.Proofs.Ytlhncceabneckaa.PFramePacks Go.Proofs.YtlhncceabneckaaW.PrintWords Go.Proofs.YtlhncceabneckaaW.PrintLast Go.Proofs.YtlhncceabneckaaW.PrintMore Go.Proofs.Ytlhncceabneckaa.Crc Go.Proofs.Ytlhncceabneckaa.CFramePacks
theorem step_tdiv (C : Nat) (h : C < 4294967296) : Int.tdiv (C : Int) 2 = ((C / 2 : Nat) : Int) ∧ Int.tmod (C : Int) 2 = ((C % 2 : Nat) : Int) := by
  constructor
  · rw [Int.tdiv_eq_ediv_of_nonneg (by omega)]; omega
  · rw [Int.tmod_eq_emod_of_nonneg (by omega)]; omega
theorem steps_head (d C : Nat) : steps (d + 1) C = steps d (Crc.step C) := by
  induction d with
  | zero => rfl
  | succ d ih => show Crc.step (steps (d + 1) C) = Crc.step (steps d (Crc.step C)); rw [ih]
theorem wrapu {x : Int} (h : 0 ≤ x) (h2 : x < 18446744073709551616) : IntKind.u64.wrap x = x := by rw [Go.IntKind.wrap_u64]; omega
theorem ref_inner (l : List Nat) (i : Nat) (d : Nat) : ∀ (k C j : Nat) (r : Int), C < 4294967296 → j + d = 8 →
    (rookeryref06_Sum.l0 k (ints l) ((steps d C : Nat) : Int) (wrap64 ((i : Int) + 1)) = some r) → rookeryref06_Sum.l1 (k + d + 1) (ints l) (C : Int) (i : Int) (j : Int) = some r := by
  induction d with
  | zero =>
    intro k C j r hC hj h
    simp only [rookeryref06_Sum.l1]
    rw [if_neg (by omega)]
    exact h
  | succ d ih =>
    intro k C j r hC hj h
    rw [show k + (d + 1) + 1 = (k + d + 1) + 1 by omega]
    simp only [rookeryref06_Sum.l1]
    obtain ⟨e1, e2⟩ := step_tdiv C hC
    rw [if_pos (show (j : Int) < 8 by omega), e1, e2, wrapu (by omega) (by omega), wrap_up (by omega) (by omega), show ((j : Int) + 1) = ((j + 1 : Nat) : Int) by omega]
    rw [steps_head] at h
    by_cases h1 : C % 2 = 1
    · rw [if_pos (by omega), show (3988292384 : Int) = ((poly : Nat) : Int) from rfl, Go.bits_xor_u64_nat _ _ (by omega) (by decide)]
      have e : Crc.step C = C / 2 ^^^ poly := by unfold Crc.step; rw [if_pos h1]
      rw [← e]
      exact ih k _ (j + 1) r (step_lt hC) (by omega) h
    · rw [if_neg (by omega)]
      have e : Crc.step C = C / 2 := by unfold Crc.step; rw [if_neg h1, Nat.xor_zero]
      rw [← e]
      exact ih k _ (j + 1) r (step_lt hC) (by omega) h
theorem ref_outer (l : List Nat) (hb : ∀ x ∈ l, x < 256) (hn : l.length < 9223372036854775807) (d : Nat) : ∀ (C i : Nat), C < 4294967296 → i + d = l.length →
    rookeryref06_Sum.l0 (10 * d + 1) (ints l) (C : Int) (i : Int) = some ((full ^^^ crc (l.drop i) C : Nat) : Int) := by
  induction d with
  | zero =>
    intro C i hC hi
    simp only [rookeryref06_Sum.l0]
    rw [if_neg (by rw [ints_length]; omega), List.drop_of_length_le (by omega), show (4294967295 : Int) = ((full : Nat) : Int) from rfl, Go.bits_xor_u64_nat _ _ (by omega) (by decide)]
    have := xor_lt hC (show full < 4294967296 by decide)
    rw [show ((C ^^^ full : Nat) : Int) % 4294967296 = ((C ^^^ full : Nat) : Int) by omega, Nat.xor_comm]
    rfl
  | succ d ih =>
    intro C i hC hi
    rw [show 10 * (d + 1) + 1 = (10 * d + 10) + 1 by omega]
    simp only [rookeryref06_Sum.l0]
    have hlt : i < l.length := by omega
    have hx : l.getD i 0 < 256 := getD_lt hb i
    rw [if_pos (by rw [ints_length]; omega), if_pos (by omega), rd_ints, wrapu (by omega) (by omega), Go.bits_xor_u64_nat _ _ (by omega) (by omega)]
    rw [show 10 * d + 10 = (10 * d + 1) + 8 + 1 by omega]
    refine ref_inner l i 8 (10 * d + 1) _ 0 _ (xor_lt hC (by omega)) (by omega) ?_
    rw [wrap_up (by omega) (by omega), show ((i : Int) + 1) = ((i + 1 : Nat) : Int) by omega, ih _ (i + 1) (steps_lt (xor_lt hC (by omega)) 8) (by omega)]
    rw [List.drop_eq_getElem_cons hlt]
    have e : l.getD i 0 = l[i] := by rw [List.getD_eq_getElem?_getD, List.getElem?_eq_getElem hlt]; rfl
    rw [e]
    rfl
theorem RefSum_is (l : List Nat) (hb : ∀ x ∈ l, x < 256) (hn : l.length < 9223372036854775807) : ∀ k, 10 * l.length + 1 ≤ k → rookeryref06_Sum.f k (ints l) = some ((sum l : Nat) : Int) := by
  intro k hk
  obtain ⟨d, rfl⟩ : ∃ d, k = 10 * l.length + 1 + d := ⟨k - (10 * l.length + 1), by omega⟩
  clear hk
  induction d with
  | zero =>
    unfold rookeryref06_Sum.f
    have := ref_outer l hb hn l.length full 0 (by decide) (by omega)
    rw [List.drop_zero] at this
    exact this
  | succ d ih => exact rookeryref06_Sum.mono _ (10 * l.length + 1 + d) _ ih

set_option linter.unusedVariables false
theorem bl_loop (bs : ByteArray) : ∀ (n i : Nat) (r : List UInt8), bs.size - i = n → ByteArray.toList.loop bs i r = r.reverse ++ bs.data.toList.drop i := by
  intro n
  induction n with
  | zero =>
    intro i r h
    rw [ByteArray.toList.loop]
    rw [if_neg (by omega), List.drop_of_length_le (by rw [Array.length_toList]; show bs.size ≤ i; omega), List.append_nil]
  | succ n ih =>
    intro i r h
    have hi : i < bs.size := by omega
    rw [ByteArray.toList.loop]
    rw [if_pos hi, ih (i + 1) _ (by omega)]
    have hi' : i < bs.data.toList.length := by rw [Array.length_toList]; exact hi
    rw [List.drop_eq_getElem_cons hi']
    have : bs.get! i = bs.data.toList[i] := by
      show bs.data[i]! = _
      rw [getElem!_pos bs.data i hi]
      rfl
    rw [this]
    simp
theorem bl (bs : ByteArray) : bs.toList = bs.data.toList := by
  rw [ByteArray.toList, bl_loop bs bs.size 0 [] (by omega)]
  simp
theorem str_eq {a b : List Nat} (ha : ∀ x ∈ a, x < 256) (hb : ∀ x ∈ b, x < 256) : (Go.strOfNums (ints a)).toList = (Go.strOfNums (ints b)).toList ↔ a = b := by
  have hl : ∀ l : List Nat, (Go.strOfNums (ints l)).toList = l.map UInt8.ofNat := by
    intro l
    rw [bl]
    rw [Go.strOfNums_data]
    unfold ints
    rw [List.map_map]
    rfl
  rw [hl, hl]
  constructor
  · intro h
    have h2 := congrArg (List.map UInt8.toNat) h
    rw [List.map_map, List.map_map] at h2
    have e : ∀ l : List Nat, (∀ x ∈ l, x < 256) → List.map (UInt8.toNat ∘ UInt8.ofNat) l = l := by
      intro l hl
      rw [List.map_congr_left (g := id), List.map_id]
      intro x hx
      have := hl x hx
      simp only [Function.comp, id, UInt8.toNat_ofNat']
      omega
    rw [e a ha, e b hb] at h2
    exact h2
  · rintro rfl
    rfl
theorem ints_append (a b : List Nat) : ints a ++ ints b = ints (a ++ b) := by simp [ints]
/-- What is wrong with a frame. -/
def checkOf (a b c : Int) (n : Nat) : Int :=
  if (1 ≤ a ∧ a ≤ 64 ∧ 1 ≤ b ∧ b ≤ 64) ∧ a ≠ b then (if c = 0 then 61 else if 1200 < n then 62 else 0) else 60
theorem Check_j0 (k : Nat) (v : Bool) (a b c : Int) (l : List Int) (hk : 0 < k) : frame_Check.j0 k v a b c l = some (if v = true then 60 else if c = 0 then 61 else if 1200 < l.length then 62 else 0) := by
  obtain ⟨k, rfl⟩ : ∃ m, k = m + 1 := ⟨k - 1, by omega⟩
  simp only [frame_Check.j0]
  split
  · rfl
  · split
    · rfl
    · split
      · rw [if_pos (by omega)]
      · rw [if_neg (by omega)]
theorem Check_is (k : Nat) (a b c : Int) (l : List Int) (hk : 0 < k) : frame_Check.f k a b c l = some (checkOf a b c l.length) := by
  unfold frame_Check.f frame_node.f checkOf
  by_cases h1 : a ≥ 1
  · rw [if_pos h1, Option.bind_some]
    by_cases h2 : a ≤ 64
    · rw [if_pos (by simpa using h2)]
      by_cases h3 : b ≥ 1
      · rw [if_pos h3, Option.bind_some]
        by_cases h4 : b ≤ 64
        · rw [if_pos (by simpa using h4), Check_j0 k _ _ _ _ _ hk]
          by_cases h5 : a = b
          · rw [if_pos (by simpa using h5), if_neg (by simp [h5])]
          · have hcond : (1 ≤ a ∧ a ≤ 64 ∧ 1 ≤ b ∧ b ≤ 64) ∧ a ≠ b := ⟨⟨h1, h2, h3, h4⟩, h5⟩
            rw [if_neg (by simpa using h5), if_pos hcond]
        · rw [if_neg (by simpa using h4), Check_j0 k _ _ _ _ _ hk, if_pos rfl, if_neg (by omega)]
      · rw [if_neg h3, Option.bind_some, if_neg (by decide), Check_j0 k _ _ _ _ _ hk, if_pos rfl, if_neg (by omega)]
    · rw [if_neg (by simpa using h2), Check_j0 k _ _ _ _ _ hk, if_pos rfl, if_neg (by omega)]
  · rw [if_neg h1, Option.bind_some, if_neg (by decide), Check_j0 k _ _ _ _ _ hk, if_pos rfl, if_neg (by omega)]
theorem checked {a b c : Int} {n : Nat} (h : checkOf a b c n = 0) : 1 ≤ a ∧ a ≤ 64 ∧ 1 ≤ b ∧ b ≤ 64 ∧ a ≠ b ∧ c ≠ 0 ∧ n ≤ 1200 := by
  unfold checkOf at h
  split at h
  · rename_i h1
    split at h
    · omega
    · split at h
      · omega
      · exact ⟨h1.1.1, h1.1.2.1, h1.1.2.2.1, h1.1.2.2.2, h1.2, by assumption, by omega⟩
  · omega
theorem check_ok {a b c : Int} {n : Nat} (h : 1 ≤ a ∧ a ≤ 64 ∧ 1 ≤ b ∧ b ≤ 64 ∧ a ≠ b ∧ c ≠ 0 ∧ n ≤ 1200) : checkOf a b c n = 0 := by
  unfold checkOf
  rw [if_pos ⟨⟨h.1, h.2.1, h.2.2.1, h.2.2.2.1⟩, h.2.2.2.2.1⟩, if_neg h.2.2.2.2.2.1, if_neg (by omega)]
def four (C : Nat) : List Nat := [C / 16777216 % 256, C / 65536 % 256, C / 256 % 256, C % 256]
def ahead (A B C : Nat) (l : List Nat) : List Nat := [82, 75, A, B] ++ four C ++ l
def packed (A B C : Nat) (l : List Nat) : List Nat := ahead A B C l ++ low (sum (ahead A B C l))
theorem four_is (C : Nat) (h : C < 4294967296) : frame_four.f (C : Int) = some (ints (four C)) := by
  unfold frame_four.f
  congr 1
theorem ahead_byte {A B C : Nat} {l : List Nat} (hA : A < 256) (hB : B < 256) (hb : ∀ x ∈ l, x < 256) : ∀ x ∈ ahead A B C l, x < 256 := by
  intro x hx
  simp only [ahead, four, List.mem_append, List.mem_cons, List.not_mem_nil, or_false] at hx
  rcases hx with (h | h) | h
  · omega
  · omega
  · exact hb x h
theorem packed_byte {A B C : Nat} {l : List Nat} (hA : A < 256) (hB : B < 256) (hb : ∀ x ∈ l, x < 256) : ∀ x ∈ packed A B C l, x < 256 := by
  intro x hx
  rcases List.mem_append.1 hx with h | h
  · exact ahead_byte hA hB hb x h
  · exact low_byte _ x h
theorem ahead_length (A B C : Nat) (l : List Nat) : (ahead A B C l).length = l.length + 8 := by simp [ahead, four]
theorem packed_length (A B C : Nat) (l : List Nat) : (packed A B C l).length = l.length + 12 := by simp [packed, ahead_length, low]
theorem low_ints (s : Nat) : ([((s : Nat) : Int) % 256, ((s : Nat) : Int) / 256 % 256, ((s : Nat) : Int) / 65536 % 256, ((s : Nat) : Int) / 16777216 % 256] : List Int) = ints (low s) := by
  simp only [ints, low, List.map_cons, List.map_nil]
  congr 1
theorem Pack_no (k : Nat) (a b c : Int) (l : List Int) (hk : 0 < k) (h : checkOf a b c l.length ≠ 0) : frame_Pack.f k a b c l = some ([], checkOf a b c l.length) := by
  unfold frame_Pack.f
  rw [Check_is k _ _ _ _ hk, Option.bind_some, if_neg h]
theorem Pack_yes (k A B C : Nat) (l : List Nat) (hb : ∀ x ∈ l, x < 256) (hC : C < 4294967296) (h : checkOf (A : Int) (B : Int) (C : Int) l.length = 0) (hk : l.length + 20 < k) :
    frame_Pack.f k (A : Int) (B : Int) (C : Int) (ints l) = some (ints (packed A B C l), 0) := by
  have hc := checked h
  unfold frame_Pack.f
  rw [Check_is k _ _ _ _ (by omega), ints_length, Option.bind_some, if_pos h, Option.bind_some, four_is C hC, Option.bind_some]
  have e1 : ([82, 75, (A : Int) % 256, (B : Int) % 256] : List Int) = ints [82, 75, A, B] := by
    rw [show (A : Int) % 256 = A by omega, show (B : Int) % 256 = B by omega]
    rfl
  rw [e1, if_pos (by simp [ints, four]), Option.bind_some, ints_append, if_pos (by simp [ints, four]; omega), Option.bind_some, ints_append]
  have e2 : [82, 75, A, B] ++ four C ++ l = ahead A B C l := rfl
  rw [e2, Sum_is _ (ahead_byte (by omega) (by omega) hb) (by rw [ahead_length]; omega) k (by rw [ahead_length]; omega), Option.bind_some, Option.bind_some, low_ints]
  rw [if_pos (by simp [ints, low, ahead_length]; omega), ints_append]
  rfl

/-! ### the document's words -/
theorem RefCheck_j0 (k : Nat) (v : Bool) (a b c : Int) (l : List Int) (hk : 0 < k) : rookeryref06_Check.j0 k v a b c l = some (if v = true then 60 else if c = 0 then 61 else if 1200 < l.length then 62 else 0) := by
  obtain ⟨k, rfl⟩ : ∃ m, k = m + 1 := ⟨k - 1, by omega⟩
  simp only [rookeryref06_Check.j0]
  split
  · rfl
  · split
    · rfl
    · split
      · rw [if_pos (by omega)]
      · rw [if_neg (by omega)]
theorem RefCheck_is (k : Nat) (a b c : Int) (l : List Int) (hk : 0 < k) : rookeryref06_Check.f k a b c l = some (checkOf a b c l.length) := by
  unfold rookeryref06_Check.f checkOf
  by_cases h1 : a < 1
  · rw [if_pos h1, RefCheck_j0 k _ _ _ _ _ hk, if_pos rfl, if_neg (by omega)]
  · rw [if_neg h1]
    by_cases h2 : a > 64
    · rw [if_pos h2, RefCheck_j0 k _ _ _ _ _ hk, if_pos rfl, if_neg (by omega)]
    · rw [if_neg h2]
      by_cases h3 : b < 1
      · rw [if_pos h3, RefCheck_j0 k _ _ _ _ _ hk, if_pos rfl, if_neg (by omega)]
      · rw [if_neg h3]
        by_cases h4 : b > 64
        · rw [if_pos h4, RefCheck_j0 k _ _ _ _ _ hk, if_pos rfl, if_neg (by omega)]
        · rw [if_neg h4, RefCheck_j0 k _ _ _ _ _ hk]
          by_cases h5 : a = b
          · rw [if_pos (by simpa using h5), if_neg (by simp [h5])]
          · have hcond : (1 ≤ a ∧ a ≤ 64 ∧ 1 ≤ b ∧ b ≤ 64) ∧ a ≠ b := ⟨⟨by omega, by omega, by omega, by omega⟩, h5⟩
            rw [if_neg (by simpa using h5), if_pos hcond]
theorem RefFour_is (C : Nat) (h : C < 4294967296) : rookeryref06_Four.f (C : Int) = some (ints (four C)) := by
  unfold rookeryref06_Four.f
  have t : ∀ n : Nat, 0 < n → Int.tdiv (C : Int) (n : Int) = ((C / n : Nat) : Int) := fun n _ => by rw [Int.tdiv_eq_ediv_of_nonneg (by omega)]; rfl
  have t1 := t 16777216 (by decide)
  have t2 := t 65536 (by decide)
  have t3 := t 256 (by decide)
  have t4 : Int.tmod (C : Int) 256 = ((C % 256 : Nat) : Int) := by rw [Int.tmod_eq_emod_of_nonneg (by omega)]; rfl
  rw [show Int.tdiv (C : Int) 16777216 = _ from t1, show Int.tdiv (C : Int) 65536 = _ from t2, show Int.tdiv (C : Int) 256 = _ from t3, t4]
  have u1 : ((C / 16777216 : Nat) : Int) % 4294967296 % 256 = ((C / 16777216 % 256 : Nat) : Int) := by omega
  have u2 : ((C / 65536 : Nat) : Int) % 4294967296 % 256 = ((C / 65536 % 256 : Nat) : Int) := by omega
  have u3 : ((C / 256 : Nat) : Int) % 4294967296 % 256 = ((C / 256 % 256 : Nat) : Int) := by omega
  have u4 : ((C % 256 : Nat) : Int) % 256 = ((C % 256 : Nat) : Int) := by omega
  rw [u1, u2, u3, u4]
  rfl
theorem RefLow_is (C : Nat) (h : C < 4294967296) : rookeryref06_Low.f (C : Int) = some (ints (low C)) := by
  unfold rookeryref06_Low.f
  have h4 : (ints (four C)).length = 4 := rfl
  rw [RefFour_is C h, Option.bind_some, h4, if_pos (by decide), if_pos (by decide), if_pos (by decide), if_pos (by decide)]
  rfl

theorem same_self (a b c : Int) (l : List Int) : rookeryref06_Same.f a b c l a b c l = some true := by
  unfold rookeryref06_Same.f
  rw [if_pos rfl, if_pos rfl, if_pos rfl]
  simp
theorem RefBytes_is (A B C : Nat) (l : List Nat) (hb : ∀ x ∈ l, x < 256) (hA : A < 256) (hB : B < 256) (hC : C < 4294967296) (hl : l.length ≤ 1200) (k : Nat) (hk : 13000 < k) :
    rookeryref06_Bytes.f k (A : Int) (B : Int) (C : Int) (ints l) = some (ints (packed A B C l)) := by
  unfold rookeryref06_Bytes.f
  have e1 : ([82, 75, (A : Int) % 256, (B : Int) % 256] : List Int) = ints [82, 75, A, B] := by
    rw [show (A : Int) % 256 = A by omega, show (B : Int) % 256 = B by omega]
    rfl
  have e2 : [82, 75, A, B] ++ four C ++ l = ahead A B C l := rfl
  have hah := ahead_byte (C := C) hA hB hb
  rw [e1, Option.bind_some, RefFour_is C hC, Option.bind_some, if_pos (by simp [ints, four]), Option.bind_some, ints_append, if_pos (by simp [ints, four]; omega), Option.bind_some, ints_append, e2]
  rw [RefSum_is _ hah (by rw [ahead_length]; omega) k (by rw [ahead_length]; omega), Option.bind_some, RefLow_is _ (sum_lt hah), Option.bind_some, if_pos (by simp [ints, low, ahead_length]; omega), ints_append]
  rfl
theorem packs_loop (a b c : Int) (l : List Int) (d : Nat) : ∀ (k i : Nat) (m : List Int), m.length ≤ 9223372036854775807 → i + d = m.length → d + 1 < k →
    rookerylaw06_FramePacks.l0 k m (i : Int) a b c l a b c l = some true := by
  induction d with
  | zero =>
    intro k i m hm hi hk
    obtain ⟨k, rfl⟩ : ∃ m, k = m + 1 := ⟨k - 1, by omega⟩
    rw [rookerylaw06_FramePacks.l0, if_neg (by omega), same_self, Option.bind_some]
  | succ d ih =>
    intro k i m hm hi hk
    obtain ⟨k, rfl⟩ : ∃ m, k = m + 1 := ⟨k - 1, by omega⟩
    rw [rookerylaw06_FramePacks.l0, if_pos (by omega), if_pos (by omega), wrap_up (by omega) (by omega), show ((i : Int) + 1) = ((i + 1 : Nat) : Int) by omega]
    exact ih k (i + 1) _ (by rw [List.length_set]; exact hm) (by rw [List.length_set]; omega) (by omega)
theorem FramePacks (a b c : Int) (l : List Int) (hl : ∀ x ∈ l, (Lit.int .u8 x).wf = true) (hc : (Lit.int .u32 c).wf = true) : ∃ k, rookerylaw06_FramePacks.f k a b c l = some true := by
  obtain ⟨l, rfl, hb⟩ := of_bytes hl
  have hy : 0 ≤ c ∧ c ≤ 4294967295 := by simpa [Lit.wf, IntKind.min, IntKind.max, IntKind.signed, IntKind.bits] using hc
  refine ⟨20000, ?_⟩
  unfold rookerylaw06_FramePacks.f
  rw [alive_more _ (by omega), Option.bind_some, if_pos rfl, ints_length]
  split
  · rfl
  · rename_i hlen
    rw [Option.bind_some, if_pos (by simp; omega), Option.bind_some, List.nil_append, RefCheck_is _ _ _ _ _ (by omega), Option.bind_some, ints_length]
    by_cases h : checkOf a b c l.length = 0
    · have hcc := checked h
      obtain ⟨A, rfl⟩ := Int.eq_ofNat_of_zero_le (show 0 ≤ a by omega)
      obtain ⟨B, rfl⟩ := Int.eq_ofNat_of_zero_le (show 0 ≤ b by omega)
      obtain ⟨C, rfl⟩ := Int.eq_ofNat_of_zero_le (show 0 ≤ c by omega)
      rw [Pack_yes _ A B C l hb (by omega) h (by omega), Option.bind_some, Check_is _ _ _ _ _ (by omega), ints_length, Option.bind_some, if_pos rfl, if_pos h.symm, same_self, Option.bind_some]
      rw [rookerylaw06_FramePacks.j0, if_neg (by decide), if_pos h, RefBytes_is A B C l hb (by omega) (by omega) (by omega) (by omega) _ (by omega), Option.bind_some, if_pos rfl]
      have hpl := packed_length A B C l
      exact packs_loop (A : Int) (B : Int) (C : Int) (ints l) (packed A B C l).length _ 0 (ints (packed A B C l)) (by rw [ints_length]; omega) (by rw [ints_length]; omega) (by omega)
    · have h' : checkOf a b c (ints l).length ≠ 0 := by rw [ints_length]; exact h
      rw [Pack_no _ _ _ _ _ (by omega) h', Option.bind_some, Check_is _ _ _ _ _ (by omega), ints_length, Option.bind_some, if_pos rfl, if_pos rfl, same_self, Option.bind_some]
      rw [rookerylaw06_FramePacks.j0, if_neg (by decide), if_neg h]
      rfl
end Go.Proofs.Ytlhncceabneckaa.PurePacks
