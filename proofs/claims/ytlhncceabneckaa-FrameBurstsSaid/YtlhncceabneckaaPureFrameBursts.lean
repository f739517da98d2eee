/- FrameBursts: a frame's bytes changed within 32 bits in a row are refused by their sum; for any frame, place and mask. -/
import Derived.Test.YtlhncceabneckaaCFrameBursts
import Derived.Test.YtlhncceabneckaaPFrameBurstsx
namespace Go.Proofs.Ytlhncceabneckaa.PureBursts
open Go.RowKit Go.Proofs.Ytlhncceabneckaa.PFrameBursts Go.Proofs.YtlhncceabneckaaW.PrintWords Go.Proofs.YtlhncceabneckaaW.PrintLast Go.Proofs.YtlhncceabneckaaW.PrintMore Go.Proofs.Ytlhncceabneckaa.Crc Go.Proofs.Ytlhncceabneckaa.CFrameBursts
set_option linter.unusedVariables false
theorem bl_loop (bs : ByteArray) : ∀ (n i : Nat) (r : List UInt8), bs.size - i = n → ByteArray.toList.loop bs i r = r.reverse ++ bs.data.toList.drop i := by
  intro n
  induction n with
  | zero =>
    intro i r h
    rw [ByteArray.toList.loop]
    rw [if_neg (by omega), List.drop_of_length_le (by rw [Array.length_toList]; show bs.size ≤ i; omega), List.append_nil]
  | succ n ih =>
    intro i r h
    have hi : i < bs.size := by omega
    rw [ByteArray.toList.loop]
    rw [if_pos hi, ih (i + 1) _ (by omega)]
    have hi' : i < bs.data.toList.length := by rw [Array.length_toList]; exact hi
    rw [List.drop_eq_getElem_cons hi']
    have : bs.get! i = bs.data.toList[i] := by
      show bs.data[i]! = _
      rw [getElem!_pos bs.data i hi]
      rfl
    rw [this]
    simp
theorem bl (bs : ByteArray) : bs.toList = bs.data.toList := by
  rw [ByteArray.toList, bl_loop bs bs.size 0 [] (by omega)]
  simp
theorem str_eq {a b : List Nat} (ha : ∀ x ∈ a, x < 256) (hb : ∀ x ∈ b, x < 256) : (Go.strOfNums (ints a)).toList = (Go.strOfNums (ints b)).toList ↔ a = b := by
  have hl : ∀ l : List Nat, (Go.strOfNums (ints l)).toList = l.map UInt8.ofNat := by
    intro l
    rw [bl]
    rw [Go.strOfNums_data]
    unfold ints
    rw [List.map_map]
    rfl
  rw [hl, hl]
  constructor
  · intro h
    have h2 := congrArg (List.map UInt8.toNat) h
    rw [List.map_map, List.map_map] at h2
    have e : ∀ l : List Nat, (∀ x ∈ l, x < 256) → List.map (UInt8.toNat ∘ UInt8.ofNat) l = l := by
      intro l hl
      rw [List.map_congr_left (g := id), List.map_id]
      intro x hx
      have := hl x hx
      simp only [Function.comp, id, UInt8.toNat_ofNat']
      omega
    rw [e a ha, e b hb] at h2
    exact h2
  · rintro rfl
    rfl
theorem ints_append (a b : List Nat) : ints a ++ ints b = ints (a ++ b) := by simp [ints]
/-- What is wrong with a frame. -/
def checkOf (a b c : Int) (n : Nat) : Int :=
  if (1 ≤ a ∧ a ≤ 64 ∧ 1 ≤ b ∧ b ≤ 64) ∧ a ≠ b then (if c = 0 then 61 else if 1200 < n then 62 else 0) else 60
theorem Check_j0 (k : Nat) (v : Bool) (a b c : Int) (l : List Int) (hk : 0 < k) : frame_Check.j0 k v a b c l = some (if v = true then 60 else if c = 0 then 61 else if 1200 < l.length then 62 else 0) := by
  obtain ⟨k, rfl⟩ : ∃ m, k = m + 1 := ⟨k - 1, by omega⟩
  simp only [frame_Check.j0]
  split
  · rfl
  · split
    · rfl
    · split
      · rw [if_pos (by omega)]
      · rw [if_neg (by omega)]
theorem Check_is (k : Nat) (a b c : Int) (l : List Int) (hk : 0 < k) : frame_Check.f k a b c l = some (checkOf a b c l.length) := by
  unfold frame_Check.f frame_node.f checkOf
  by_cases h1 : a ≥ 1
  · rw [if_pos h1, Option.bind_some]
    by_cases h2 : a ≤ 64
    · rw [if_pos (by simpa using h2)]
      by_cases h3 : b ≥ 1
      · rw [if_pos h3, Option.bind_some]
        by_cases h4 : b ≤ 64
        · rw [if_pos (by simpa using h4), Check_j0 k _ _ _ _ _ hk]
          by_cases h5 : a = b
          · rw [if_pos (by simpa using h5), if_neg (by simp [h5])]
          · have hcond : (1 ≤ a ∧ a ≤ 64 ∧ 1 ≤ b ∧ b ≤ 64) ∧ a ≠ b := ⟨⟨h1, h2, h3, h4⟩, h5⟩
            rw [if_neg (by simpa using h5), if_pos hcond]
        · rw [if_neg (by simpa using h4), Check_j0 k _ _ _ _ _ hk, if_pos rfl, if_neg (by omega)]
      · rw [if_neg h3, Option.bind_some, if_neg (by decide), Check_j0 k _ _ _ _ _ hk, if_pos rfl, if_neg (by omega)]
    · rw [if_neg (by simpa using h2), Check_j0 k _ _ _ _ _ hk, if_pos rfl, if_neg (by omega)]
  · rw [if_neg h1, Option.bind_some, if_neg (by decide), Check_j0 k _ _ _ _ _ hk, if_pos rfl, if_neg (by omega)]
theorem checked {a b c : Int} {n : Nat} (h : checkOf a b c n = 0) : 1 ≤ a ∧ a ≤ 64 ∧ 1 ≤ b ∧ b ≤ 64 ∧ a ≠ b ∧ c ≠ 0 ∧ n ≤ 1200 := by
  unfold checkOf at h
  split at h
  · rename_i h1
    split at h
    · omega
    · split at h
      · omega
      · exact ⟨h1.1.1, h1.1.2.1, h1.1.2.2.1, h1.1.2.2.2, h1.2, by assumption, by omega⟩
  · omega
theorem check_ok {a b c : Int} {n : Nat} (h : 1 ≤ a ∧ a ≤ 64 ∧ 1 ≤ b ∧ b ≤ 64 ∧ a ≠ b ∧ c ≠ 0 ∧ n ≤ 1200) : checkOf a b c n = 0 := by
  unfold checkOf
  rw [if_pos ⟨⟨h.1, h.2.1, h.2.2.1, h.2.2.2.1⟩, h.2.2.2.2.1⟩, if_neg h.2.2.2.2.2.1, if_neg (by omega)]
def four (C : Nat) : List Nat := [C / 16777216 % 256, C / 65536 % 256, C / 256 % 256, C % 256]
def ahead (A B C : Nat) (l : List Nat) : List Nat := [82, 75, A, B] ++ four C ++ l
def packed (A B C : Nat) (l : List Nat) : List Nat := ahead A B C l ++ low (sum (ahead A B C l))
theorem four_is (C : Nat) (h : C < 4294967296) : frame_four.f (C : Int) = some (ints (four C)) := by
  unfold frame_four.f
  congr 1
theorem ahead_byte {A B C : Nat} {l : List Nat} (hA : A < 256) (hB : B < 256) (hb : ∀ x ∈ l, x < 256) : ∀ x ∈ ahead A B C l, x < 256 := by
  intro x hx
  simp only [ahead, four, List.mem_append, List.mem_cons, List.not_mem_nil, or_false] at hx
  rcases hx with (h | h) | h
  · omega
  · omega
  · exact hb x h
theorem packed_byte {A B C : Nat} {l : List Nat} (hA : A < 256) (hB : B < 256) (hb : ∀ x ∈ l, x < 256) : ∀ x ∈ packed A B C l, x < 256 := by
  intro x hx
  rcases List.mem_append.1 hx with h | h
  · exact ahead_byte hA hB hb x h
  · exact low_byte _ x h
theorem ahead_length (A B C : Nat) (l : List Nat) : (ahead A B C l).length = l.length + 8 := by simp [ahead, four]
theorem packed_length (A B C : Nat) (l : List Nat) : (packed A B C l).length = l.length + 12 := by simp [packed, ahead_length, low]
theorem low_ints (s : Nat) : ([((s : Nat) : Int) % 256, ((s : Nat) : Int) / 256 % 256, ((s : Nat) : Int) / 65536 % 256, ((s : Nat) : Int) / 16777216 % 256] : List Int) = ints (low s) := by
  simp only [ints, low, List.map_cons, List.map_nil]
  congr 1
theorem Pack_no (k : Nat) (a b c : Int) (l : List Int) (hk : 0 < k) (h : checkOf a b c l.length ≠ 0) : frame_Pack.f k a b c l = some ([], checkOf a b c l.length) := by
  unfold frame_Pack.f
  rw [Check_is k _ _ _ _ hk, Option.bind_some, if_neg h]
theorem Pack_yes (k A B C : Nat) (l : List Nat) (hb : ∀ x ∈ l, x < 256) (hC : C < 4294967296) (h : checkOf (A : Int) (B : Int) (C : Int) l.length = 0) (hk : l.length + 20 < k) :
    frame_Pack.f k (A : Int) (B : Int) (C : Int) (ints l) = some (ints (packed A B C l), 0) := by
  have hc := checked h
  unfold frame_Pack.f
  rw [Check_is k _ _ _ _ (by omega), ints_length, Option.bind_some, if_pos h, Option.bind_some, four_is C hC, Option.bind_some]
  have e1 : ([82, 75, (A : Int) % 256, (B : Int) % 256] : List Int) = ints [82, 75, A, B] := by
    rw [show (A : Int) % 256 = A by omega, show (B : Int) % 256 = B by omega]
    rfl
  rw [e1, if_pos (by simp [ints, four]), Option.bind_some, ints_append, if_pos (by simp [ints, four]; omega), Option.bind_some, ints_append]
  have e2 : [82, 75, A, B] ++ four C ++ l = ahead A B C l := rfl
  rw [e2, Sum_is _ (ahead_byte (by omega) (by omega) hb) (by rw [ahead_length]; omega) k (by rw [ahead_length]; omega), Option.bind_some, Option.bind_some, low_ints]
  rw [if_pos (by simp [ints, low, ahead_length]; omega), ints_append]
  rfl

/-- What bytes say. -/
def be (l : List Nat) : Nat := l.getD 4 0 * 16777216 + l.getD 5 0 * 65536 + l.getD 6 0 * 256 + l.getD 7 0
/-- Behind the marks: the frame, or what is wrong with it. -/
def gotOf (l : List Nat) : Int × Int × Int × List Int × Int :=
  if checkOf (l.getD 2 0 : Nat) (l.getD 3 0 : Nat) (be l : Nat) (l.length - 12) = 0 then (((l.getD 2 0 : Nat) : Int), ((l.getD 3 0 : Nat) : Int), ((be l : Nat) : Int), ints ((l.take (l.length - 4)).drop 8), 0)
  else (0, 0, 0, [], checkOf (l.getD 2 0 : Nat) (l.getD 3 0 : Nat) (be l : Nat) (l.length - 12))
def openOf (l : List Nat) : Int × Int × Int × List Int × Int :=
  if l.length < 12 then (0, 0, 0, [], 63) else if 1212 < l.length then (0, 0, 0, [], 62) else
  if l.drop (l.length - 4) = low (sum (l.take (l.length - 4))) then
    (if l.getD 0 0 = 82 ∧ l.getD 1 0 = 75 then
      gotOf l
    else (0, 0, 0, [], 65))
  else (0, 0, 0, [], 64)
theorem or_high (i a b : Nat) (hb : b < 2 ^ i) (h : 2 ^ i * a + b < 4294967296) : Go.bits .or .u32 ((2 ^ i * a : Nat) : Int) (b : Int) = ((2 ^ i * a + b : Nat) : Int) := by
  have := (Go.bits_nat .u32 32 (by decide) (fun n h0 h1 => by rw [Go.IntKind.wrap_u32]; omega) (2 ^ i * a) b (by omega) (by omega)).2
  rw [this, ← Nat.two_pow_add_eq_or_of_lt hb]
theorem of_bits (a b c d : Nat) (ha : a < 256) (hb : b < 256) (hc : c < 256) (hd : d < 256) :
    Go.bits .or .u32 (Go.bits .or .u32 (Go.bits .or .u32 ((((a : Int) % 4294967296) * 16777216) % 4294967296) ((((b : Int) % 4294967296) * 65536) % 4294967296)) ((((c : Int) % 4294967296) * 256) % 4294967296)) ((d : Int) % 4294967296) =
      ((a * 16777216 + b * 65536 + c * 256 + d : Nat) : Int) := by
  have e1 : ((((a : Int) % 4294967296) * 16777216) % 4294967296) = ((2 ^ 24 * a : Nat) : Int) := by omega
  have e2 : ((((b : Int) % 4294967296) * 65536) % 4294967296) = ((b * 65536 : Nat) : Int) := by omega
  have e3 : ((((c : Int) % 4294967296) * 256) % 4294967296) = ((c * 256 : Nat) : Int) := by omega
  have e4 : ((d : Int) % 4294967296) = ((d : Nat) : Int) := by omega
  rw [e1, e2, e3, e4, or_high 24 a (b * 65536) (by omega) (by omega)]
  rw [show 2 ^ 24 * a + b * 65536 = 2 ^ 16 * (a * 256 + b) by omega, or_high 16 _ (c * 256) (by omega) (by omega)]
  rw [show 2 ^ 16 * (a * 256 + b) + c * 256 = 2 ^ 8 * (a * 65536 + b * 256 + c) by omega, or_high 8 _ d (by omega) (by omega)]
  congr 1
  omega
theorem cut_is (l : List Nat) (n j : Nat) : ((ints l).take n).drop j = ints ((l.take n).drop j) := by
  unfold ints
  rw [List.map_drop, List.map_take]
theorem getD_cut (l : List Nat) (i : Nat) (hl : i < 4) : (((l.take 8).drop 4)).getD i 0 = l.getD (4 + i) 0 := by
  rw [List.getD_eq_getElem?_getD, List.getD_eq_getElem?_getD, List.getElem?_drop, List.getElem?_take_of_lt (by omega)]
theorem of_is (l : List Nat) (hb : ∀ x ∈ l, x < 256) (hl : 8 ≤ l.length) : frame_of.f (((ints l).take 8).drop 4) = some ((be l : Nat) : Int) := by
  unfold frame_of.f
  rw [cut_is]
  have h4 : (ints ((l.take 8).drop 4)).length = 4 := by rw [ints_length, List.length_drop, List.length_take]; omega
  rw [h4, if_pos (by decide), if_pos (by decide), if_pos (by decide), if_pos (by decide)]
  have r : ∀ i : Nat, i < 4 → rd (ints ((l.take 8).drop 4)) (i : Int) = ((l.getD (4 + i) 0 : Nat) : Int) := fun i hi => by rw [rd_ints, getD_cut l i hi]
  have r0 := r 0 (by omega)
  have r1 := r 1 (by omega)
  have r2 := r 2 (by omega)
  have r3 := r 3 (by omega)
  rw [show rd (ints ((l.take 8).drop 4)) 0 = _ from r0, show rd (ints ((l.take 8).drop 4)) 1 = _ from r1, show rd (ints ((l.take 8).drop 4)) 2 = _ from r2, show rd (ints ((l.take 8).drop 4)) 3 = _ from r3]
  rw [of_bits _ _ _ _ (getD_lt hb _) (getD_lt hb _) (getD_lt hb _) (getD_lt hb _)]
  rfl
theorem Open_j1 (l : List Nat) (hb : ∀ x ∈ l, x < 256) (h1 : 12 ≤ l.length) (h2 : l.length ≤ 1212) (v : Bool) (k : Nat) (hk : 1 < k) :
    frame_Open.j1 k (ints l) ((l.length - 4 : Nat) : Int) v = some (if v = true then (0, 0, 0, [], 65) else
      gotOf l) := by
  obtain ⟨k, rfl⟩ : ∃ m, k = m + 1 := ⟨k - 1, by omega⟩
  simp only [frame_Open.j1]
  split
  · rfl
  · have e2 : wrap64 (rd (ints l) 2) = ((l.getD 2 0 : Nat) : Int) := by
      have := getD_lt hb 2
      rw [show (2 : Int) = ((2 : Nat) : Int) from rfl, rd_ints, wrap_up (by omega) (by omega)]
    have e3 : wrap64 (rd (ints l) 3) = ((l.getD 3 0 : Nat) : Int) := by
      have := getD_lt hb 3
      rw [show (3 : Int) = ((3 : Nat) : Int) from rfl, rd_ints, wrap_up (by omega) (by omega)]
    rw [e2, e3, ints_length, if_pos (by omega), if_pos (by omega), if_pos (by omega), if_pos (by omega), of_is l hb (by omega), Option.bind_some, if_pos (by omega), if_pos (by omega)]
    rw [Int.toNat_natCast, cut_is]
    have hlen : ((l.take (l.length - 4)).drop 8).length = l.length - 12 := by rw [List.length_drop, List.length_take]; omega
    rw [if_pos (by rw [ints_length, hlen]; simp; omega), Option.bind_some, List.nil_append, Check_is k _ _ _ _ (by omega), ints_length, hlen, Option.bind_some]
    unfold gotOf
    split
    · rfl
    · rfl
theorem Open_j0 (l : List Nat) (hb : ∀ x ∈ l, x < 256) (h1 : 12 ≤ l.length) (h2 : l.length ≤ 1212) (v : Bool) (k : Nat) (hk : 2 < k) :
    frame_Open.j0 k (ints l) ((l.length - 4 : Nat) : Int) v = some (if v = true then (0, 0, 0, [], 64) else
      (if l.getD 0 0 = 82 ∧ l.getD 1 0 = 75 then
      gotOf l
    else (0, 0, 0, [], 65))) := by
  obtain ⟨k, rfl⟩ : ∃ m, k = m + 1 := ⟨k - 1, by omega⟩
  simp only [frame_Open.j0]
  split
  · rfl
  · have e0 : rd (ints l) 0 = ((l.getD 0 0 : Nat) : Int) := rd_ints l 0
    have e1 : rd (ints l) 1 = ((l.getD 1 0 : Nat) : Int) := rd_ints l 1
    rw [e0, e1, ints_length, if_pos (by omega)]
    by_cases h : l.getD 0 0 = 82
    · rw [if_pos (by omega), if_pos (by omega), Open_j1 l hb h1 h2 _ k (by omega)]
      by_cases h' : l.getD 1 0 = 75
      · have : (((l.getD 1 0 : Nat) : Int) != 75) = false := by rw [h']; rfl
        rw [this, if_neg (by decide), if_pos ⟨h, h'⟩]
      · have : (((l.getD 1 0 : Nat) : Int) != 75) = true := by rw [bne_iff_ne]; omega
        rw [this, if_pos rfl, if_neg (fun e => h' e.2)]
    · rw [if_neg (by omega), Open_j1 l hb h1 h2 _ k (by omega), if_pos rfl, if_neg (fun e => h e.1)]
theorem tail_is (l : List Nat) (h1 : 12 ≤ l.length) : l.drop (l.length - 4) = [l.getD (l.length - 4) 0, l.getD (l.length - 4 + 1) 0, l.getD (l.length - 4 + 2) 0, l.getD (l.length - 4 + 3) 0] := by
  have hg : ∀ i, i < l.length → l.drop i = l.getD i 0 :: l.drop (i + 1) := by
    intro i hi
    rw [List.drop_eq_getElem_cons hi, List.getD_eq_getElem?_getD, List.getElem?_eq_getElem hi]
    rfl
  rw [hg _ (by omega), hg _ (by omega), hg _ (by omega), hg _ (by omega), List.drop_of_length_le (by omega)]
theorem Open_is (l : List Nat) (hb : ∀ x ∈ l, x < 256) (hn : l.length ≤ 9223372036854775807) (k : Nat) (hk : 1240 < k) : frame_Open.f k (ints l) = some (openOf l) := by
  unfold frame_Open.f openOf
  rw [ints_length]
  by_cases h1 : l.length < 12
  · rw [if_pos (by omega), if_pos h1]
  · rw [if_neg (by omega), if_neg h1]
    by_cases h2 : 1212 < l.length
    · rw [if_pos (by omega), if_pos h2]
    · rw [if_neg (by omega), if_neg h2]
      have ew : wrap64 ((l.length : Int) - 4) = ((l.length - 4 : Nat) : Int) := by rw [wrap_up (by omega) (by omega)]; omega
      have ew1 : wrap64 (((l.length - 4 : Nat) : Int) + 1) = ((l.length - 4 + 1 : Nat) : Int) := by rw [wrap_up (by omega) (by omega)]; omega
      have ew2 : wrap64 (((l.length - 4 : Nat) : Int) + 2) = ((l.length - 4 + 2 : Nat) : Int) := by rw [wrap_up (by omega) (by omega)]; omega
      have ew3 : wrap64 (((l.length - 4 : Nat) : Int) + 3) = ((l.length - 4 + 3 : Nat) : Int) := by rw [wrap_up (by omega) (by omega)]; omega
      have ht : ∀ x ∈ l.take (l.length - 4), x < 256 := fun x hx => hb x (List.mem_of_mem_take hx)
      have hc : (ints l).take (l.length - 4) = ints (l.take (l.length - 4)) := by have := cut_is l (l.length - 4) 0; simpa using this
      rw [ew, ew1, ew2, ew3, if_pos (by omega), if_pos (by omega), Int.toNat_natCast, hc, Sum_is _ ht (by rw [List.length_take]; omega) k (by rw [List.length_take]; omega), Option.bind_some]
      rw [if_pos (by omega), rd_ints, rd_ints, rd_ints, rd_ints, tail_is l (by omega)]
      generalize hs : sum (l.take (l.length - 4)) = s
      generalize ha : l.getD (l.length - 4) 0 = a
      generalize hb2 : l.getD (l.length - 4 + 1) 0 = b
      generalize hc2 : l.getD (l.length - 4 + 2) 0 = c
      generalize hd : l.getD (l.length - 4 + 3) 0 = d
      have e1 : ((s : Nat) : Int) % 256 = ((s % 256 : Nat) : Int) := by omega
      have e2 : ((s : Nat) : Int) / 256 % 256 = ((s / 256 % 256 : Nat) : Int) := by omega
      have e3 : ((s : Nat) : Int) / 65536 % 256 = ((s / 65536 % 256 : Nat) : Int) := by omega
      have e4 : ((s : Nat) : Int) / 16777216 % 256 = ((s / 16777216 % 256 : Nat) : Int) := by omega
      rw [e1, e2, e3, e4]
      unfold low
      by_cases q1 : a = s % 256
      · rw [if_pos (by omega), if_pos (by omega), if_pos (by omega)]
        by_cases q2 : b = s / 256 % 256
        · rw [if_pos (by omega), if_pos (by omega), if_pos (by omega)]
          by_cases q3 : c = s / 65536 % 256
          · rw [if_pos (by omega), if_pos (by omega), if_pos (by omega), Open_j0 l hb (by omega) (by omega) _ k (by omega)]
            by_cases q4 : d = s / 16777216 % 256
            · have : (((d : Nat) : Int) != ((s / 16777216 % 256 : Nat) : Int)) = false := by rw [q4]; simp
              have hq : [a, b, c, d] = [s % 256, s / 256 % 256, s / 65536 % 256, s / 16777216 % 256] := by rw [q1, q2, q3, q4]
              rw [this, if_neg (by decide), if_pos hq]
            · have : (((d : Nat) : Int) != ((s / 16777216 % 256 : Nat) : Int)) = true := by rw [bne_iff_ne]; omega
              rw [this, if_pos rfl, if_neg (by intro e; injection e with _ e; injection e with _ e; injection e with _ e; injection e with e _; exact q4 e)]
          · rw [if_neg (by omega), Open_j0 l hb (by omega) (by omega) _ k (by omega), if_pos rfl, if_neg (by intro e; injection e with _ e; injection e with _ e; injection e with e _; exact q3 e)]
        · rw [if_neg (by omega), Open_j0 l hb (by omega) (by omega) _ k (by omega), if_pos rfl, if_neg (by intro e; injection e with _ e; injection e with e _; exact q2 e)]
      · rw [if_neg (by omega), Open_j0 l hb (by omega) (by omega) _ k (by omega), if_pos rfl, if_neg (by intro e; injection e with e _; exact q1 e)]

theorem be_packed (A B C : Nat) (l : List Nat) (hC : C < 4294967296) : be (packed A B C l) = C := by
  unfold be packed ahead four
  simp only [List.cons_append, List.nil_append, List.getD_cons_zero, List.getD_cons_succ]
  omega
/-- A frame's bytes say that frame. -/
theorem open_packed (A B C : Nat) (l : List Nat) (hC : C < 4294967296) (hb : ∀ x ∈ l, x < 256) (h : checkOf (A : Int) (B : Int) (C : Int) l.length = 0) : openOf (packed A B C l) = ((A : Int), (B : Int), (C : Int), ints l, 0) := by
  have hc := checked h
  have hl := packed_length A B C l
  have e1 : (packed A B C l).length - 4 = (ahead A B C l).length := by rw [hl, ahead_length]; omega
  have ht : (packed A B C l).take ((packed A B C l).length - 4) = ahead A B C l := by rw [e1]; unfold packed; rw [List.take_left]
  have hd : (packed A B C l).drop ((packed A B C l).length - 4) = low (sum (ahead A B C l)) := by rw [e1]; unfold packed; rw [List.drop_left]
  have g0 : (packed A B C l).getD 0 0 = 82 := rfl
  have g1 : (packed A B C l).getD 1 0 = 75 := rfl
  have g2 : (packed A B C l).getD 2 0 = A := rfl
  have g3 : (packed A B C l).getD 3 0 = B := rfl
  unfold openOf
  rw [if_neg (by omega), if_neg (by omega), hd, ht, if_pos rfl, if_pos ⟨g0, g1⟩]
  unfold gotOf
  rw [g2, g3, be_packed A B C l hC, ht, hl, show l.length + 12 - 12 = l.length by omega, if_pos h]
  rfl
theorem four_be (l : List Nat) (hb : ∀ x ∈ l, x < 256) : four (be l) = [l.getD 4 0, l.getD 5 0, l.getD 6 0, l.getD 7 0] := by
  have h4 := getD_lt hb 4
  have h5 := getD_lt hb 5
  have h6 := getD_lt hb 6
  have h7 := getD_lt hb 7
  unfold four be
  congr 1
  · omega
  congr 1
  · omega
  congr 1
  · omega
  congr 1
  omega
theorem be_lt (l : List Nat) (hb : ∀ x ∈ l, x < 256) : be l < 4294967296 := by
  have h4 := getD_lt hb 4
  have h5 := getD_lt hb 5
  have h6 := getD_lt hb 6
  have h7 := getD_lt hb 7
  unfold be
  omega
theorem head_is (l : List Nat) (h1 : 8 ≤ l.length) : l.take 8 = [l.getD 0 0, l.getD 1 0, l.getD 2 0, l.getD 3 0, l.getD 4 0, l.getD 5 0, l.getD 6 0, l.getD 7 0] := by
  have hg : ∀ n i, i < l.length → (l.drop i).take (n + 1) = l.getD i 0 :: (l.drop (i + 1)).take n := by
    intro n i hi
    rw [List.drop_eq_getElem_cons hi, List.take_succ_cons, List.getD_eq_getElem?_getD, List.getElem?_eq_getElem hi]
    rfl
  have := hg 7 0 (by omega)
  rw [List.drop_zero] at this
  rw [this, hg _ _ (by omega), hg _ _ (by omega), hg _ _ (by omega), hg _ _ (by omega), hg _ _ (by omega), hg _ _ (by omega), hg _ _ (by omega), List.take_zero]
/-- Bytes that are a frame are that frame's. -/
theorem open_back (l : List Nat) (hb : ∀ x ∈ l, x < 256) (h : (openOf l).2.2.2.2 = 0) :
    openOf l = (((l.getD 2 0 : Nat) : Int), ((l.getD 3 0 : Nat) : Int), ((be l : Nat) : Int), ints ((l.take (l.length - 4)).drop 8), 0) ∧
    checkOf ((l.getD 2 0 : Nat) : Int) ((l.getD 3 0 : Nat) : Int) ((be l : Nat) : Int) ((l.take (l.length - 4)).drop 8).length = 0 ∧
    packed (l.getD 2 0) (l.getD 3 0) (be l) ((l.take (l.length - 4)).drop 8) = l := by
  by_cases h1 : l.length < 12
  · unfold openOf at h
    rw [if_pos h1] at h
    exact absurd h (by decide)
  by_cases h2 : 1212 < l.length
  · unfold openOf at h
    rw [if_neg h1, if_pos h2] at h
    exact absurd h (by decide)
  by_cases h3 : l.drop (l.length - 4) = low (sum (l.take (l.length - 4)))
  · by_cases h4 : l.getD 0 0 = 82 ∧ l.getD 1 0 = 75
    · have e : openOf l = gotOf l := by unfold openOf; rw [if_neg h1, if_neg h2, if_pos h3, if_pos h4]
      rw [e] at h
      have hlen : ((l.take (l.length - 4)).drop 8).length = l.length - 12 := by rw [List.length_drop, List.length_take]; omega
      have h5 : checkOf ((l.getD 2 0 : Nat) : Int) ((l.getD 3 0 : Nat) : Int) ((be l : Nat) : Int) (l.length - 12) = 0 := by
        apply Classical.byContradiction
        intro hne
        unfold gotOf at h
        rw [if_neg hne] at h
        exact hne h
      refine ⟨by rw [e]; unfold gotOf; rw [if_pos h5], by rw [hlen]; exact h5, ?_⟩
      have e8 : ahead (l.getD 2 0) (l.getD 3 0) (be l) ((l.take (l.length - 4)).drop 8) = l.take (l.length - 4) := by
        unfold ahead
        rw [four_be l hb]
        have e9 : [82, 75, l.getD 2 0, l.getD 3 0] ++ [l.getD 4 0, l.getD 5 0, l.getD 6 0, l.getD 7 0] = (l.take (l.length - 4)).take 8 := by
          rw [List.take_take, Nat.min_eq_left (by omega), head_is l (by omega), h4.1, h4.2]
          rfl
        rw [e9, List.take_append_drop]
      unfold packed
      rw [e8, ← h3, List.take_append_drop]
    · unfold openOf at h
      rw [if_neg h1, if_neg h2, if_pos h3, if_neg h4] at h
      exact absurd h (by decide)
  · unfold openOf at h
    rw [if_neg h1, if_neg h2, if_neg h3] at h
    exact absurd h (by decide)
theorem open_none (l : List Nat) (h : (openOf l).2.2.2.2 ≠ 0) : (openOf l).1 = 0 ∧ (openOf l).2.2.2.1 = [] := by
  unfold openOf gotOf at h ⊢
  split
  · exact ⟨rfl, rfl⟩
  · split
    · exact ⟨rfl, rfl⟩
    · split
      · split
        · split
          · rename_i h1 h2 h3 h4 h5
            rw [if_neg h1, if_neg h2, if_pos h3, if_pos h4, if_pos h5] at h
            exact absurd rfl h
          · exact ⟨rfl, rfl⟩
        · exact ⟨rfl, rfl⟩
      · exact ⟨rfl, rfl⟩

theorem ints_set (l : List Nat) (i v : Nat) : (ints l).set i (v : Int) = ints (l.set i v) := by
  unfold ints
  rw [List.map_set]
/-- The bits that are turned, one behind the other. -/
def turn (l : List Nat) (p W : Nat) : Nat → List Nat
  | 0 => l
  | i + 1 => if W.testBit i = true then (turn l p W i).set ((p + i) / 8) ((turn l p W i).getD ((p + i) / 8) 0 ^^^ 2 ^ ((p + i) % 8)) else turn l p W i
theorem turn_succ (l : List Nat) (p W i : Nat) : turn l p W (i + 1) = if W.testBit i = true then (turn l p W i).set ((p + i) / 8) ((turn l p W i).getD ((p + i) / 8) 0 ^^^ 2 ^ ((p + i) % 8)) else turn l p W i := rfl
theorem turn_length (l : List Nat) (p y : Nat) : ∀ i, (turn l p y i).length = l.length
  | 0 => rfl
  | i + 1 => by
    rw [turn_succ]
    split
    · rw [List.length_set, turn_length l p y i]
    · exact turn_length l p y i
theorem pow_byte (j : Nat) (h : j < 8) : 2 ^ j < 256 := by
  have : 2 ^ j < 2 ^ 8 := Nat.pow_lt_pow_right (by decide) h
  omega
theorem turn_byte (l : List Nat) (p y : Nat) (hb : ∀ x ∈ l, x < 256) : ∀ i, ∀ x ∈ turn l p y i, x < 256
  | 0 => hb
  | i + 1 => by
    intro x hx
    rw [turn_succ] at hx
    split at hx
    · rcases List.mem_or_eq_of_mem_set hx with h | h
      · exact turn_byte l p y hb i x h
      · subst h
        have h1 := getD_lt (turn_byte l p y hb i) ((p + i) / 8)
        have h2 := pow_byte ((p + i) % 8) (by omega)
        have := Nat.xor_lt_two_pow (n := 8) (x := (turn l p y i).getD ((p + i) / 8) 0) (y := 2 ^ ((p + i) % 8)) (by omega) (by omega)
        omega
    · exact turn_byte l p y hb i x hx
theorem getD_set (l : List Nat) (i j v : Nat) (hi : i < l.length) : (l.set i v).getD j 0 = if i = j then v else l.getD j 0 := by
  rw [List.getD_eq_getElem?_getD, List.getElem?_set]
  by_cases h : i = j
  · subst h
    simp [hi]
  · simp [h, List.getD_eq_getElem?_getD]
theorem turn_bits (l : List Nat) (p y : Nat) : ∀ i, p + i ≤ 8 * l.length → ∀ k, bitsOf (turn l p y i) k = (bitsOf l k ^^ (decide (p ≤ k) && decide (k < p + i) && y.testBit (k - p)))
  | 0, _, k => by
    have : (decide (p ≤ k) && decide (k < p + 0)) = false := by simp
    rw [this]
    simp [turn]
  | i + 1, hi, k => by
    have ih := turn_bits l p y i (by omega) k
    by_cases hk : k = p + i
    · have e1 : (decide (p ≤ k) && decide (k < p + i)) = false := by simp; omega
      have e2 : (decide (p ≤ k) && decide (k < p + (i + 1))) = true := by simp; omega
      rw [e1] at ih
      rw [e2, show k - p = i by omega]
      rw [turn_succ]
      split
      · rename_i hw
        rw [hw]
        unfold bitsOf at ih ⊢
        rw [getD_set _ _ _ _ (by rw [turn_length]; omega), if_pos (by rw [hk]), Nat.testBit_xor, ← hk, ih, Nat.testBit_two_pow_self]
        simp
      · rename_i hw
        rw [ih]
        simp [hw]
    · have e : (decide (p ≤ k) && decide (k < p + (i + 1))) = (decide (p ≤ k) && decide (k < p + i)) := by
        by_cases h1 : p ≤ k
        · have : (k < p + (i + 1)) ↔ (k < p + i) := by omega
          simp [h1, this]
        · simp [h1]
      rw [e, ← ih]
      rw [turn_succ]
      split
      · unfold bitsOf
        rw [getD_set _ _ _ _ (by rw [turn_length]; omega)]
        by_cases h2 : (p + i) / 8 = k / 8
        · rw [if_pos h2, Nat.testBit_xor, h2, Nat.testBit_two_pow]
          have : ¬ (p + i) % 8 = k % 8 := by omega
          simp [this]
        · rw [if_neg h2]
      · rfl
/-- Is a bit of the mask's first ones set? -/
def any (W : Nat) : Nat → Bool
  | 0 => false
  | i + 1 => any W i || W.testBit i
theorem any_none (W : Nat) : ∀ i, any W i = false → ∀ j, j < i → W.testBit j = false
  | 0, _, j, hj => absurd hj (by omega)
  | i + 1, h, j, hj => by
    simp only [any, Bool.or_eq_false_iff] at h
    rcases Nat.lt_or_ge j i with h1 | h1
    · exact any_none W i h.1 j h1
    · obtain rfl : j = i := by omega
      exact h.2
theorem any_some (W : Nat) : ∀ i, any W i = true → W ≠ 0
  | 0, h => by simp [any] at h
  | i + 1, h => by
    rintro rfl
    simp only [any, Bool.or_eq_true, Nat.zero_testBit] at h
    rcases h with h | h
    · exact any_some 0 i h rfl
    · cases h
theorem turn_none (l : List Nat) (p W : Nat) : ∀ i, any W i = false → turn l p W i = l
  | 0, _ => rfl
  | i + 1, h => by
    simp only [any, Bool.or_eq_false_iff] at h
    rw [turn_succ]
    rw [if_neg (by rw [h.2]; decide)]
    exact turn_none l p W i h.1
theorem shr_is (W i : Nat) (hi : i < 32) : Int.tmod (shr .u32 (W : Int) (IntKind.u64.wrap (i : Int))) 2 = ((W.testBit i).toNat : Int) := by
  have e3 : IntKind.u64.wrap (i : Int) = (i : Int) := by rw [Go.IntKind.wrap_u64]; omega
  rw [e3]
  unfold shr
  rw [Int.toNat_natCast, Nat.min_eq_left (by show i ≤ 32; omega)]
  have : ((W : Int) / 2 ^ i) = ((W / 2 ^ i : Nat) : Int) := by push_cast; rfl
  rw [this, Int.tmod_eq_emod_of_nonneg (Int.natCast_nonneg _)]
  have h2 : W.testBit i = decide (W / 2 ^ i % 2 = 1) := Nat.testBit_eq_decide_div_mod_eq
  rw [h2]
  clear this h2
  generalize W / 2 ^ i = q
  by_cases h : q % 2 = 1
  · rw [decide_eq_true h, Bool.toNat_true]; omega
  · rw [decide_eq_false h, Bool.toNat_false]; omega
theorem shl_is (j : Nat) (hj : j < 8) : shl .u8 1 (j : Int) = ((2 ^ j : Nat) : Int) := by
  unfold shl
  rw [Int.toNat_natCast, Nat.min_eq_left (by show j ≤ 8; omega), Go.IntKind.wrap_u8, Int.one_mul]
  have h := pow_byte j hj
  have : ((2 : Int) ^ j) = ((2 ^ j : Nat) : Int) := by push_cast; rfl
  rw [this]
  clear this
  generalize 2 ^ j = q at h ⊢
  omega
theorem sum_err (l : List Nat) (h1 : 12 ≤ l.length) (h2 : l.length ≤ 1212) (hb : ∀ x ∈ l, x < 256) (h : crc l full ≠ steps 32 full) : (openOf l).2.2.2.2 = 64 := by
  have hne : ¬ l.drop (l.length - 4) = low (sum (l.take (l.length - 4))) := by
    intro e
    have := (good_iff (l.take (l.length - 4)) (l.drop (l.length - 4)) (fun x hx => hb x (List.mem_of_mem_take hx)) (by rw [List.length_drop]; omega) (fun x hx => hb x (List.mem_of_mem_drop hx))).1 e
    rw [List.take_append_drop] at this
    exact h this
  unfold openOf
  rw [if_neg (by omega), if_neg (by omega), if_neg hne]
theorem low_length (s : Nat) : (low s).length = 4 := rfl
theorem crc_packed (A B C : Nat) (l : List Nat) (hA : A < 256) (hB : B < 256) (hb : ∀ x ∈ l, x < 256) : crc (packed A B C l) full = steps 32 full := by
  have h := (good_iff (ahead A B C l) (low (sum (ahead A B C l))) (ahead_byte hA hB hb) (low_length _) (low_byte _)).1 rfl
  exact h
theorem e5_ (p i : Nat) (h : p + i < 100000) : wrap64 ((p : Int) + (i : Int)) = ((p + i : Nat) : Int) := by rw [wrap_up (by omega) (by omega)]; omega
theorem e6_ (x : Nat) (h : x < 100000) : wrap64 (Int.tdiv (x : Int) 8) = ((x / 8 : Nat) : Int) := by rw [Int.tdiv_eq_ediv_of_nonneg (by omega), wrap_up (by omega) (by omega)]; omega
theorem e7_ (x : Nat) (h : x < 100000) : IntKind.u64.wrap (Int.tmod (x : Int) 8) = ((x % 8 : Nat) : Int) := by rw [Int.tmod_eq_emod_of_nonneg (by omega), Go.IntKind.wrap_u64]; omega
theorem e8_ (i : Nat) (h : i < 100000) : wrap64 ((i : Int) + 1) = ((i + 1 : Nat) : Int) := by rw [wrap_up (by omega) (by omega)]; omega
theorem burst_round (m : List Nat) (hb : ∀ x ∈ m, x < 256) (p W i : Nat) (v : Bool) (k : Nat) (hp : p + i < 8 * m.length) (hx : p + i < 100000) (hi : i < 32) :
    rookerylaw06_FrameBursts.l0 (k + 1) (p : Int) (W : Int) (ints m) v (i : Int) =
      rookerylaw06_FrameBursts.l0 k (p : Int) (W : Int) (ints (if W.testBit i = true then m.set ((p + i) / 8) (m.getD ((p + i) / 8) 0 ^^^ 2 ^ ((p + i) % 8)) else m)) (v || W.testBit i) ((i + 1 : Nat) : Int) := by
  have q1 : (i : Int) < 32 := by omega
  have q2 : (0 : Int) ≤ (i : Int) := by omega
  have q3 : (p + i) / 8 < m.length := by omega
  have q4 : (p + i) % 8 < 8 := by omega
  have q5 : ((((p + i) / 8 : Nat) : Int)) < ((m.length : Nat) : Int) := by omega
  have q6 : (0 : Int) ≤ (((p + i) / 8 : Nat) : Int) := by omega
  have q7 : (0 : Int) ≤ (((p + i) % 8 : Nat) : Int) := by omega
  have e3 : IntKind.u64.wrap (i : Int) = (i : Int) := by rw [Go.IntKind.wrap_u64]; omega
  have e4 := shr_is W i hi
  have e5 := e5_ p i hx
  have e6 := e6_ (p + i) hx
  have e7 := e7_ (p + i) hx
  have e8 := e8_ i (Nat.lt_of_le_of_lt (Nat.le_add_left i p) hx)
  have h2 := pow_byte ((p + i) % 8) q4
  have h3 := bits_xor_u8_nat _ _ (getD_lt hb ((p + i) / 8)) h2
  have h4 := shl_is ((p + i) % 8) q4
  rw [rookerylaw06_FrameBursts.l0, if_pos q1, e4, e3, e5, e6, e7, e8, if_pos q2]
  cases hw : W.testBit i
  · rw [if_neg (by decide), if_neg (by decide), Bool.or_false]
  · rw [if_pos (by decide), if_pos rfl, if_pos q6, ints_length, if_pos q5, if_pos q7, rd_ints, h4, h3, Int.toNat_natCast, ints_set, Bool.or_true]
theorem burst_loop (A B C : Nat) (l : List Nat) (hC : C < 4294967296) (hb : ∀ x ∈ l, x < 256) (h : checkOf (A : Int) (B : Int) (C : Int) l.length = 0) (p W : Nat) (hW : W < 4294967296) (hp : p + 32 ≤ 8 * (packed A B C l).length) (d : Nat) :
    ∀ (k i : Nat), i + d = 32 → d + 1300 < k → rookerylaw06_FrameBursts.l0 k (p : Int) (W : Int) (ints (turn (packed A B C l) p W i)) (any W i) (i : Int) = some true := by
  have hc := checked h
  have hpb := packed_byte (A := A) (B := B) (C := C) (l := l) (by omega) (by omega) hb
  have hpl := packed_length A B C l
  induction d with
  | zero =>
    intro k i hi hk
    obtain ⟨k, rfl⟩ : ∃ m, k = m + 1 := ⟨k - 1, by omega⟩
    obtain rfl : i = 32 := by omega
    simp only [rookerylaw06_FrameBursts.l0]
    rw [if_neg (by omega), Open_is _ (turn_byte _ p W hpb 32) (by rw [turn_length, hpl]; omega) k (by omega), Option.bind_some]
    by_cases ha : any W 32 = true
    · rw [if_pos ha]
      have hcrc := crc_packed A B C l (by omega) (by omega) hb
      have hne := burst (packed A B C l) (turn (packed A B C l) p W 32) p W full (turn_length _ _ _ _) hpb (turn_byte _ p W hpb 32) hp hW (any_some W 32 ha) (fun k hk => turn_bits _ p W 32 hp k)
      rw [hcrc] at hne
      rw [sum_err _ (by rw [turn_length, hpl]; omega) (by rw [turn_length, hpl]; omega) (turn_byte _ p W hpb 32) hne]
      rfl
    · have ha' : any W 32 = false := by simpa using ha
      rw [if_neg ha, turn_none _ _ _ _ ha', open_packed A B C l hC hb h]
      rfl
  | succ d ih =>
    intro k i hi hk
    obtain ⟨k, rfl⟩ : ∃ m, k = m + 1 := ⟨k - 1, by omega⟩
    have hround := burst_round (turn (packed A B C l) p W i) (turn_byte _ p W hpb i) p W i (any W i) k (by rw [turn_length]; omega) (by omega) (by omega)
    rw [hround, ← turn_succ]
    exact ih k (i + 1) (by omega) (by omega)
theorem burst_j0 (A B C : Nat) (l : List Nat) (hC : C < 4294967296) (hb : ∀ x ∈ l, x < 256) (h : checkOf (A : Int) (B : Int) (C : Int) l.length = 0) (a W : Nat) (hW : W < 4294967296) (k : Nat) (hk : 1400 < k) :
    rookerylaw06_FrameBursts.j0 k (a : Int) (W : Int) (ints (packed A B C l)) = some true := by
  have hc := checked h
  obtain ⟨k, rfl⟩ : ∃ m, k = m + 1 := ⟨k - 1, by omega⟩
  simp only [rookerylaw06_FrameBursts.j0]
  have hpl := packed_length A B C l
  have e1 : wrap64 (8 * (((ints (packed A B C l)).length : Nat) : Int)) = ((8 * (packed A B C l).length : Nat) : Int) := by rw [ints_length, wrap_up (by omega) (by omega)]; omega
  have e2 : wrap64 (((8 * (packed A B C l).length : Nat) : Int) - 31) = ((8 * (packed A B C l).length - 31 : Nat) : Int) := by rw [wrap_up (by omega) (by omega)]; omega
  have e3 : Int.tmod (a : Int) ((8 * (packed A B C l).length - 31 : Nat) : Int) = ((a % (8 * (packed A B C l).length - 31) : Nat) : Int) := by rw [Int.tmod_eq_emod_of_nonneg (by omega)]; omega
  rw [e1, e2, if_neg (by omega), e3]
  have hm : a % (8 * (packed A B C l).length - 31) < 8 * (packed A B C l).length - 31 := Nat.mod_lt _ (by omega)
  exact burst_loop A B C l hC hb h _ W hW (by omega) 32 k 0 (by omega) (by omega)
theorem FrameBursts (a b c : Int) (l : List Int) (at' mask : Int) (hl : ∀ x ∈ l, (Lit.int .u8 x).wf = true) (hc : (Lit.int .u32 c).wf = true) (h1 : (Lit.int .i64 at').wf = true) (h2 : (Lit.int .u32 mask).wf = true) :
    ∃ k, rookerylaw06_FrameBursts.f k a b c l at' mask = some true := by
  obtain ⟨l, rfl, hb⟩ := of_bytes hl
  have hy : 0 ≤ c ∧ c ≤ 4294967295 := by simpa [Lit.wf, IntKind.min, IntKind.max, IntKind.signed, IntKind.bits] using hc
  have ha : -9223372036854775808 ≤ at' ∧ at' ≤ 9223372036854775807 := by simpa [Lit.wf, IntKind.min, IntKind.max, IntKind.signed, IntKind.bits] using h1
  have hw : 0 ≤ mask ∧ mask ≤ 4294967295 := by simpa [Lit.wf, IntKind.min, IntKind.max, IntKind.signed, IntKind.bits] using h2
  refine ⟨5000, ?_⟩
  unfold rookerylaw06_FrameBursts.f
  rw [alive_more _ (by omega), Option.bind_some, if_pos rfl]
  by_cases h : checkOf a b c l.length = 0
  · have hcc := checked h
    obtain ⟨A, rfl⟩ := Int.eq_ofNat_of_zero_le (show 0 ≤ a by omega)
    obtain ⟨B, rfl⟩ := Int.eq_ofNat_of_zero_le (show 0 ≤ b by omega)
    obtain ⟨C, rfl⟩ := Int.eq_ofNat_of_zero_le (show 0 ≤ c by omega)
    obtain ⟨W, rfl⟩ := Int.eq_ofNat_of_zero_le hw.1
    rw [Pack_yes _ A B C l hb (by omega) h (by omega), Option.bind_some, if_pos rfl]
    split
    · have e1 : wrap64 (-wrap64 (at' + 1)) = ((-(at' + 1)).toNat : Int) := by rw [wrap_up (i := at' + 1) (by omega) (by omega), wrap_up (by omega) (by omega)]; omega
      rw [e1]
      exact burst_j0 A B C l (by omega) hb h _ W (by omega) _ (by omega)
    · have e1 : at' = (at'.toNat : Int) := by omega
      rw [e1]
      exact burst_j0 A B C l (by omega) hb h _ W (by omega) _ (by omega)
  · rw [Pack_no _ _ _ _ _ (by omega) (by rw [ints_length]; exact h), Option.bind_some, if_neg (by rw [ints_length]; exact h)]
end Go.Proofs.Ytlhncceabneckaa.PureBursts
