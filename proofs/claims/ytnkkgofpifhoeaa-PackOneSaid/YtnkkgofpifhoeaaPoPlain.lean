/- Bytes that are a packet are just that packet's bytes: in plain lists and numbers. -/
import Derived.Test.YtnkkgofpifhoeaaPkt
import Derived.Test.YtnkkgofpifhoeaaPut
namespace Go.Proofs.Ytnkkgofpifhoeaa.Pk
open Go.RowKit Go.Proofs.Ytnkkgofpifhoeaa.Base Go.Proofs.YtnkkgofpifhoeaaW.PrintWords Go.Proofs.YtnkkgofpifhoeaaW.PrintLast Go.Proofs.YtnkkgofpifhoeaaW.PrintMore
theorem shr_at (n : Int) (k : Nat) (hk : k ≤ 64) : shr .u64 n (k : Int) = n / 2 ^ k := by
  unfold shr
  rw [Int.toNat_natCast, Nat.min_eq_left (show k ≤ IntKind.u64.bits from hk)]
theorem put4_is (n : Int) : put4 n = [n / 16777216 % 256, n / 65536 % 256, n / 256 % 256, n % 256] := by
  unfold put4
  rw [show shr .u64 n 24 = n / 16777216 from shr_at n 24 (by decide), show shr .u64 n 16 = n / 65536 from shr_at n 16 (by decide), show shr .u64 n 8 = n / 256 from shr_at n 8 (by decide), show shr .u64 n 0 = n / 1 from shr_at n 0 (by decide), Int.ediv_one]
theorem put8_is (n : Int) : put8 n = [n / 72057594037927936 % 256, n / 281474976710656 % 256, n / 1099511627776 % 256, n / 4294967296 % 256, n / 16777216 % 256, n / 65536 % 256, n / 256 % 256, n % 256] := by
  unfold put8
  rw [show shr .u64 n 56 = n / 72057594037927936 from shr_at n 56 (by decide), show shr .u64 n 48 = n / 281474976710656 from shr_at n 48 (by decide), show shr .u64 n 40 = n / 1099511627776 from shr_at n 40 (by decide), show shr .u64 n 32 = n / 4294967296 from shr_at n 32 (by decide), show shr .u64 n 24 = n / 16777216 from shr_at n 24 (by decide), show shr .u64 n 16 = n / 65536 from shr_at n 16 (by decide), show shr .u64 n 8 = n / 256 from shr_at n 8 (by decide), show shr .u64 n 0 = n / 1 from shr_at n 0 (by decide), Int.ediv_one]
theorem four (m : List Int) (h : m.length = 4) : ∃ a b c d, m = [a, b, c, d] := by
  match m, h with
  | [a, b, c, d], _ => exact ⟨a, b, c, d, rfl⟩
theorem eight (m : List Int) (h : m.length = 8) : ∃ a b c d e f g i, m = [a, b, c, d, e, f, g, i] := by
  match m, h with
  | [a, b, c, d, e, f, g, i], _ => exact ⟨a, b, c, d, e, f, g, i, rfl⟩
theorem put4_big (m : List Int) (h : m.length = 4) (hb : bytesB m) : put4 (IntKind.u64.wrap (IntKind.u32.wrap (bigOf 0 m))) = m := by
  obtain ⟨a, b, c, d, rfl⟩ := four m h
  have ha := hb a (by simp)
  have hb' := hb b (by simp)
  have hc := hb c (by simp)
  have hd := hb d (by simp)
  have e : bigOf 0 [a, b, c, d] = a * 16777216 + b * 65536 + c * 256 + d := by
    show ((((0 * 256) % 18446744073709551616 + a) * 256 % 18446744073709551616 + b) * 256 % 18446744073709551616 + c) * 256 % 18446744073709551616 + d = _
    omega
  rw [e, wrapU32, wrap_u64, put4_is]
  have e1 : (a * 16777216 + b * 65536 + c * 256 + d) % 4294967296 % 18446744073709551616 = a * 16777216 + b * 65536 + c * 256 + d := by omega
  rw [e1]
  congr 1
  · omega
  congr 1
  · omega
  congr 1
  · omega
  congr 1
  omega
theorem put8_big (m : List Int) (h : m.length = 8) (hb : bytesB m) : put8 ((bigOf 0 m).toNat : Int) = m := by
  obtain ⟨a, b, c, d, e, f, g, i, rfl⟩ := eight m h
  have ha := hb a (by simp)
  have hb' := hb b (by simp)
  have hc := hb c (by simp)
  have hd := hb d (by simp)
  have he := hb e (by simp)
  have hf := hb f (by simp)
  have hg := hb g (by simp)
  have hi := hb i (by simp)
  have e1 : bigOf 0 [a, b, c, d, e, f, g, i] = a * 72057594037927936 + b * 281474976710656 + c * 1099511627776 + d * 4294967296 + e * 16777216 + f * 65536 + g * 256 + i := by
    show ((((((((0 * 256) % 18446744073709551616 + a) * 256 % 18446744073709551616 + b) * 256 % 18446744073709551616 + c) * 256 % 18446744073709551616 + d) * 256 % 18446744073709551616 + e) * 256 % 18446744073709551616 + f) * 256 % 18446744073709551616 + g) * 256 % 18446744073709551616 + i = _
    omega
  rw [e1, put8_is]
  have e2 : (((a * 72057594037927936 + b * 281474976710656 + c * 1099511627776 + d * 4294967296 + e * 16777216 + f * 65536 + g * 256 + i).toNat : Nat) : Int) = a * 72057594037927936 + b * 281474976710656 + c * 1099511627776 + d * 4294967296 + e * 16777216 + f * 65536 + g * 256 + i := by omega
  rw [e2]
  congr 1
  · omega
  congr 1
  · omega
  congr 1
  · omega
  congr 1
  · omega
  congr 1
  · omega
  congr 1
  · omega
  congr 1
  · omega
  congr 1
  omega
theorem p4_at (l : List Int) (a : Nat) (hb : bytesB l) (h : a + 4 ≤ l.length) : put4 (IntKind.u64.wrap (at4 l a)) = (l.drop a).take 4 :=
  put4_big _ (by rw [List.length_take, List.length_drop]; omega) ((hb.drop a).take 4)
theorem p8_at (l : List Int) (a : Nat) (hb : bytesB l) (h : a + 8 ≤ l.length) : put8 (at8 l a : Int) = (l.drop a).take 8 :=
  put8_big _ (by rw [List.length_take, List.length_drop]; omega) ((hb.drop a).take 8)
theorem cons_of (l : List Int) (h : 0 < l.length) : [rd l 0] ++ l.drop 1 = l := by
  match l, h with
  | x :: m, _ => rfl
theorem step_of (l : List Int) (a n : Nat) : (l.drop a).take n ++ l.drop (a + n) = l.drop a := by
  rw [← List.drop_drop, List.take_append_drop]
theorem one_at (l : List Int) (a : Nat) (hb : bytesB l) (h : l.length = a + 1) : [IntKind.u8.wrap (IntKind.u32.wrap (rd l (a : Int)))] = l.drop a := by
  have hr := hb.at a (by omega)
  have e : IntKind.u8.wrap (IntKind.u32.wrap (rd l (a : Int))) = rd l (a : Int) := by
    rw [wrapU32, IntKind.wrap_u8]
    omega
  rw [e, List.drop_eq_getElem_cons (by omega), List.drop_eq_nil_of_le (by omega)]
  unfold rd
  rw [Int.toNat_natCast, List.getD_eq_getElem?_getD, List.getElem?_eq_getElem (by omega)]
  rfl
theorem head3 (l : List Int) (k : Int) (hb : bytesB l) (hk : rd l 0 = k) (h : 13 ≤ l.length) :
    (([k] ++ put4 (IntKind.u64.wrap (at4 l 1))) ++ put4 (IntKind.u64.wrap (at4 l 5))) ++ put4 (IntKind.u64.wrap (at4 l 9)) ++ l.drop 13 = l := by
  rw [p4_at l 1 hb (by omega), p4_at l 5 hb (by omega), p4_at l 9 hb (by omega), ← hk]
  simp only [List.append_assoc]
  rw [step_of l 9 4, step_of l 5 4, step_of l 1 4]
  exact cons_of l (by omega)
theorem bytes1 (l : List Int) (hb : bytesB l) (hk : rd l 0 = 1) (h : l.length = 14) :
    (((([1] ++ put4 (IntKind.u64.wrap (at4 l 1))) ++ put4 (IntKind.u64.wrap (at4 l 5))) ++ put4 (IntKind.u64.wrap (at4 l 9))) ++ [IntKind.u8.wrap (IntKind.u32.wrap (rd l 13))]) = l := by
  have e : [IntKind.u8.wrap (IntKind.u32.wrap (rd l 13))] = l.drop 13 := one_at l 13 hb (by omega)
  rw [e]
  exact head3 l 1 hb hk (by omega)
theorem bytes3 (l : List Int) (hb : bytesB l) (hk : rd l 0 = 3) (h : l.length = 17) :
    ((((([3] ++ put4 (IntKind.u64.wrap (at4 l 1))) ++ put4 (IntKind.u64.wrap (at4 l 5))) ++ put4 (IntKind.u64.wrap (at4 l 9))) ++ put4 (IntKind.u64.wrap (at4 l 13))) ++ []) = l := by
  have e : put4 (IntKind.u64.wrap (at4 l 13)) = l.drop 13 := by
    rw [p4_at l 13 hb (by omega), List.take_of_length_le (by rw [List.length_drop]; omega)]
  rw [e, List.append_nil]
  exact head3 l 3 hb hk (by omega)
theorem bytes2 (l : List Int) (hb : bytesB l) (hk : rd l 0 = 2) (h : 22 ≤ l.length) :
    (((((([2] ++ put4 (IntKind.u64.wrap (at4 l 1))) ++ put4 (IntKind.u64.wrap (at4 l 5))) ++ put4 (IntKind.u64.wrap (at4 l 9))) ++ put4 (IntKind.u64.wrap (at4 l 13))) ++ put4 (IntKind.u64.wrap (at4 l 17))) ++ cutd 21 l) = l := by
  unfold cutd
  have hh := head3 l 2 hb hk (by omega)
  rw [← step_of l 13 4, ← step_of l 17 4] at hh
  rw [p4_at l 13 hb (by omega), p4_at l 17 hb (by omega)]
  simp only [List.append_assoc] at hh ⊢
  exact hh
theorem bytes4 (l : List Int) (hb : bytesB l) (hk : rd l 0 = 4) (h : l.length = 41) :
    (((((((((([4] ++ put4 (IntKind.u64.wrap (at4 l 1))) ++ put4 (IntKind.u64.wrap (at4 l 5))) ++ put4 (IntKind.u64.wrap (at4 l 9))) ++ put4 (IntKind.u64.wrap (at4 l 13))) ++ put4 (IntKind.u64.wrap (at4 l 17))) ++ put4 (IntKind.u64.wrap (at4 l 21))) ++ put8 (at8 l 25 : Int)) ++ put8 (at8 l 33 : Int)) ++ [])) = l := by
  have hh := head3 l 4 hb hk (by omega)
  have e : put8 (at8 l 33 : Int) = l.drop 33 := by
    rw [p8_at l 33 hb (by omega), List.take_of_length_le (by rw [List.length_drop]; omega)]
  rw [← step_of l 13 4, ← step_of l 17 4, ← step_of l 21 4, ← step_of l 25 8] at hh
  rw [e, p4_at l 13 hb (by omega), p4_at l 17 hb (by omega), p4_at l 21 hb (by omega), p8_at l 25 hb (by omega)]
  simp only [List.append_assoc, List.append_nil] at hh ⊢
  exact hh
end Go.Proofs.Ytnkkgofpifhoeaa.Pk
