/- What the document's own functions on packets answer: a number's bytes, a complex number that may be, a packet that may be, two packets that are the same; for all of them. -/
import Derived.Test.YtnkkgofpifhoeaaBits
namespace Go.Proofs.Ytnkkgofpifhoeaa.Pk
open Go.RowKit Go.Proofs.Ytnkkgofpifhoeaa.Flt Go.Proofs.Ytnkkgofpifhoeaa.Base Go.Proofs.Ytnkkgofpifhoeaa.Num Go.Proofs.YtnkkgofpifhoeaaW.PrintWords Go.Proofs.YtnkkgofpifhoeaaW.PrintLast
set_option linter.unusedSimpArgs false
set_option linter.unusedVariables false
theorem bigOf_snoc (a : Int) (l : List Int) (c : Int) : bigOf a (l ++ [c]) = (bigOf a l * 256) % 18446744073709551616 + c := by
  simp [bigOf, List.foldl_append]
theorem bigOf_range (l : List Int) (a : Int) (h : ∀ c ∈ l, 0 ≤ c ∧ c < 256) (h0 : 0 ≤ a) (h1 : a < 18446744073709551616) : 0 ≤ bigOf a l ∧ bigOf a l < 18446744073709551616 := by
  rw [← numOf_big l a h]
  exact numOf_range l a h0 h1
def bytesB (l : List Int) : Prop := ∀ c ∈ l, 0 ≤ c ∧ c < 256
theorem bytesB.take {l : List Int} (h : bytesB l) (n : Nat) : bytesB (l.take n) := fun c hc => h c (List.mem_of_mem_take hc)
theorem bytesB.drop {l : List Int} (h : bytesB l) (n : Nat) : bytesB (l.drop n) := fun c hc => h c (List.mem_of_mem_drop hc)
theorem bytesB.at {l : List Int} (h : bytesB l) (k : Nat) (hk : k < l.length) : 0 ≤ rd l (k : Int) ∧ rd l (k : Int) < 256 := by
  refine h _ ?_
  unfold rd
  rw [Int.toNat_natCast, List.getD_eq_getElem?_getD, List.getElem?_eq_getElem hk]
  exact List.getElem_mem hk
set_option maxRecDepth 100000 in
set_option maxHeartbeats 4000000 in
theorem of_any (A : Option Addr) (c : Nat) (l : List Int) (w : World) (hC : Kd.C (Kd.int .u8) w A l.length l) (hb : bytesB l) (hm : l.length ≤ 1000000000000) :
    Calls Try.prog 62 #[.slice A l.length c] w fun e w' => e = .returned (.int .u64 (bigOf 0 l)) ∧ w = w' := by
  have HC := Lib.hid hC
  have HB := Lib.hid hb
  clear hC hb
  go_enter Try.func62, Try.ntmps62
  go_wp2
  go_loop [3, 4] (fun n i => ∃ k : Nat, k ≤ l.length ∧ i = .int .i64 k ∧ n = .int .u64 (bigOf 0 (l.take k))) (fun _ i => l.length - (intOf i).toNat)
  case atStart => exact ⟨0, Nat.zero_le _, rfl, rfl⟩
  case round =>
    obtain ⟨k, hk, rfl, rfl⟩ := hrel
    by_cases hlt : k < l.length
    · obtain ⟨ad', eA', hx⟩ := Kd.at_int HC.out (k : Int) (by omega) (by omega)
      subst eA'
      rw [Int.toNat_natCast] at hx
      have hr1 := (HB.out.at k hlt).1
      have hr2 := (HB.out.at k hlt).2
      have hs := take_rd l k hlt
      have HS := Lib.hid hs
      clear hs
      have hbk := bigOf_range (l.take k) 0 (HB.out.take k) (by decide) (by decide)
      have hb1 := hbk.1
      have hb2 := hbk.2
      clear hbk
      go_wp2
      go_round
      case rel =>
        refine ⟨k + 1, by omega, by go_num, ?_⟩
        rw [HS.out, bigOf_snoc]
        congr 1
        first | (simp only [wrap_u64]; omega) | omega
      case measure => simp [intOf]; omega
    · obtain rfl : k = l.length := by omega
      go_wp2
      go_ret
      exact ⟨rfl, rfl⟩
end Go.Proofs.Ytnkkgofpifhoeaa.Pk
