/- The reader takes numbers from the front of its bytes: pack's reader.number; for all bytes. -/
import Derived.Test.YtnkkgofpifhoeaaCheck
import Derived.Deep.LoopGhost
import Derived.Laws.BitsLemmas
namespace Go.Proofs.Ytnkkgofpifhoeaa.Pk
open Go.RowKit Go.Proofs.Ytnkkgofpifhoeaa.Base Go.Proofs.YtnkkgofpifhoeaaW.PrintWords Go.Proofs.YtnkkgofpifhoeaaW.PrintLast
set_option linter.unusedSimpArgs false
set_option linter.unusedVariables false
theorem info5 : (Try.prog.info? 5).map (fun i => (i.zero, i.size, i.bytes)) = some (some (.int .u8 0), 1, 1) := by kernel_rfl
/-- A number's bytes, the highest first, behind a number. -/
def numOf (a : Int) (l : List Int) : Int := l.foldl (fun n c => Go.bits .or .u64 (IntKind.u64.wrap (n * 256)) (IntKind.u64.wrap c)) a
theorem numOf_snoc (a : Int) (l : List Int) (c : Int) : numOf a (l ++ [c]) = Go.bits .or .u64 (IntKind.u64.wrap (numOf a l * 256)) (IntKind.u64.wrap c) := by
  simp [numOf, List.foldl_append]
theorem take_rd (l : List Int) (k : Nat) (h : k < l.length) : l.take (k + 1) = l.take k ++ [rd l (k : Int)] := by
  rw [List.take_succ_eq_append_getElem h]
  unfold rd
  rw [Int.toNat_natCast, List.getD_eq_getElem?_getD, List.getElem?_eq_getElem h]
  rfl
/-- Behind a number that is taken: the number, and what is left. -/
def NumPost (g c size : Nat) (A : Option Addr) (l : List Int) (w : World) (e : Ending) (w' : World) : Prop :=
  ∃ A', e = .returned (.int .u64 (numOf 0 (l.take size))) ∧ w' = w.setCell ⟨g, 0, none⟩ (.slice A' (l.drop size).length (c - size)) ∧
        (∀ W, Kd.C (Kd.int .u8) W A l.length l → Kd.C (Kd.int .u8) W A' (l.drop size).length (l.drop size))
set_option maxRecDepth 100000 in
set_option maxHeartbeats 4000000 in
theorem number_any (g : Nat) (A : Option Addr) (c size : Nat) (l : List Int) (w : World) (hg : w.heap[g]? = some (.cells #[.slice A l.length c] 112 (0, 0)))
    (hC : Kd.C (Kd.int .u8) w A l.length l) (hc : l.length ≤ c) (h0 : 0 < size) (hs : size ≤ l.length) (hm : l.length ≤ 1000000000000) :
    Calls Try.prog 60 #[.pointer (some ⟨g, 0, none⟩), .int .i64 size] w
      (NumPost g c size A l w) := by
  have hcell : w.cell? ⟨g, 0, none⟩ = some (.slice A l.length c) := (blk_cell hg 0).trans rfl
  have hfree : w.frozen? ⟨g, 0, none⟩ = false := blk_frozen hg 0
  obtain ⟨i0, hi0, _, hsz, _⟩ := info_parts info5
  obtain ⟨hcut, _, _⟩ := print_take_of (P := Try.prog) (Value.int .u8) 0 22 5 .i64 Try.underlying22 hi0 hsz A c l (size : Int) (by omega) (by omega) hc
  obtain ⟨A', hcut2, hA2, _⟩ := print_drop_of (P := Try.prog) (Value.int .u8) 0 22 5 .i64 Try.underlying22 hi0 hsz A c l (size : Int) (by omega) (by omega) hc
  rw [Int.toNat_natCast] at hcut hcut2 hA2
  obtain ⟨ad, eA, _⟩ := Kd.at_int hC 0 (by omega) (by omega)
  subst eA
  have HA2 := Lib.hid hA2
  have HC := Lib.hid hC
  have HG := Lib.hid hg
  clear hA2 hC hg hi0 hsz
  go_enter Try.func60, Try.ntmps60
  go_wp2
  go_loop [5, 15] (fun n i => ∃ k : Nat, k ≤ size ∧ i = .int .i64 k ∧ n = .int .u64 (numOf 0 (l.take k))) (fun _ i => size - (intOf i).toNat)
  case atStart => exact ⟨0, Nat.zero_le _, rfl, rfl⟩
  case round =>
    obtain ⟨k, hk, rfl, rfl⟩ := hrel
    by_cases hlt : k < size
    · obtain ⟨ad', eA', hx⟩ := Kd.at_int HC.out (k : Int) (by omega) (by omega)
      injection eA' with eA'
      subst eA'
      rw [Int.toNat_natCast] at hx
      go_wp2
      go_round
      case rel =>
        refine ⟨k + 1, by omega, by go_num, ?_⟩
        rw [take_rd l k (by omega), numOf_snoc]
      case measure => simp [intOf]; omega
    · obtain rfl : k = size := by omega
      go_wp2
      go_ret
      unfold NumPost
      exact ⟨A', rfl, by simp, fun W hW => Kd.C_of_reads (h1 := fun _ => rfl) (HA2.out W (Kd.reads_of_C hW))⟩
end Go.Proofs.Ytnkkgofpifhoeaa.Pk
